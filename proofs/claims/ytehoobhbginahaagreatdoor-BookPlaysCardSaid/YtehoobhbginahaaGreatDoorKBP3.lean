/- Lens, part 19: what strings.Builder is made of: pointers compared, unsafe pointers, texts appended to bytes, bytes as a text. Lens, part 20: regions that draw their order, in which variables come to be at any time. Lens, part 25: a slice that begins as nil and grows, in a place that is kept free for it. Lens, part 16: what comes in, and what a law's row asks. Texts put together. -/
import Derived.Test.YtehoobhbginahaaGreatDoorKBP2
import Derived.Lib.Builder
import Derived.Lib.AppendStr
import Derived.Lib.UnsafeStr
import Derived.Laws.BytesString
import Derived.Laws.Pointers
import Derived.Carry
import Derived.WalkKit
import Derived.ProofKit
import Derived.ChangeOld
import Derived.ChangeArms
import Derived.OpenShut
import Derived.DataElems
import Derived.SizedLaws

set_option linter.unusedVariables false
set_option linter.unusedSimpArgs false
namespace Go.Lens
open Go Go.RowKit
def bytesAV (s : List UInt8) : List AV := s.map fun c => .int .u8 c.toNat
theorem bytesAV_length (s : List UInt8) : (bytesAV s).length = s.length := by simp [bytesAV]
theorem bytesAV_append (s t : List UInt8) : bytesAV (s ++ t) = bytesAV s ++ bytesAV t := by simp [bytesAV]
@[simp] theorem bytesAV_plain (l : List UInt8) : plainL (bytesAV l) = true := by
  induction l with
  | nil => rfl
  | cons x l ih => simp only [bytesAV, List.map_cons, plainL, AV.plain, Bool.true_and]; exact ih
def byteVals (s : List UInt8) : List Value := s.map fun c => Value.int .u8 c.toNat
theorem bytes_rel {w : World} {H : View} : ∀ {s : List UInt8} {vs : List Value}, RelL w (bytesAV s) H vs ↔ vs = byteVals s
 | [], vs => by simp [bytesAV, byteVals, RelL]
 | c :: s, vs => by
  simp only [bytesAV, byteVals, List.map_cons, RelL]
  constructor
  ·rintro ⟨v, vs', rfl, h1, h2⟩
   simp only [RelV] at h1
   rw [h1, (bytes_rel (s := s)).1 h2]; rfl
  ·rintro rfl
   exact ⟨_, _, rfl, rfl, (bytes_rel (s := s)).2 rfl⟩
/-! ### pointers -/
theorem v_isnil_nilp {C : Ctx} {o : Oper} {st : St} {t t' e : TypeId} {x : Operand} {y : Ty} (hop : o.op = .binOp .eql t x (.const (.pointer none)) t')
  (hx : ev st x = some .nilp) (hy : C.T.at t = some y) (hk : y.k = .pointer e) : VStep C o st (.bool true) st.objs := by
 refine VStep.of_pure fun H a w hi => ?_
 obtain ⟨d, i, hdd, _, hkd, _⟩ := C.ty hy
 rw [hk] at hkd
 obtain rfl := kOf_pointer hkd
 have h1 := ev_rel hi hx
 simp only [RelV] at h1
 refine ⟨.bool true, ?_, rfl⟩
 have hc0 : a.eval (.const (.pointer none)) = .pointer none := rfl
 have hp : C.P.underlying t = some (.pointer (C.P.pointee t)) := by simp [Program.pointee, hdd]
 simp only [execOp, hop, h1, hc0, Sem.run_bind, eqGuard_at_pointer, Sem.run_pure, Result.andThen_ok, run_eql_pointer_nil w t none hp]
 rfl
theorem v_isnil_ptr {C : Ctx} {o : Oper} {st : St} {t t' e : TypeId} {x : Operand} {y : Ty} {ob ver i esz : Nat} {cs : List AV} {flat : Bool} {own : Option TypeId} (hop : o.op = .binOp .eql t x (.const (.pointer none)) t')
  (hx : ev st x = some (.ptr ob ver i)) (hob : st.objs[ob]? = some (.cells cs ver esz flat own)) (hy : C.T.at t = some y) (hk : y.k = .pointer e) : VStep C o st (.bool false) st.objs := by
 refine VStep.of_pure fun H a w hi => ?_
 obtain ⟨d, i', hdd, _, hkd, _⟩ := C.ty hy
 rw [hk] at hkd
 obtain rfl := kOf_pointer hkd
 obtain ⟨_, _, hp0⟩ := ev_rel hi hx
 have h1 := hp0 (hi.objs.rel ob _ hob).1
 refine ⟨.bool false, ?_, rfl⟩
 have hc0 : a.eval (.const (.pointer none)) = .pointer none := rfl
 have hp : C.P.underlying t = some (.pointer (C.P.pointee t)) := by simp [Program.pointee, hdd]
 simp only [execOp, hop, h1, hc0, Sem.run_bind, eqGuard_at_pointer, Sem.run_pure, Result.andThen_ok, run_eql_pointer_nil w t _ hp]
 rfl
theorem v_same_ptr {C : Ctx} {o : Oper} {st : St} {t t' e : TypeId} {x x' : Operand} {y ye : Ty} {ob ver i esz : Nat} {cs : List AV} {flat : Bool} {own : Option TypeId} (hop : o.op = .binOp .neq t x x' t')
  (hx : ev st x = some (.ptr ob ver i)) (hx' : ev st x' = some (.ptr ob ver i)) (hob : st.objs[ob]? = some (.cells cs ver esz flat own)) (hy : C.T.at t = some y) (hk : y.k = .pointer e) (hye : C.T.at e = some ye) : VStep C o st (.bool false) st.objs := by
 refine VStep.of_pure fun H a w hi => ?_
 obtain ⟨d, i', hdd, _, hkd, _⟩ := C.ty hy
 rw [hk] at hkd
 obtain rfl := kOf_pointer hkd
 obtain ⟨_, ie, _, hie, _⟩ := C.ty hye
 obtain ⟨_, _, hp0⟩ := ev_rel hi hx
 obtain ⟨_, _, hp1⟩ := ev_rel hi hx'
 have h1 := hp0 (hi.objs.rel ob _ hob).1
 have h2 := hp1 (hi.objs.rel ob _ hob).1
 refine ⟨.bool false, ?_, rfl⟩
 simp only [execOp, hop, h1, h2, Sem.run_bind, eqGuard_at_pointer, Sem.run_pure, Result.andThen_ok, Lib.run_neq_ptr_same w _ hdd hie]
theorem liesAt_self {P : Program} {e : TypeId} {s : Nat} (hc : P.cellsOf e = s) (hs : 0 < s) (count : Nat) (hn : 1 ≤ count) : liesAt P P.depth e count 0 e 1 = true := by
 have hd : P.depth = (2 * (P.types.size + Made.depth) + 1) + 1 := rfl
 rw [hd]
 simp only [liesAt, Bool.or_eq_true]
 left
 rw [hd]
 have : s ≠ 0 := by omega
 simp [rowAt, hc, hn, sameLayout, this]
/-- a variable whose block's type is known -/
theorem v_allocT {C : Ctx} {o : Oper} {env : List (Nat × AV)} {objs : List AObj} {t : TypeId} {y : Ty} {z : List Value} {ds : List AV} (hop : o.op = .alloc t) (hy : C.T.at t = some y) (hz : y.zero = some z) (hd : ofVals z = some ds) (hzl : z.length = y.size) :
  VStep C o ⟨env, objs⟩ (.ptr objs.length 0 0) (objs ++ [.cells ds 0 y.size false (some t)]) := by
 intro H a w hi
 obtain ⟨v, hv, hc⟩ := run_zeroValue hy hz w
 refine ⟨_, w.alloc (.cells z.toArray t), H.add w.heap.size 1, ?_, hi.newCells t y.size 1 false (some t) _ (ofVals_rel hd) (fun j u hu => by simpa using hu) (fun t' h => ?_), new_ptr hi _ 1⟩
 ·simp [execOp, hop, Instr.alloc, newVar, newRow, hv, hc]
 ·injection h with h
  exact ⟨h, by simp [hzl], by simp [maxLen], 1, by simp [hzl], Nat.le_refl _⟩
theorem v_to_unsafe {C : Ctx} {o : Oper} {env : List (Nat × AV)} {objs : List AObj} {s d e : TypeId} {x : Operand} {ys ye : Ty} {ob ver i esz : Nat} {cs : List AV} {flat : Bool} {own : Option TypeId} (hop : o.op = .convert s d x)
  (hx : ev ⟨env, objs⟩ x = some (.ptr ob ver i)) (hob : objs[ob]? = some (.cells cs ver esz flat own)) (hlt : i < cs.length) (hys : C.T.at s = some ys) (hk : ys.k = .pointer e) (hye : C.T.at e = some ye) (hsz : 0 < ye.size) (hd : C.P.underlying d = some .unsafePointer) :
  VStep C o ⟨env, objs⟩ (.ptr ob ver i) objs := by
 refine VStep.of_pure (st := ⟨env, objs⟩) fun H a w hi => ?_
 obtain ⟨dd, i', hdd, _, hkd, _⟩ := C.ty hys
 rw [hk] at hkd
 obtain rfl := kOf_pointer hkd
 obtain ⟨_, ie, _, hie, _, hss, _⟩ := C.ty hye
 obtain ⟨g1, g2, vs, c, e', g3, g4, g5, g6⟩ := hi.objs.rel ob _ hob
 have hr := ev_rel hi hx
 have h1 := hr.2.2 g1
 have hl := g4.length
 have hsh : w.shape? (H.blk ob) = some (e', c.size) := by simp [World.shape?, g3]
 have hoff : H.off ob + i < c.size := by
  have := g5 i vs[i] (by simp [show i < vs.length by omega])
  exact (Array.getElem?_eq_some_iff.1 this).1
 refine ⟨.pointer (some ⟨H.blk ob, H.off ob + i, none⟩), ?_, by rw [← h1]; exact hr⟩
 simp only [execOp, hop, h1, Sem.run_bind, Lib.run_to_unsafe w ⟨H.blk ob, H.off ob + i, none⟩ hdd hd hie (by rw [← hss]; omega) hsh hoff, Result.andThen_ok, Sem.run_pure]
theorem v_from_unsafe {C : Ctx} {o : Oper} {env : List (Nat × AV)} {objs : List AObj} {s d u : TypeId} {x : Operand} {yd yu : Ty} {ob ver esz : Nat} {cs : List AV} {flat : Bool} (hop : o.op = .convert s d x)
  (hx : ev ⟨env, objs⟩ x = some (.ptr ob ver 0)) (hob : objs[ob]? = some (.cells cs ver esz flat (some u))) (hlt : 0 < cs.length) (hs : C.P.underlying s = some .unsafePointer) (hyd : C.T.at d = some yd) (hk : yd.k = .pointer u) (hyu : C.T.at u = some yu) (hsz : yu.size = esz) (hpos : 0 < esz) :
  VStep C o ⟨env, objs⟩ (.ptr ob ver 0) objs := by
 refine VStep.of_pure (st := ⟨env, objs⟩) fun H a w hi => ?_
 obtain ⟨dd, i', hdd, _, hkd, _⟩ := C.ty hyd
 rw [hk] at hkd
 obtain rfl := kOf_pointer hkd
 obtain ⟨_, iu, _, hiu, _, hss, _⟩ := C.ty hyu
 obtain ⟨g1, g2, vs, c, e', g3, g4, g5, g6⟩ := hi.objs.rel ob _ hob
 obtain ⟨rfl, p2, p3, p4, N, p5, p6⟩ := g6 u rfl
 have hr := ev_rel hi hx
 have h1 := hr.2.2 g1
 have hl := g4.length
 have hcell : C.P.cellsOf e' = esz := by simp [Program.cellsOf, hiu, ← hss, hsz]
 have hN : 1 ≤ N := by
  rcases Nat.eq_zero_or_pos N with h | h
  ·subst h; omega
  ·exact h
 have hsh : w.shape? (H.blk ob) = some (e', c.size) := by simp [World.shape?, g3]
 have hcount : c.size / C.P.cellsOf e' = H.cap ob := by rw [hcell, p3, Nat.mul_div_cancel _ hpos]
 have hz : H.off ob + 0 = 0 := by omega
 refine ⟨.pointer (some ⟨H.blk ob, H.off ob + 0, none⟩), ?_, by rw [← h1]; exact hr⟩
 rw [hz] at h1 ⊢
 simp only [execOp, hop, h1, Sem.run_bind, Lib.run_from_unsafe w ⟨H.blk ob, 0, none⟩ hs hdd hiu hsh (by rw [hcount]; exact liesAt_self hcell hpos _ (by omega)), Result.andThen_ok, Sem.run_pure]
theorem noEscape_row {P : Program} {ob ver i : Nat} (H : View) (w : World) (vs : List Value) (h : RelL w [.ptr ob ver i] H vs) : ∃ v, (Extern.AbiNoEscape.same vs.toArray).run P w = .ok v w ∧ RelV w (.ptr ob ver i) H v := by
 obtain ⟨v, _, rfl, h1, rfl⟩ := h
 exact ⟨v, rfl, h1⟩
/-! ### a text behind bytes -/
theorem append_str_at {P : Program} (w : World) (base : Nat) (t u ty e : TypeId) (i : TypeInfo) (ht : P.underlying t = some (.slice e)) (hu : P.underlying u = some .string) (hi : P.info? e = some i) (hz : i.zero = some (.int .u8 0))
  (hsize : i.size = 1) (hby : i.bytes = 1) (v : Value) (n : Nat) (xs : List Value) (hown : w.ownsRow base e 1 v n xs) (s : ByteArray) (hbytes : n + s.size ≤ 140737488355328) (hbase : base ≤ w.heap.size) :
  ∃ v' w', (Builtin.append_ #[t, u] ty #[v, .string s]).run P w = .ok v' w' ∧ w'.ownsRow base e 1 v' (n + s.size) (xs ++ Lib.strCells s) ∧ w.grownBy w' v.ownBlock ∧
   (v' = .slice none 0 0 ↔ v = .slice none 0 0 ∧ s.size = 0) ∧ (v'.ownBlock = v.ownBlock ∨ v'.ownBlock = some w.heap.size) := by
 obtain ⟨v', w', r1, r2, r3, r4⟩ := Lib.run_append_own_string w base t u ty e i ht hu hi hz hsize hby v n xs hown s (by simp only [maxLen]; omega) hbytes hbase
 refine ⟨v', w', r1, r2, r3, r4, ?_⟩
 have hxl : xs.length = n := by simpa using hown.1
 rcases hown.2 with ⟨rfl, rfl⟩ | ⟨g, cap, cur, rfl, hbg, hg, hnc, hcm, hcs, htake⟩
 ·by_cases hm : s.size = 0
  ·rw [r4.2 ⟨rfl, hm⟩]; exact .inl rfl
  ·have hr := run_append_nil_string (P := P) w t u ty e i (.int .u8 0) ht hu hi hz s (by omega) (by omega) (by rw [hby]; omega)
   rw [hr] at r1
   injection r1 with h1 h2
   rw [← h1]; exact .inr rfl
 ·have hcs' : cur.size = cap := by simpa using hcs
  by_cases hroom : n + s.size ≤ cap
  ·have hr := Lib.run_append_room_string (P := P) w t u ty e i ht hu hi hsize g n cap cur hg s hroom (by omega)
   rw [hr] at r1
   injection r1 with h1 h2
   rw [← h1]; exact .inl rfl
  ·have hr := Lib.run_append_grow_string (P := P) w t u ty e i (.int .u8 0) ht hu hi hz ⟨g, 0, none⟩ n cap xs (by rw [hsize]; simpa using hxl) (hown.cells (g := g) rfl) s (by omega) (by omega) (by rw [hby]; exact growslice_fits (by omega) (by omega))
   rw [hr] at r1
   injection r1 with h1 h2
   rw [← h1]; exact .inr rfl
theorem strCells_of (s : List UInt8) : Lib.strCells ⟨s.toArray⟩ = byteVals s := by simp [Lib.strCells, byteVals]
theorem size_of (s : List UInt8) : (ByteArray.mk s.toArray).size = s.length := by simp [ByteArray.size]
/-- a row that has come to be, as an object -/
theorem new_row {C : Ctx} {H : View} {env : List (Nat × AV)} {objs : List AObj} {a : Act} {w w' : World} (hi : Inv C H ⟨env, objs⟩ a w) {e : TypeId} {esz m : Nat} {ds : List AV} {news : List Value} {v' : Value} (r2 : w'.ownsRow w.heap.size e esz v' m news) (r3 : w.grownBy w' none) (hm : 0 < m)
  (h3 : RelL w ds H.bare news) : ∃ H', Inv C H' ⟨env, objs ++ [.cells ds 0 esz true (some e)]⟩ a w' ∧ RelV w' (.sl objs.length 0 0 m true) H' v' := by
 obtain ⟨q1, q2⟩ := r2
 rcases q2 with ⟨rfl, q2⟩ | ⟨g, cp, cur, rfl, q3, q4, q5, q6, q7, q8⟩
 ·omega
 have hn := hi.objs.n
 have hn' : H.n = objs.length := hn
 let H' : View := { n := H.n + 1, blk := fun o => if o = H.n then g else H.blk o, off := fun o => if o = H.n then 0 else H.off o, cap := fun o => if o = H.n then cp else H.cap o, ver := fun o => if o = H.n then 0 else H.ver o, wr := fun b => H.wr b ∨ b = g }
 have hfr : ∀ b, b < w.heap.size → w'.heap[b]? = w.heap[b]? := fun b hb => r3.block b hb (by simp)
 have hgl : g < w'.heap.size := (Array.getElem?_eq_some_iff.1 q4).1
 have hK : Keeps w H w' H' := by
  refine ⟨fun ad u hc hx => ?_, fun b hb hw => ?_, Nat.le_succ _, fun o ho => ?_, fun o ho _ => ?_⟩
  ·rw [World.cell?_of_block (w := w) (hfr _ (World.block_lt_of_cell? w ad hc))]; exact hc
  ·rcases hw with hw | hw
   ·exact hw
   ·omega
  ·have : o ≠ H.n := by omega
   simp [H', this]
  ·have : o ≠ H.n := by omega
   simp [H', this]
 have hlive : ∀ i ob, objs[i]? = some ob → ob.live = true → H.blk i < w.heap.size := fun i ob h1 h2 => hi.objs.lt _ (hi.objs.wr_blk h1 h2)
 refine ⟨H', ?_, ?_⟩
 ·refine hi.move (objs' := objs ++ [.cells ds 0 esz true (some e)]) hK ⟨by simp [H', hn'], ?_, ?_, ?_⟩ ?_ (by have := hi.klen; simp at this ⊢; omega) ?_ ?_ ?_ ?_ ?_ r3.size r3.os r3.tape r3.output
  ·intro i' ob hob
   rcases get_snoc hob with ⟨hlt, hob⟩ | ⟨he, rfl⟩
   ·have hne : i' ≠ H.n := by omega
    by_cases hl : ob.live = true
    ·exact (hi.objs.rel i' ob hob).keeps hK (by simp [H', hne]) (by simp [H', hne]) (by simp [H', hne]) (by simp [H', hne]) (fun h => .inl h) (hfr _ (hlive i' ob hob hl))
    ·cases ob <;> first | trivial | (simp [AObj.live] at hl; done) | (have := hi.objs.rel i' _ hob; simpa [RelO, H', hne] using this)
   ·have he : i' = H.n := by omega
    subst he
    refine ⟨by simp [H'], by simp [H'], news, cur, e, by simpa [H'] using q4, ?_, ?_, ?_⟩
    ·exact h3.keeps ds hK.bare
    ·intro j u hu
     rw [← q8, List.getElem?_take] at hu
     split at hu
     ·simpa [H'] using hu
     ·cases hu
    ·intro t' ht'
     injection ht' with ht'
     exact ⟨ht', by simp [H'], by simpa [H'] using q7, by simpa [H'] using q6, m, q1, by simpa [H'] using q5⟩
  ·intro i1 i2 ob1 ob2 p1 p2 l1 l2 hbb'
   rcases get_snoc p1 with ⟨a1, b1⟩ | ⟨a1, b1⟩ <;> rcases get_snoc p2 with ⟨a2, b2⟩ | ⟨a2, b2⟩
   ·simp only [H', if_neg (show i1 ≠ H.n by omega), if_neg (show i2 ≠ H.n by omega)] at hbb'
    exact hi.objs.inj _ _ _ _ b1 b2 l1 l2 hbb'
   ·simp only [H', if_neg (show i1 ≠ H.n by omega), if_pos (show i2 = H.n by omega)] at hbb'
    have := hlive _ _ b1 l1; omega
   ·simp only [H', if_pos (show i1 = H.n by omega), if_neg (show i2 ≠ H.n by omega)] at hbb'
    have := hlive _ _ b2 l2; omega
   ·omega
  ·intro b hb
   rcases hb with hb | hb
   ·have := hi.objs.lt b hb; have := r3.size; omega
   ·omega
  ·intro b hb
   refine ⟨fun h => h.resolve_right (by have := hi.le; omega), .inl⟩
  ·intro x hx
   have := hi.klen
   have : x ≠ H.n := by simp at *; omega
   simp [H', this]
  ·intro x cs ver esz flat own hx hob
   have := hi.klen
   rw [List.getElem?_append_left (by simp at *; omega)] at hob
   exact hi.lens x cs ver esz flat own hx hob
  ·intro x hx
   exact Outside.of_eq (hfr _ (Nat.lt_of_lt_of_le (C.hk x hx) hi.le)) _ _
  ·intro i' ob hob hl
   rcases get_snoc hob with ⟨hlt, hob⟩ | ⟨he, rfl⟩
   ·simp only [H', if_neg (show i' ≠ H.n by omega)]
    exact hi.own i' ob hob hl
   ·simp only [H', if_pos (show i' = H.n by omega)]
    exact .inr (Nat.le_trans hi.le q3)
  ·intro b hb hM
   exact hfr b (Nat.lt_of_lt_of_le hb hi.le)
 ·refine ⟨by simp [H']; omega, by simp [H', hn'], fun _ => ⟨⟨g, 0, none⟩, cp, rfl, q5, fun _ => by simp [H', hn'], fun _ => ⟨by simp [H', hn'], rfl, by simp [H', hn']⟩⟩⟩
theorem v_append_str_nil {C : Ctx} {o : Oper} {env : List (Nat × AV)} {objs : List AObj} {sl x : Operand} {t u e : TypeId} {y yu ye : Ty} {s : List UInt8} (hop : o.op = .call { callee := .builtin .append, args := #[sl, x], argTypes := #[t, u] })
  (hs : ev ⟨env, objs⟩ sl = some .nils) (hx : ev ⟨env, objs⟩ x = some (.str s)) (hy : C.T.at t = some y) (hk : y.k = .slice e) (hyu : C.T.at u = some yu) (hku : yu.k = .string) (hye : C.T.at e = some ye) (hz : (C.P.info? e).bind (fun i => i.zero) = some (.int .u8 0)) (hsz : ye.size = 1) (hbb : ye.bytes = 1)
  (hne : s ≠ []) (hbytes : s.length ≤ 140737488355328) : VStep C o ⟨env, objs⟩ (.sl objs.length 0 0 s.length true) (objs ++ [.cells (bytesAV s) 0 1 true (some e)]) := by
 intro H a w hi
 have h1 := ev_rel hi hs
 have h2 := ev_rel hi hx
 simp only [RelV] at h1 h2
 obtain ⟨d, i, hd, _, hkd, _⟩ := C.ty hy
 rw [hk] at hkd
 obtain rfl := kOf_slice hkd
 obtain ⟨du, iu, hdu, _, hkdu, _⟩ := C.ty hyu
 rw [hku] at hkdu
 obtain rfl := kOf_string hkdu
 obtain ⟨de, ie, hde, hie, _, hss, hb2, hzz⟩ := C.ty hye
 have hz0' : ie.zero = some (.int .u8 0) := by
  rw [hie] at hz
  exact hz
 have hpos : 0 < s.length := List.length_pos_iff.2 hne
 obtain ⟨v', w', r1, r2, r3, r4, r5⟩ := append_str_at (P := C.P) w w.heap.size t u o.type e ie hd hdu hie hz0' (by rw [← hss, hsz]) (by rw [← hb2, hbb]) (.slice none 0 0) 0 [] (World.ownsRow_nil w _ e _) ⟨s.toArray⟩ (by rw [size_of]; omega) (Nat.le_refl _)
 rw [size_of, strCells_of, Nat.zero_add, List.nil_append] at r2
 obtain ⟨H', k1, k2⟩ := new_row hi (ds := bytesAV s) r2 (by simpa [Value.ownBlock] using r3) hpos (bytes_rel.2 rfl)
 refine ⟨v', w', H', ?_, k1, k2⟩
 simp only [execOp, hop, resolve, invoke, builtin, Sem.run_bind, Sem.run_pure, Result.andThen_ok, List.map_toArray, List.map_cons, List.map_nil, h1, h2, r1]
theorem v_append_str_own {C : Ctx} {o : Oper} {env : List (Nat × AV)} {objs : List AObj} {sl x : Operand} {t u e : TypeId} {y yu ye : Ty} {s s0 : List UInt8} {ob ver : Nat} (hop : o.op = .call { callee := .builtin .append, args := #[sl, x], argTypes := #[t, u] })
  (hs : ev ⟨env, objs⟩ sl = some (.sl ob ver 0 s0.length true)) (hob : objs[ob]? = some (.cells (bytesAV s0) ver 1 true (some e))) (hx : ev ⟨env, objs⟩ x = some (.str s)) (hy : C.T.at t = some y) (hk : y.k = .slice e) (hyu : C.T.at u = some yu) (hku : yu.k = .string)
  (hye : C.T.at e = some ye) (hz : (C.P.info? e).bind (fun i => i.zero) = some (.int .u8 0)) (hsz : ye.size = 1) (hbb : ye.bytes = 1) (hbytes : s0.length + s.length ≤ 140737488355328) :
  VStep C o ⟨env, objs⟩ (.sl ob (ver + 1) 0 (s0 ++ s).length true) (objs.set ob (.cells (bytesAV (s0 ++ s)) (ver + 1) 1 true (some e))) := by
 intro H a w hi
 have hx2 := ev_rel hi hx
 simp only [RelV] at hx2
 obtain ⟨g1, g2, vs, cc, e', g3, g4, g5, g6⟩ := hi.objs.rel ob _ hob
 obtain ⟨rfl, p2, p3, p4, N, p5, p6⟩ := g6 e rfl
 obtain ⟨o1, o2, o3⟩ := ev_rel hi hs
 obtain ⟨ad0, cap0, f1, f2, f3, f4⟩ := o3 g1
 obtain ⟨rfl, _, rfl⟩ := f4 rfl
 obtain ⟨d, i, hd, _, hkd, _⟩ := C.ty hy
 rw [hk] at hkd
 obtain rfl := kOf_slice hkd
 obtain ⟨du, iu, hdu, _, hkdu, _⟩ := C.ty hyu
 rw [hku] at hkdu
 obtain rfl := kOf_string hkdu
 obtain ⟨de, ie, hde, hie, _, hss, hb2, hzz⟩ := C.ty hye
 have hz0' : ie.zero = some (.int .u8 0) := by
  rw [hie] at hz
  exact hz
 obtain rfl := bytes_rel.1 g4
 have hlenv : (byteVals s0).length = s0.length := by simp [byteVals]
 have hown : w.ownsRow C.w0.heap.size e' 1 (.slice (some ⟨H.blk ob, 0, none⟩) s0.length (H.cap ob)) s0.length (byteVals s0) := by
  refine ⟨by omega, .inr ⟨H.blk ob, H.cap ob, cc, rfl, ?_, g3, f2, p4, p3, ?_⟩⟩
  ·rcases hi.own ob _ hob rfl with ⟨_, h⟩ | h
   ·cases h
   ·exact h
  ·apply List.ext_getElem?
   intro j
   rw [List.getElem?_take]
   split
   ·rename_i hj
    have hjv : j < (byteVals s0).length := by omega
    have := g5 j (byteVals s0)[j] (by simp [hjv])
    rw [p2, Nat.zero_add] at this
    rw [Array.getElem?_toList, this]; simp [hjv]
   ·rename_i hj
    rw [List.getElem?_eq_none (by omega)]
 obtain ⟨v', w', r1, r2, r3, r4, r5⟩ := append_str_at (P := C.P) w C.w0.heap.size t u o.type e' ie hd hdu hie hz0' (by rw [← hss, hsz]) (by rw [← hb2, hbb]) _ s0.length _ hown ⟨s.toArray⟩ (by rw [size_of]; omega) hi.le
 rw [size_of, strCells_of] at r2
 obtain ⟨q1, q2⟩ := r2
 rcases q2 with ⟨rfl, q2⟩ | ⟨g, cp, cur, rfl, q3, q4, q5, q6, q7, q8⟩
 ·have := (r4.1 rfl).1; simp at this
 have hgl : g < w'.heap.size := (Array.getElem?_eq_some_iff.1 q4).1
 let H' : View := { n := H.n, blk := fun o => if o = ob then g else H.blk o, off := fun o => if o = ob then 0 else H.off o, cap := fun o => if o = ob then cp else H.cap o, ver := fun o => if o = ob then ver + 1 else H.ver o, wr := fun b => H.wr b ∨ (b = g ∧ w.heap.size ≤ b) }
 have hobk : ¬ ob < C.k := by
  intro hlt
  rcases hi.own ob _ hob rfl with ⟨_, h⟩ | h
  ·cases h
  ·have := C.hk ob hlt
   rw [← (hi.byref ob hlt).1] at this; omega
 have hg : g = H.blk ob ∨ g = w.heap.size := by simpa [Value.ownBlock] using r5
 have hbl := hi.objs.lt _ g2
 have hwo : ∀ b, H'.wr b ↔ (H.wr b ∨ (b = H'.blk ob ∧ w.heap.size ≤ b)) := fun b => by simp [H']
 have hfr : ∀ b, b < w.heap.size → b ≠ H.blk ob → w'.heap[b]? = w.heap[b]? := fun b hb hne => r3.block b hb (by simpa [Value.ownBlock] using hne)
 have hlen2 : (s0 ++ s).length = s0.length + s.length := List.length_append
 refine ⟨.slice (some ⟨g, 0, none⟩) (s0.length + s.length) cp, w', H', ?_, ?_, ?_⟩
 ·simp only [execOp, hop, resolve, invoke, builtin, Sem.run_bind, Sem.run_pure, Result.andThen_ok, List.map_toArray, List.map_cons, List.map_nil, f1, hx2, r1]
 ·refine hi.write (ob := .cells (bytesAV s0) ver 1 true (some e')) (H' := H') hob rfl (fun h => rfl) ⟨rfl, fun x hx => ⟨by simp [H', hx], by simp [H', hx], by simp [H', hx], by simp [H', hx]⟩⟩ (.inr (by simp [H', g1])) ?_ (fun h => absurd h hobk) hwo hfr r3.size r3.os r3.tape r3.output ?_
  ·rcases hg with hg | hg
   ·exact .inl (by simp [H', hg])
   ·exact .inr ⟨by simp [H', hg], by simpa [H'] using hgl⟩
  ·refine ⟨by simp [H'], ?_, byteVals s0 ++ byteVals s, cur, e', by simpa [H'] using q4, ?_, ?_, ?_⟩
   ·rcases hg with hg | hg
    ·exact .inl (by simpa [H', hg] using g2)
    ·exact .inr ⟨by simp [H'], by simp [H', hg]⟩
   ·exact bytes_rel.2 (by simp [byteVals])
   ·intro j u hu
    rw [← q8, List.getElem?_take] at hu
    split at hu
    ·simpa [H'] using hu
    ·cases hu
   ·intro t' ht'
    injection ht' with ht'
    exact ⟨ht', by simp [H'], by simpa [H'] using q7, by simpa [H'] using q6, s0.length + s.length, q1, by simpa [H'] using q5⟩
 ·refine ⟨o1, by simp [H'], fun _ => ⟨⟨g, 0, none⟩, cp, by rw [hlen2], by rw [hlen2]; exact q5, fun _ => by simp [H'], fun _ => ⟨by simp [H'], rfl, by simp [H']⟩⟩⟩
/-! ### bytes as a text -/
theorem v_sdata {C : Ctx} {o : Oper} {env : List (Nat × AV)} {objs : List AObj} {x : Operand} {ts : Array TypeId} {ob ver off n esz : Nat} {full : Bool} {cs : List AV} {flat : Bool} {own : Option TypeId} (hop : o.op = .call { callee := .builtin .unsafeSliceData, args := #[x], argTypes := ts })
  (hx : ev ⟨env, objs⟩ x = some (.sl ob ver off n full)) (hob : objs[ob]? = some (.cells cs ver esz flat own)) (hn : 0 < n) : VStep C o ⟨env, objs⟩ (.ptr ob ver off) objs := by
 refine VStep.of_pure (st := ⟨env, objs⟩) fun H a w hi => ?_
 have g1 := (hi.objs.rel ob _ hob).1
 obtain ⟨o1, o2, o3⟩ := ev_rel hi hx
 obtain ⟨ad, c, f1, f2, f3, f4⟩ := o3 g1
 have f3 := f3 hn
 refine ⟨.pointer (some ad), ?_, o1, o2, fun _ => by rw [f3]⟩
 simp only [execOp, hop, resolve, invoke, builtin, Sem.run_bind, Sem.run_pure, Result.andThen_ok, List.map_toArray, List.map_cons, List.map_nil, f1, Lib.run_unsafeSliceData_row w ts o.type ad n c (by omega)]
/-- the bytes are a text's from now on: the object is given up -/
theorem v_ustr {C : Ctx} {o : Oper} {env : List (Nat × AV)} {objs : List AObj} {x x' : Operand} {pt it e : TypeId} {yp ye : Ty} {ob ver : Nat} {s : List UInt8} (hop : o.op = .call { callee := .builtin .unsafeString, args := #[x, x'], argTypes := #[pt, it] })
  (hx : ev ⟨env, objs⟩ x = some (.ptr ob ver 0)) (hx' : ev ⟨env, objs⟩ x' = some (.int .i64 s.length)) (hob : objs[ob]? = some (.cells (bytesAV s) ver 1 true (some e))) (hne : s ≠ []) (hyp : C.T.at pt = some yp) (hk : yp.k = .pointer e) (hye : C.T.at e = some ye) (hsz : ye.size = 1)
  (hlen : s.length ≤ 9223372036854775807) : VStep C o ⟨env, objs⟩ (.str s) (objs.set ob .dead) := by
 intro H a w hi
 obtain ⟨g1, g2, vs, cc, e', g3, g4, g5, g6⟩ := hi.objs.rel ob _ hob
 obtain ⟨rfl, p2, p3, p4, N, p5, p6⟩ := g6 e rfl
 obtain ⟨o1, o2, o3⟩ := ev_rel hi hx
 have h1 := o3 g1
 have h2 := ev_rel hi hx'
 simp only [RelV] at h2
 obtain rfl := bytes_rel.1 g4
 obtain ⟨d, i, hd, _, hkd, _⟩ := C.ty hyp
 rw [hk] at hkd
 obtain rfl := kOf_pointer hkd
 obtain ⟨de, ie, hde, hie, _, hss, _⟩ := C.ty hye
 have hcell : C.P.cellsOf e' = 1 := by simp [Program.cellsOf, hie, ← hss, hsz]
 have hbv : (byteVals s).length = s.length := by simp [byteVals]
 rw [p2, Nat.zero_add] at h1
 have hrun := Lib.run_unsafeString_row (P := C.P) w pt it o.type e' hd hcell (H.blk ob) cc.size (by simp [World.shape?, g3]) s hne (by rw [p3, Nat.mul_one]; omega) hlen (fun j c hj => by
  have := g5 j (.int .u8 c.toNat) (by simp [byteVals, hj])
  rw [p2, Nat.zero_add] at this
  rw [add_mk]
  simp only [World.cell?, g3, Option.isSome_none, Bool.false_eq_true, if_false, Nat.zero_add]
  exact this)
 have hpos : s.length ≠ 0 := by simpa using hne
 have hobk : ¬ ob < C.k := by
  intro hlt
  rcases hi.own ob _ hob rfl with ⟨_, h⟩ | h
  ·cases h
  ·have := C.hk ob hlt
   rw [← (hi.byref ob hlt).1] at this; omega
 let H' : View := { H with ver := fun o => if o = ob then ver + 1 else H.ver o }
 refine ⟨.string ⟨s.toArray⟩, w.freeze ⟨H.blk ob, 0, none⟩ s.length, H', ?_, ?_, rfl⟩
 ·simp only [execOp, hop, resolve, invoke, builtin, Sem.run_bind, Sem.run_pure, Result.andThen_ok, List.map_toArray, List.map_cons, List.map_nil, h1, h2, hrun]
 ·have hbl := hi.objs.lt _ g2
  refine hi.write (st := ⟨env, objs⟩) (ob' := .dead) (H' := H') hob rfl (fun h => by cases h) ⟨rfl, fun x hx => ⟨rfl, rfl, rfl, by simp [H', hx]⟩⟩ (.inr (by simp [H', g1])) (.inl rfl) (fun h => absurd h hobk) (fun b => ⟨.inl, fun h => h.elim id fun h => by have : b = H.blk ob := h.1; omega⟩) (fun b hb hne => ?_) ?_ ?_ ?_ ?_ trivial
  ·simp only [World.freeze, if_neg hpos, Array.getElem?_modify]
   rw [if_neg (fun h => hne h.symm)]
  ·simp [World.freeze, hpos]
  ·simp [World.freeze, hpos]
  ·simp [World.freeze, hpos]
  ·simp [World.freeze, hpos]
theorem push_bytes (l : List UInt8) : ∀ acc : ByteArray, (l.map fun c => ((c.toNat : Nat) : Int)).foldl (fun r n => r.push (UInt8.ofNat n.toNat)) acc = ⟨acc.data ++ l.toArray⟩ := by
 induction l with
 | nil => intro acc; simp
 | cons c l ih =>
  intro acc
  simp only [List.map_cons, List.foldl_cons]
  rw [ih]
  simp [ByteArray.push]
/-- bytes, copied to a text -/
theorem v_bytes_str {C : Ctx} {o : Oper} {env : List (Nat × AV)} {objs : List AObj} {s d e : TypeId} {x : Operand} {ys yd ye : Ty} {ob ver off n : Nat} {full : Bool} {cs : List AV} {own : Option TypeId} {flat : Bool} {esz : Nat} (l : List UInt8) (hop : o.op = .convert s d x)
  (hx : ev ⟨env, objs⟩ x = some (.sl ob ver off n full)) (hob : objs[ob]? = some (.cells cs ver esz flat own)) (hl : (cs.drop off).take n = bytesAV l) (hn : l.length = n) (hys : C.T.at s = some ys) (hk : ys.k = .slice e) (hyd : C.T.at d = some yd) (hkd : yd.k = .string) (hye : C.T.at e = some ye) (hke : ye.k = .int .u8) :
  VStep C o ⟨env, objs⟩ (.str l) objs := by
 refine VStep.of_pure (st := ⟨env, objs⟩) fun H a w hi => ?_
 obtain ⟨d1, i1, hd1, _, hk1, _⟩ := C.ty hys
 rw [hk] at hk1
 obtain rfl := kOf_slice hk1
 obtain ⟨d2, i2, hd2, _, hk2, _⟩ := C.ty hyd
 rw [hkd] at hk2
 obtain rfl := kOf_string hk2
 obtain ⟨d3, i3, hd3, _, hk3, _⟩ := C.ty hye
 rw [hke] at hk3
 obtain rfl := kOf_int hk3
 obtain ⟨g1, g2, vs, cc, e', g3, g4, g5, g6⟩ := hi.objs.rel ob _ hob
 obtain ⟨o1, o2, o3⟩ := ev_rel hi hx
 obtain ⟨ad, c, f1, f2, f3, f4⟩ := o3 g1
 have hrl := (RelL.drop off g4).take n
 rw [hl] at hrl
 have hbv := bytes_rel.1 hrl
 have hload : (loadCells ad n).run C.P w = .ok ((l.map fun c => ((c.toNat : Nat) : Int)).map (Value.int .u8)).toArray w := by
  have h := run_loadCells_list (P := C.P) w ad (byteVals l) (fun j v hj => by
   have hn0 : 0 < n := by
    have := (List.getElem?_eq_some_iff.1 hj).1
    simp [byteVals] at this; omega
   rw [f3 hn0, add_mk]
   rw [← hbv, List.getElem?_take] at hj
   split at hj
   ·rw [List.getElem?_drop] at hj
    have := g5 _ _ hj
    simp only [World.cell?, g3, Option.isSome_none, Bool.false_eq_true, if_false]
    rw [Nat.add_assoc]; exact this
   ·cases hj)
  have e1 : (byteVals l).length = n := by simp [byteVals, hn]
  rw [e1] at h
  rw [h]
  simp [byteVals, Function.comp_def]
 refine ⟨.string ⟨l.toArray⟩, ?_, rfl⟩
 have hrun := run_bytesToString (P := C.P) w ad n c _ hload
 rw [push_bytes] at hrun
 simp only [execOp, hop, f1, convert, Sem.run_bind, run_underlying hd1, run_underlying hd2, run_underlying hd3, Result.andThen_ok, hrun, Sem.run_pure]
 simp
theorem v_any_assign {C : Ctx} {o : Oper} {st : St} {x : Operand} (hop : o.op = .assign x) : VStep C o st .any st.objs :=
 VStep.of_pure fun H a w hi => ⟨a.eval x, by simp [execOp, hop], trivial⟩
/-- a call whose body is walked where it stands -/
theorem si {C : Ctx} {ops : Array Oper} {o : Oper} {rest : List Oper} {env : List (Nat × AV)} {objs : List AObj} {Q : Exit → St → Prop} {x : Operand} {xs : Array Operand} {ts : Array TypeId} {f : FuncId} {fs cs avs args : List AV} {fn : Func} {c : Code} {d : Nat}
  (hf : C.P.funcs[f]? = some fn) (hb : fn.body = some c) (hname : (fn.name == "runtime.NumGoroutine") = false) {nt : Nat} (hnt : fn.ntmps = nt) {rs : List ResultVar} (hrs : fn.results.toList = rs)
  (hop : o.op = .call { callee := .value x, args := xs, argTypes := ts }) (hx : ev ⟨env, objs⟩ x = some (.func (.func f) fs cs)) (hxs : evL ⟨env, objs⟩ xs.toList = some avs) (ha : fs ++ avs ++ cs = args) (hlen : Nat.ble args.length nt = true)
  (hg : gd ops ⟨env, objs⟩ o = some true) (hd : o.dst = some d) (hlt : Nat.blt d C.nt = true)
  (h : ∀ tm, W ⟨C.P, C.T, C.ok, nt, C.w0, C.k, C.H0, C.ln, C.hk, C.hj, (tm, env) :: C.sv⟩ c ⟨envOf 0 args, objs⟩ (fun e st' => (e = .ret ∨ e = .normal) ∧ ∃ cs', resAV C.T st' rs = some cs' ∧ WL C ops rest ⟨(d, tupAV cs') :: env, st'.objs⟩ Q)) :
  WL C ops (o :: rest) ⟨env, objs⟩ Q := by
 refine WL.inl hf hb hname hnt hrs hop hx hxs ha hlen hg (fun t ht => by rw [hd] at ht; injection ht with ht; subst ht; exact Nat.le_of_ble_eq_true hlt) fun tm => ?_
 rw [hd]
 exact h tm
end Go.Lens

set_option linter.unusedVariables false
set_option linter.unusedSimpArgs false
namespace Go.Lens
open Go Go.RowKit
/-- a place that is kept free for an object to come -/
theorem Rel.slot {C : Ctx} {env : List (Nat × AV)} {objs : List AObj} {a : Act} {w : World} (h : Rel C ⟨env, objs⟩ a w) : Rel C ⟨env, objs ++ [.slot]⟩ a w := by
 obtain ⟨H, hi⟩ := h
 have hn := hi.objs.n
 have hn' : H.n = objs.length := hn
 let H' : View := { H with n := H.n + 1, ver := fun o => if o = H.n then 0 else H.ver o }
 have hK : Keeps w H w H' := ⟨fun _ _ h _ => h, fun _ _ h => h, Nat.le_succ _, fun o ho => by simp [H', show o ≠ H.n by omega], fun o ho _ => ⟨rfl, rfl, rfl⟩⟩
 refine ⟨H', hi.move (objs' := objs ++ [.slot]) hK ⟨by simp [H', hn'], fun i ob hob => ?_, fun i i' ob ob' h1 h2 l1 l2 hb => ?_, hi.objs.lt⟩ (fun _ _ => Iff.rfl) (by have := hi.klen; simp at this ⊢; omega) (fun _ _ => ⟨rfl, rfl, rfl⟩) (fun o cs ver esz flat own ho hob => ?_) (fun o ho => Outside.of_eq rfl _ _) (fun i ob hob hl => ?_) (fun _ _ _ => rfl) (Nat.le_refl _) rfl rfl rfl⟩
 ·rcases get_snoc hob with ⟨hlt, hob⟩ | ⟨he, rfl⟩
  ·have hne : i ≠ H.n := by omega
   by_cases hl : ob.live = true
   ·exact (hi.objs.rel i ob hob).keeps hK rfl rfl rfl (by simp [H', hne]) id rfl
   ·cases ob <;> first | trivial | (simp [AObj.live] at hl; done) | (have := hi.objs.rel i _ hob; simpa [RelO, H', hne] using this)
  ·simp [RelO, H', he, hn']
 ·rcases get_snoc h1 with ⟨_, h1⟩ | ⟨_, rfl⟩
  ·rcases get_snoc h2 with ⟨_, h2⟩ | ⟨_, rfl⟩
   ·exact hi.objs.inj i i' ob ob' h1 h2 l1 l2 hb
   ·cases l2
  ·cases l1
 ·rcases get_snoc hob with ⟨_, hob⟩ | ⟨_, h⟩
  ·exact hi.lens o cs ver esz flat own ho hob
  ·cases h
 ·rcases get_snoc hob with ⟨_, hob⟩ | ⟨_, rfl⟩
  ·exact hi.own i ob hob hl
  ·cases hl
theorem W.slots {C : Ctx} {c : Code} {env : List (Nat × AV)} {objs : List AObj} {Q : Exit → St → Prop} : ∀ (k : Nat), W C c ⟨env, objs ++ List.replicate k .slot⟩ Q → W C c ⟨env, objs⟩ Q
 | 0, h => by simpa using h
 | k + 1, h => by
  refine W.slots k fun a w hr => ?_
  have := hr.slot
  rw [List.append_assoc, ← List.replicate_succ'] at this
  exact h a w this
theorem v_allocS {C : Ctx} {o : Oper} {env : List (Nat × AV)} {objs : List AObj} {t : TypeId} {y : Ty} {z : List Value} {ds : List AV} {j : Nat} (hjs : objs[j]? = some .slot) (hjk : C.k ≤ j) (hop : o.op = .alloc t) (hy : C.T.at t = some y) (hz : y.zero = some z) (hd : ofVals z = some ds) :
  VStep C o ⟨env, objs⟩ (.ptr j 1 0) (objs.set j (.cells ds 1 1 false none)) := by
 intro H a w hi
 obtain ⟨v, hv, hc⟩ := run_zeroValue hy hz w
 have hn : H.n = objs.length := hi.objs.n
 have hjl : j < objs.length := (List.getElem?_eq_some_iff.1 hjs).1
 have hv0 : H.ver j = 0 := hi.objs.rel j _ hjs
 let H' : View := { n := H.n, blk := fun o => if o = j then w.heap.size else H.blk o, off := fun o => if o = j then 0 else H.off o, cap := fun o => if o = j then 0 else H.cap o, ver := fun o => if o = j then 1 else H.ver o, wr := fun b => H.wr b ∨ b = w.heap.size }
 have hold : ∀ b, b < w.heap.size → (w.alloc (.cells z.toArray t)).heap[b]? = w.heap[b]? := fun b hb => heap_alloc_old w _ hb
 have hK : Keeps w H (w.alloc (.cells z.toArray t)) H' := by
  refine ⟨fun a v h _ => by rw [World.cell?_alloc_lt]; exact h; exact World.block_lt_of_cell? w a h, fun b hb hwr => ?_, Nat.le_refl _, fun o' ho' => ?_, fun o' ho' hvv => ?_⟩
  ·rcases hwr with h | h
   ·exact h
   ·omega
  ·by_cases e : o' = j
   ·subst e; simp [H', hv0]
   ·simp [H', e]
  ·by_cases e : o' = j
   ·subst e; simp [H', hv0] at hvv
   ·simp [H', e]
 have hget : ∀ i ob, (objs.set j (.cells ds 1 1 false none))[i]? = some ob → (i = j ∧ ob = .cells ds 1 1 false none) ∨ (i ≠ j ∧ objs[i]? = some ob) := by
  intro i ob hob
  by_cases e : i = j
  ·subst e
   rw [List.getElem?_set_self hjl] at hob
   injection hob with hob
   exact .inl ⟨rfl, hob.symm⟩
  ·rw [List.getElem?_set_ne (Ne.symm e)] at hob
   exact .inr ⟨e, hob⟩
 have hlive : ∀ i ob, objs[i]? = some ob → ob.live = true → H.blk i < w.heap.size := fun i ob h1 h2 => hi.objs.lt _ (hi.objs.wr_blk h1 h2)
 refine ⟨.pointer (some ⟨w.heap.size, 0, none⟩), w.alloc (.cells z.toArray t), H', ?_, ?_, ?_⟩
 ·simp [execOp, hop, Instr.alloc, newVar, newRow, hv, hc]
 ·refine hi.move (objs' := objs.set j (.cells ds 1 1 false none)) hK ⟨by simp [H', hn], fun i ob hob => ?_, fun i i' ob ob' h1 h2 l1 l2 hb => ?_, fun b hb => ?_⟩ (fun b hb => ⟨fun h => h.resolve_right (by have := hi.le; omega), .inl⟩) (by have := hi.klen; simp at this ⊢; omega) (fun x hx => by simp [H', show x ≠ j by omega]) (fun x cs ver esz flat own hx hob => ?_) (fun x hx => Outside.of_eq (hold _ (Nat.lt_of_lt_of_le (C.hk x hx) hi.le)) _ _) (fun i ob hob hl => ?_) (fun b hb _ => hold b (Nat.lt_of_lt_of_le hb hi.le)) (by simp) rfl rfl rfl
  ·rcases hget i ob hob with ⟨rfl, rfl⟩ | ⟨hne, hob⟩
   ·refine ⟨by simp [H'], by simp [H'], z, z.toArray, t, ?_, ?_, ?_, fun t' h => by cases h⟩
    ·simpa [H'] using heap_alloc_new w (.cells z.toArray t)
    ·exact (ofVals_rel hd)
    ·intro k u hu; simpa [H'] using hu
   ·by_cases hl : ob.live = true
    ·exact (hi.objs.rel i ob hob).keeps hK (by simp [H', hne]) (by simp [H', hne]) (by simp [H', hne]) (by simp [H', hne]) (fun h => .inl h) (hold _ (hlive i ob hob hl))
    ·cases ob <;> first | trivial | (simp [AObj.live] at hl; done) | (have := hi.objs.rel i _ hob; simpa [RelO, H', hne] using this)
  ·rcases hget i ob h1 with ⟨e1, rfl⟩ | ⟨n1, g1⟩ <;> rcases hget i' ob' h2 with ⟨e2, rfl⟩ | ⟨n2, g2⟩
   ·rw [e1, e2]
   ·simp only [H', if_pos e1, if_neg n2] at hb
    have := hlive _ _ g2 l2; omega
   ·simp only [H', if_pos e2, if_neg n1] at hb
    have := hlive _ _ g1 l1; omega
   ·simp only [H', if_neg n1, if_neg n2] at hb
    exact hi.objs.inj _ _ _ _ g1 g2 l1 l2 hb
  ·rcases hb with hb | hb
   ·have := hi.objs.lt b hb; simp; omega
   ·subst hb; simp
  ·rcases hget x _ hob with ⟨rfl, _⟩ | ⟨_, hob⟩
   ·omega
   ·exact hi.lens x cs ver esz flat own hx hob
  ·rcases hget i ob hob with ⟨rfl, _⟩ | ⟨hne, hob⟩
   ·exact .inr (by simp only [H', if_true]; exact hi.le)
   ·simp only [H', if_neg hne]; exact hi.own i ob hob hl
 ·exact ⟨by simp [H', hn]; omega, by simp [H'], fun _ => by simp [H']⟩
def fillS (al : List (Nat × AObj)) (listed : Array Bool) : List AObj := al.map fun p => if listed.getD p.1 true = true then p.2 else .slot
def obpS (objsB : List AObj) (al : List (Nat × AObj)) (ms : Nat → St) (p : Nat) (listed : Array Bool) : List AObj := if p = 0 then objsB ++ fillS al listed else (ms p).objs
theorem fillS_other {al : List (Nat × AObj)} {listed : Array Bool} {i : Nat} (h : i ∉ al.map (·.1)) : fillS al (listed.setIfInBounds i true) = fillS al listed := by
 refine List.map_congr_left fun p hp => ?_
 have e : (listed.setIfInBounds i true).getD p.1 true = listed.getD p.1 true := by
  rw [getD_set, if_neg]
  rintro ⟨rfl, _⟩
  exact h (List.mem_map.2 ⟨p, hp, rfl⟩)
 rw [e]
theorem fillS_get {al : List (Nat × AObj)} {listed : Array Bool} {k i : Nat} {z : AObj} (h : al[k]? = some (i, z)) (hl : listed.getD i true = false) : (fillS al listed)[k]? = some .slot := by
 simp only [fillS, List.getElem?_map, h, Option.map_some, hl]; rfl
theorem fillS_set {al : List (Nat × AObj)} {listed : Array Bool} {k i : Nat} {z : AObj} (hn : (al.map (·.1)).Nodup) (h : al[k]? = some (i, z)) (hi : i < listed.size) : fillS al (listed.setIfInBounds i true) = (fillS al listed).set k z := by
 have hk := (List.getElem?_eq_some_iff.1 h).1
 apply List.ext_getElem?
 intro j
 by_cases e : j = k
 ·subst e
  rw [List.getElem?_set_self (by simpa [fillS] using hk)]
  simp only [fillS, List.getElem?_map, h, Option.map_some, getD_set, hi, and_self, if_true]
 ·rw [List.getElem?_set_ne (Ne.symm e)]
  simp only [fillS, List.getElem?_map]
  cases hj : al[j]? with
  | none => rfl
  | some p =>
   simp only [Option.map_some]
   have e2 : (listed.setIfInBounds i true).getD p.1 true = listed.getD p.1 true := by
    rw [getD_set, if_neg]
    rintro ⟨h1, _⟩
    have h3 : (al.map (·.1))[j]? = some p.1 := by simp [hj]
    have h4 : (al.map (·.1))[k]? = some i := by simp [h]
    rw [h1] at h4
    exact e (nodup_get hn h3 h4)
   rw [e2]
theorem drawStep_more {C : Ctx} {ops : Array Oper} {o : Oper} {pre : List (Nat × AV)} {objs : List AObj} {c : AV} {d : Nat} (h : DrawStep C ops o pre objs c) (hd : o.dst = some d) (more : List (Nat × AV)) :
  WL C ops [o] ⟨pre ++ more, objs⟩ (fun e s => e = .normal ∧ s = ⟨(d, c) :: (pre ++ more), objs⟩) := by
 have := h more
 rw [hd] at this
 exact this
/-- One of the operations in the middle: it may use values that came at any time. -/
def MidQ (C : Ctx) (ops : Array Oper) (o : Oper) (pre : List (Nat × AV)) (s s' : St) : Prop :=
  (s'.env = s.env ∧ ∀ more, WL C ops [o] ⟨pre ++ (s.env ++ more), s.objs⟩ (fun e r => e = .normal ∧ r = ⟨pre ++ (s.env ++ more), s'.objs⟩)) ∨
  (∃ d c, o.dst = some d ∧ s'.env = (d, c) :: s.env ∧ ∀ more, WL C ops [o] ⟨pre ++ (s.env ++ more), s.objs⟩ (fun e r => e = .normal ∧ r = ⟨(d, c) :: (pre ++ (s.env ++ more)), s'.objs⟩))
theorem W.midS {C : Ctx} {id : Nat} {ops : Array Oper} {env0 : List (Nat × AV)} (objsB : List AObj) (al : List (Nat × AObj)) {Q : Exit → St → Prop} (hmix : C.P.follows .mixedOrders = true) (ds fl : List Nat) (mN : Nat) (acc : List (Nat × AV)) (ms : Nat → St) (hchk : midOK ops ds fl mN = true)
  (hacc : ∀ d ∈ ds, ∃ c, look acc d = some c) (hdom : ∀ t v, look acc t = some v → t ∈ ds) (hm0 : (ms 0).objs = objsB ++ al.map (·.2)) (hal : ∀ p, p ∈ al → p.1 < ds.length ∧ p.1 ∉ fl) (haln : (al.map (·.1)).Nodup) (he0 : ∀ t v, look (ms 0).env t = some v → (∃ i, i ∉ fl ∧ ds[i]? = some t ∧ look acc t = some v) ∨ (t ∉ ds ∧ look env0 t = some v))
  (hV : ∀ (i : Nat) (o : Oper) (d : Nat) (c : AV), i ∉ fl → i ∉ al.map (·.1) → ops[i]? = some o → ds[i]? = some d → look acc d = some c → ∀ mo, DrawStep C ops o (sel acc (depT ops o) ++ clean ds env0) (objsB ++ mo) c)
  (hA : ∀ (k i : Nat) (z : AObj) (o : Oper) (d : Nat) (c : AV), al[k]? = some (i, z) → ops[i]? = some o → ds[i]? = some d → look acc d = some c → ∀ mo more, mo[k]? = some .slot → WL C ops [o] ⟨(sel acc (depT ops o) ++ clean ds env0) ++ more, objsB ++ mo⟩ (fun e s => e = .normal ∧ s = ⟨(d, c) :: ((sel acc (depT ops o) ++ clean ds env0) ++ more), objsB ++ mo.set k z⟩))
  (hM : ∀ (j : Nat) (o : Oper), j < mN → ops[ds.length + j]? = some o → MidQ C ops o (sel acc (depT ops o)) (ms j) (ms (j + 1)))
  (hF0 : ∀ (i : Nat) (o : Oper) (d : Nat) (c : AV), i ∈ fl → ops[i]? = some o → ds[i]? = some d → look acc d = some c → ∀ mo, DrawStep C ops o (sel acc (depT ops o) ++ clean (ds ++ dstsOf ops ds.length mN) env0) (objsB ++ mo) c)
  (hF : ∀ (j i : Nat) (o : Oper) (d : Nat) (c : AV), j ≤ mN → i ∈ fl → ops[i]? = some o → ds[i]? = some d → look acc d = some c → DrawStep C ops o (sel acc (depT ops o) ++ clean (ds ++ dstsOf ops ds.length mN) env0) (ms j).objs c)
  (hT : WL C ops (ops.toList.drop (ds.length + mN)) ⟨acc ++ (ms mN).env, (ms mN).objs⟩ Q) : W C (.region id ops true) ⟨env0, objsB ++ al.map (fun _ => .slot)⟩ Q := by
 simp only [midOK, Bool.and_eq_true, decide_eq_true_eq, List.all_eq_true, List.mem_range, Bool.or_eq_true, List.contains_iff_mem] at hchk
 obtain ⟨⟨⟨⟨⟨⟨⟨⟨hnd, hle⟩, hds⟩, hbk⟩, hmo⟩, hta⟩, hmd⟩, hfl⟩, hnf2⟩ := hchk
 have hback : ∀ (i : Nat) (o : Oper), ops[i]? = some o → ∀ e ∈ o.after.toList, Region.binds .any e = true → e.on < i := by
  intro i o hi e he hb
  have h2 := hbk i (Array.getElem?_eq_some_iff.1 hi).1
  rw [hi] at h2
  simp only [Option.any_some, List.all_eq_true, decide_eq_true_eq] at h2
  exact h2 e.on (by simp only [depsOf, List.mem_map, List.mem_filter]; exact ⟨e, ⟨he, hb⟩, rfl⟩)
 have htail : ∀ i, i < ops.size → ds.length + mN ≤ i → ∀ j, j < i → behind ops 24 i j = true := fun i h1 h2 j h3 => hta i (by rw [List.mem_range'_1]; omega) j h3
 have hdst : ∀ (i : Nat) (o : Oper) (d : Nat), ops[i]? = some o → ds[i]? = some d → o.dst = some d := by
  intro i o d hi hd
  have hlt := (List.getElem?_eq_some_iff.1 hd).1
  have h2 := hds i hlt
  rw [hi, hd] at h2
  simpa using h2
 have hdisj : ∀ t, t ∈ dstsOf ops ds.length mN → t ∉ ds := fun t ht h => by have := hmd t ht; simp [h] at this
 have hindst : ∀ (j : Nat) (o : Oper) (d : Nat), j < mN → ops[ds.length + j]? = some o → o.dst = some d → d ∈ dstsOf ops ds.length mN := by
  intro j o d hj ho hd
  simp only [dstsOf, List.mem_filterMap]
  refine ⟨o, ?_, hd⟩
  refine List.mem_of_getElem? (i := j) ?_
  rw [List.getElem?_take, if_pos hj, List.getElem?_drop, Array.getElem?_toList]; exact ho
 have hMe : ∀ j, j < mN → (ms (j + 1)).env = (ms j).env ∨ ∃ d c, d ∈ dstsOf ops ds.length mN ∧ (ms (j + 1)).env = (d, c) :: (ms j).env := by
  intro j hj
  have ho : ops[ds.length + j]? = some ops[ds.length + j] := Array.getElem?_eq_getElem (by omega)
  rcases hM j _ hj ho with ⟨he, _⟩ | ⟨d, c, hd, he, _⟩
  ·exact .inl he
  ·exact .inr ⟨d, c, hindst j _ d hj ho hd, he⟩
 have hfull : ∀ listed : Array Bool, (∀ i, i < ds.length → i ∉ fl → listed.getD i true = true) → fillS al listed = al.map (·.2) := fun listed h => by
  refine List.map_congr_left fun p hp => ?_
  rw [if_pos (h p.1 (hal p hp).1 (hal p hp).2)]
 have hms : ∀ j, j ≤ mN → ∀ t v, look (ms j).env t = some v → (t ∈ ds → look acc t = some v) ∧ (t ∉ ds → t ∉ dstsOf ops ds.length mN → look env0 t = some v) ∧ (t ∈ ds → ∀ i, ds[i]? = some t → i ∉ fl) := by
  intro j
  induction j with
  | zero =>
   intro _ t v h
   rcases he0 t v h with ⟨i, hi1, hi2, h2⟩ | ⟨h1, h2⟩
   ·refine ⟨fun _ => h2, fun h => absurd (List.mem_of_getElem? hi2) h, fun _ i' hi' => ?_⟩
    rw [nodup_get hnd hi' hi2]; exact hi1
   ·exact ⟨fun h => absurd h h1, fun _ _ => h2, fun h => absurd h h1⟩
  | succ j ih =>
   intro hj t v h
   rcases hMe j (by omega) with he | ⟨d, c, hd, he⟩
   ·rw [he] at h; exact ih (by omega) t v h
   ·rw [he] at h
    simp only [look] at h
    split at h
    ·rename_i hk
     have : d = t := by simpa using hk
     subst this
     exact ⟨fun h => absurd h (hdisj d hd), fun _ h => absurd hd h, fun h => absurd h (hdisj d hd)⟩
    ·exact ih (by omega) t v h
 have hall : ∀ (listed : Array Bool) (env : List (Nat × AV)) (a : Act) (w : World), Mid ops ds fl mN acc env0 ms mN env listed → Rel C ⟨env, obpS objsB al ms mN listed⟩ a w → (∀ i, i < ds.length → listed.getD i true = true) →
   wpAny C.P .any ops (Post C Q) (ops.size - (ds.length + mN)) listed a w := by
  intro listed env a w hm hr hv
  have hobp : obpS objsB al ms mN listed = (ms mN).objs := by
   unfold obpS
   split
   ·rename_i h0; rw [hfull listed fun i hi _ => hv i hi, h0, hm0]
   ·rfl
  rw [hobp] at hr
  refine W.draw_tail hback htail _ (ds.length + mN) listed a w (Nat.le_refl _) hle rfl hm.size (fun j hj => ⟨fun h => ?_, fun h => ?_⟩) (hT a w (hr.env fun t v hl => ?_))
  ·rcases Nat.lt_or_ge j (ds.length + mN) with h1 | h1
   ·exact h1
   ·rw [hm.tl j h1 hj] at h; cases h
  ·rcases Nat.lt_or_ge j ds.length with h1 | h1
   ·exact hv j h1
   ·have := hm.ml (j - ds.length) (by omega)
    rwa [show ds.length + (j - ds.length) = j by omega] at this
  ·rw [look_append] at hl
   cases ha : look acc t with
   | some v' =>
    rw [ha, Option.some_or] at hl
    injection hl with hl; subst hl
    obtain ⟨i, hi⟩ := List.getElem?_of_mem (hdom t _ ha)
    rw [hm.vals i t hi (hv i (List.getElem?_eq_some_iff.1 hi).1), ha]
   | none =>
    rw [ha, Option.none_or] at hl
    obtain ⟨h1, h2, _⟩ := hms mN (Nat.le_refl _) t v hl
    by_cases hin : t ∈ ds
    ·rw [ha] at h1; cases h1 hin
    ·rcases Nat.eq_zero_or_pos mN with h0 | h0
     ·have : t ∉ dstsOf ops ds.length mN := by rw [h0]; simp [dstsOf]
      exact hm.zero h0 t v hin (h2 hin this)
     ·exact hm.pos h0 t v hl
 have hcount : ∀ (listed : Array Bool) (env : List (Nat × AV)), Mid ops ds fl mN acc env0 ms mN env listed → (∀ i, i < ds.length → listed.getD i true = true) → ((List.range ops.size).filter fun j => !listed.getD j true).length = ops.size - (ds.length + mN) := by
  intro listed env hm hv
  have h4 : List.range ops.size = List.range (ds.length + mN) ++ List.range' (ds.length + mN) (ops.size - (ds.length + mN)) := by
   rw [List.range_eq_range', List.range_eq_range', show ops.size = (ds.length + mN) + (ops.size - (ds.length + mN)) by omega]
   have := List.range'_append (s := 0) (m := ds.length + mN) (n := ops.size - (ds.length + mN)) (step := 1)
   simp at this
   rw [← this]; simp
  rw [h4, List.filter_append, List.filter_eq_nil_iff.2, List.nil_append, List.filter_eq_self.2]
  ·simp
  ·intro j hj
   rw [List.mem_range'_1] at hj
   simp [hm.tl j hj.1 (by omega)]
  ·intro j hj
   rw [List.mem_range] at hj
   rcases Nat.lt_or_ge j ds.length with h1 | h1
   ·simp [hv j h1]
   ·have := hm.ml (j - ds.length) (by omega)
    rw [show ds.length + (j - ds.length) = j by omega] at this
    simp [this]
 have main : ∀ (fuel p : Nat) (listed : Array Bool) (env : List (Nat × AV)) (a : Act) (w : World), fuel = ((List.range ops.size).filter fun j => !listed.getD j true).length → Mid ops ds fl mN acc env0 ms p env listed → Rel C ⟨env, obpS objsB al ms p listed⟩ a w →
   wpAny C.P .any ops (Post C Q) fuel listed a w := by
  intro fuel
  induction fuel with
  | zero =>
   intro p listed env a w hf hm hr
   have hnone : ∀ j, j < ops.size → listed.getD j true = true := by
    intro j hj
    have h0 := List.eq_nil_of_length_eq_zero hf.symm
    cases h1 : listed.getD j true with
    | true => rfl
    | false =>
     have : j ∈ (List.range ops.size).filter fun j => !listed.getD j true := by
      rw [List.mem_filter, List.mem_range]; exact ⟨hj, by simp [h1]⟩
     rw [h0] at this; cases this
   have hp : p = mN := by
    have := hm.pl
    rcases Nat.lt_or_ge p mN with h | h
    ·have h1 := hnone (ds.length + p) (by omega)
     rw [hm.tl _ (Nat.le_refl _) (by omega)] at h1; cases h1
    ·omega
   subst hp
   have h1 := hall listed env a w hm hr (fun i hi => hnone i (by omega))
   rw [← hcount listed env hm (fun i hi => hnone i (by omega)), ← hf] at h1
   exact h1
  | succ fuel ih =>
   intro p listed env a w hf hm hr
   by_cases hend : p = mN ∧ ∀ i, i < ds.length → listed.getD i true = true
   ·obtain ⟨rfl, hv⟩ := hend
    have h1 := hall listed env a w hm hr hv
    rw [← hcount listed env hm hv, ← hf] at h1
    exact h1
   ·refine ⟨fun h0 => ?_, fun i hi => ?_⟩
    ·exfalso
     have hex : ∃ x, x < ops.size ∧ listed.getD x true = false := by
      have := hm.pl
      rcases Nat.lt_or_ge p mN with h | h
      ·exact ⟨ds.length + p, by omega, hm.tl _ (Nat.le_refl _) (by omega)⟩
      ·apply Classical.byContradiction
       intro hn
       refine hend ⟨by omega, fun i hi => ?_⟩
       cases h1 : listed.getD i true with
       | true => rfl
       | false => exact absurd ⟨i, by omega, h1⟩ hn
     obtain ⟨x, hx1, hx2⟩ := hex
     exact ready_ne hm.size hback hx1 hx2 h0
    ·obtain ⟨h1, h2, o, ho, h3⟩ := mem_ready hi
     have hdep : ∀ k ∈ depsOf o, listed.getD k false = true := by
      intro k hk
      simp only [depsOf, List.mem_map, List.mem_filter] at hk
      obtain ⟨e, ⟨he1, he2⟩, rfl⟩ := hk
      exact h3 e he1 he2
     have hlt : ∀ k ∈ depsOf o, k < i := by
      intro k hk
      simp only [depsOf, List.mem_map, List.mem_filter] at hk
      obtain ⟨e, ⟨he1, he2⟩, rfl⟩ := hk
      exact hback i o ho e he1 he2
     have hfew := unlisted_set h1 hm.size h2
     have hsel : i < ds.length → ∀ t v, look (sel acc (depT ops o)) t = some v → look env t = some v := by
      intro hik t v hl
      obtain ⟨g1, g2⟩ := look_sel hl
      simp only [depT, List.mem_filterMap] at g1
      obtain ⟨j, g3, g4⟩ := g1
      have hj := hlt j g3
      have hjd : j < ds.length := by omega
      cases hoj : ops[j]? with
      | none => rw [hoj] at g4; cases g4
      | some oj =>
       rw [hoj] at g4
       have := hdst j oj ds[j] hoj (List.getElem?_eq_getElem hjd)
       simp only [Option.bind_some] at g4
       rw [this] at g4
       injection g4 with g4
       rw [hm.vals j t (by rw [List.getElem?_eq_getElem hjd, g4]) (getD_sw (hdep j g3) (by rw [hm.size]; omega)), g2]
     rcases Nat.lt_or_ge i ds.length with hik | hik
     ·-- a value
      have hd : ds[i]? = some ds[i] := List.getElem?_eq_getElem hik
      obtain ⟨c, hc⟩ := hacc ds[i] (List.getElem_mem hik)
      have hod := hdst i o _ ho hd
      have hmem : ds[i] ∈ ds := List.getElem_mem hik
      have hnew : Mid ops ds fl mN acc env0 ms p ((ds[i], c) :: env) (listed.setIfInBounds i true) := by
       refine ⟨by simp [hm.size], hm.closed.set ho hdep, hm.pl, fun x hx1 hx2 => ?_, fun j hj => ?_, fun hp x hx1 hx2 => ?_, fun x d hx1 hx2 => ?_, fun t v ht1 ht2 hl => ?_, fun hp t v ht hl => ?_, fun hp t v hl => ?_⟩
       ·rw [getD_set, if_neg (by omega)]; exact hm.tl x hx1 hx2
       ·rw [getD_set]; split
        ·rfl
        ·exact hm.ml j hj
       ·rw [getD_set]; split
        ·rfl
        ·exact hm.all hp x hx1 hx2
       ·by_cases e : i = x
        ·subst e
         rw [hd] at hx1; injection hx1 with hx1; subst hx1
         simp [look, hc]
        ·rw [getD_set, if_neg (fun h => e h.1)] at hx2
         have hne : ds[i] ≠ d := fun h => e (nodup_get hnd hd (by rw [h]; exact hx1))
         simp only [look]
         rw [if_neg (by simpa using hne)]
         exact hm.vals x d hx1 hx2
       ·have hne : ds[i] ≠ t := fun h => ht1 (h ▸ hmem)
        simp only [look]
        rw [if_neg (by simpa using hne)]
        exact hm.rest t v ht1 ht2 hl
       ·have hne : ds[i] ≠ t := fun h => ht (h ▸ hmem)
        simp only [look]
        rw [if_neg (by simpa using hne)]
        exact hm.zero hp t v ht hl
       ·simp only [look]
        split
        ·rename_i he
         have he' : ds[i] = t := by simpa using he
         have := (hms p hm.pl t v hl).1 (he' ▸ hmem)
         rw [← he', hc] at this; exact this
        ·exact hm.pos hp t v hl
      have fin : ∀ (pre : List (Nat × AV)), (∀ t v, look (pre ++ env) t = some v → look env t = some v) → (∀ more, WL C ops [o] ⟨pre ++ more, obpS objsB al ms p listed⟩ (fun e s => e = .normal ∧ s = ⟨(ds[i], c) :: (pre ++ more), obpS objsB al ms p (listed.setIfInBounds i true)⟩)) → wpOp C.P ops (Post C Q) i (wpAny C.P .any ops (Post C Q) fuel (listed.setIfInBounds i true)) a w := by
       intro pre hpre hstep
       refine wpOp_of_WL (st := ⟨pre ++ env, obpS objsB al ms p listed⟩) ho (hstep env) (hr.env hpre) fun a' w' hr' => ih p _ ((ds[i], c) :: env) a' w' (by omega) hnew ?_
       refine Rel.env (st := ⟨(ds[i], c) :: (pre ++ env), obpS objsB al ms p (listed.setIfInBounds i true)⟩) hr' fun t v hl => ?_
       simp only [look] at hl ⊢
       split at hl
       ·rename_i he; rw [if_pos he]; exact hl
       ·rename_i he
        rw [if_neg he]
        cases h5 : look (pre ++ env) t with
        | some v' => have := hpre t v' h5; rw [hl] at this; exact this.symm
        | none => rw [look_append, hl] at h5; cases h6 : look pre t <;> rw [h6] at h5 <;> cases h5
      by_cases hif : i ∈ fl
      ·refine fin (sel acc (depT ops o) ++ clean (ds ++ dstsOf ops ds.length mN) env0) (fun t v hl => ?_) (by
        have hnal : i ∉ al.map (·.1) := fun h => by obtain ⟨p', hp', rfl⟩ := List.mem_map.1 h; exact (hal p' hp').2 hif
        intro more
        rcases Nat.eq_zero_or_pos p with h0 | h0
        ·subst h0
         have := drawStep_more (hF0 i o _ c hif ho hd hc (fillS al listed)) hod more
         simpa only [obpS, if_true, fillS_other hnal] using this
        ·have := drawStep_more (hF p i o _ c hm.pl hif ho hd hc) hod more
         simpa only [obpS, if_neg (show ¬ p = 0 by omega)] using this)
       rw [look_append, look_append] at hl
       cases h5 : look (sel acc (depT ops o)) t with
       | some v' => rw [h5] at hl; simp only [Option.some_or, Option.some.injEq] at hl; subst hl; exact hsel hik t _ h5
       | none =>
        rw [h5, Option.none_or] at hl
        cases h6 : look (clean (ds ++ dstsOf ops ds.length mN) env0) t with
        | some v' =>
         rw [h6] at hl; simp only [Option.some_or, Option.some.injEq] at hl; subst hl
         obtain ⟨h7, h8⟩ := look_clean h6
         rw [List.mem_append, not_or] at h7
         exact hm.rest t _ h7.1 h7.2 h8
        | none => rw [h6, Option.none_or] at hl; exact hl
      ·have hp0 : p = 0 := by
        rcases Nat.eq_zero_or_pos p with h | h
        ·exact h
        ·have := hm.all h i hik hif; rw [h2] at this; cases this
       subst hp0
       refine fin (sel acc (depT ops o) ++ clean ds env0) (fun t v hl => ?_) (by
        intro more
        by_cases hia : i ∈ al.map (·.1)
        ·obtain ⟨⟨i', z⟩, hp', rfl⟩ := List.mem_map.1 hia
         obtain ⟨k, hk⟩ := List.getElem?_of_mem hp'
         have := hA k i' z o _ c hk ho hd hc (fillS al listed) more (fillS_get hk h2)
         simpa only [obpS, if_true, fillS_set haln hk (show i' < listed.size by rw [hm.size]; exact h1)] using this
        ·have := drawStep_more (hV i o _ c hif hia ho hd hc (fillS al listed)) hod more
         simpa only [obpS, if_true, fillS_other hia] using this)
       rw [look_append, look_append] at hl
       cases h5 : look (sel acc (depT ops o)) t with
       | some v' => rw [h5] at hl; simp only [Option.some_or, Option.some.injEq] at hl; subst hl; exact hsel hik t _ h5
       | none =>
        rw [h5, Option.none_or] at hl
        cases h6 : look (clean ds env0) t with
        | some v' =>
         rw [h6] at hl; simp only [Option.some_or, Option.some.injEq] at hl; subst hl
         obtain ⟨h7, h8⟩ := look_clean h6
         exact hm.zero rfl t _ h7 h8
        | none => rw [h6, Option.none_or] at hl; exact hl
     ·-- one of the middle
      have hlisted : ∀ j, behind ops 24 i j = true → j < ops.size → listed.getD j true = true := fun j hj hjs => getD_sw (hm.closed.behind 24 i o ho hdep hj) (by rw [hm.size]; exact hjs)
      have him : i < ds.length + mN := by
       rcases Nat.lt_or_ge i (ds.length + mN) with h | h
       ·exact h
       ·exfalso
        refine hend ⟨?_, fun x hx => hlisted x (htail i h1 h x (by omega)) (by omega)⟩
        have := hm.pl
        rcases Nat.lt_or_ge p mN with h4 | h4
        ·have h5 := hlisted (ds.length + p) (htail i h1 h _ (by omega)) (by omega)
         rw [hm.tl _ (Nat.le_refl _) (by omega)] at h5; cases h5
        ·omega
      obtain ⟨q, rfl⟩ := Nat.exists_eq_add_of_le hik
      have hq : q < mN := by omega
      have hqp : q = p := by
       rcases Nat.lt_trichotomy q p with h | h | h
       ·have := hm.ml q h; rw [h2] at this; cases this
       ·exact h
       ·have h4 := hmo q hq (ds.length + p) (by omega)
        rcases h4 with h4 | h4
        ·have := hfl _ h4; omega
        ·have h5 := hlisted _ h4 (by omega)
         rw [hm.tl _ (Nat.le_refl _) (by omega)] at h5; cases h5
      subst hqp
      have hnfl : ∀ x, x < ds.length → x ∉ fl → listed.getD x true = true := by
       intro x hx hxf
       rcases hmo q hq x (by omega) with h4 | h4
       ·exact absurd h4 hxf
       ·exact hlisted x h4 (by omega)
      have hpre : ∀ t v, look ((ms q).env ++ env) t = some v → look env t = some v := by
       intro t v hl
       rw [look_append] at hl
       cases h5 : look (ms q).env t with
       | none => rw [h5, Option.none_or] at hl; exact hl
       | some v' =>
        rw [h5, Option.some_or] at hl
        injection hl with hl; subst hl
        rcases Nat.eq_zero_or_pos q with h0 | h0
        ·subst h0
         rcases he0 t _ h5 with ⟨x, hx1, hx2, g2⟩ | ⟨g1, g2⟩
         ·rw [hm.vals x t hx2 (hnfl x (List.getElem?_eq_some_iff.1 hx2).1 hx1), g2]
         ·exact hm.zero rfl t _ g1 g2
        ·exact hm.pos h0 t _ h5
      have hobq : obpS objsB al ms q listed = (ms q).objs := by
       unfold obpS
       split
       ·rename_i h0; rw [hfull listed hnfl, h0, hm0]
       ·rfl
      rw [hobq] at hr
      have hpre2 : ∀ t v, look (sel acc (depT ops o) ++ ((ms q).env ++ env)) t = some v → look env t = some v := by
       intro t v hl
       rw [look_append] at hl
       cases h5 : look (sel acc (depT ops o)) t with
       | none => rw [h5, Option.none_or] at hl; exact hpre t v hl
       | some v' =>
        rw [h5, Option.some_or] at hl
        injection hl with hl; subst hl
        obtain ⟨g1, g2⟩ := look_sel h5
        have hin := hdom t _ g2
        simp only [depT, List.mem_filterMap] at g1
        obtain ⟨j, g3, g4⟩ := g1
        have hj := hlt j g3
        cases hoj : ops[j]? with
        | none => rw [hoj] at g4; cases g4
        | some oj =>
         rw [hoj] at g4
         simp only [Option.bind_some] at g4
         rcases Nat.lt_or_ge j ds.length with h | h
         ·have := hdst j oj ds[j] hoj (List.getElem?_eq_getElem h)
          rw [this] at g4
          injection g4 with g4
          rw [hm.vals j t (by rw [List.getElem?_eq_getElem h, g4]) (getD_sw (hdep j g3) (by rw [hm.size]; omega)), g2]
         ·exfalso
          refine hdisj t (hindst (j - ds.length) oj t (by omega) ?_ g4) hin
          rw [show ds.length + (j - ds.length) = j by omega]; exact hoj
      refine (fun (hmid : Mid ops ds fl mN acc env0 ms (q + 1) ((ms (q + 1)).env ++ env) (listed.setIfInBounds (ds.length + q) true)) => ?_) ?_
      ·have hout : ∀ (a' : Act) (w' : World), Rel C ⟨(ms (q + 1)).env ++ env, (ms (q + 1)).objs⟩ a' w' → wpAny C.P .any ops (Post C Q) fuel (listed.setIfInBounds (ds.length + q) true) a' w' := fun a' w' hr' => ih (q + 1) _ ((ms (q + 1)).env ++ env) a' w' (by omega) hmid (by simpa only [obpS, if_neg (Nat.succ_ne_zero q)] using hr')
       have hagree : ∀ t v, look ((ms q).env ++ env) t = some v → look (sel acc (depT ops o) ++ ((ms q).env ++ env)) t = some v := by
        intro t v hl
        have h1 := hpre t v hl
        cases h5 : look (sel acc (depT ops o) ++ ((ms q).env ++ env)) t with
        | some v' => have := hpre2 t v' h5; rw [h1] at this; exact this.symm
        | none => rw [look_append, hl] at h5; cases h6 : look (sel acc (depT ops o)) t <;> rw [h6] at h5 <;> cases h5
       rcases hM q o hq ho with ⟨he, hs⟩ | ⟨d, c, hd, he, hs⟩
       ·refine wpOp_of_WL (st := ⟨sel acc (depT ops o) ++ ((ms q).env ++ env), (ms q).objs⟩) ho (hs env) (hr.env hpre2) fun a' w' hr' => hout a' w' (Rel.env (st := ⟨sel acc (depT ops o) ++ ((ms q).env ++ env), (ms (q + 1)).objs⟩) hr' fun t v hl => ?_)
        rw [he] at hl
        exact hagree t v hl
       ·refine wpOp_of_WL (st := ⟨sel acc (depT ops o) ++ ((ms q).env ++ env), (ms q).objs⟩) ho (hs env) (hr.env hpre2) fun a' w' hr' => hout a' w' (Rel.env (st := ⟨(d, c) :: (sel acc (depT ops o) ++ ((ms q).env ++ env)), (ms (q + 1)).objs⟩) hr' fun t v hl => ?_)
        rw [he, List.cons_append] at hl
        simp only [look] at hl ⊢
        split at hl
        ·rename_i hk; rw [if_pos hk]; exact hl
        ·rename_i hk; rw [if_neg hk]; exact hagree t v hl
      refine ⟨by simp [hm.size], hm.closed.set ho hdep, hq, fun x hx1 hx2 => ?_, fun j hj => ?_, fun _ x hx1 hx2 => ?_, fun x d hx1 hx2 => ?_, fun t v ht1 ht2 hl => ?_, fun h => by omega, fun _ t v hl => ?_⟩
      ·rw [getD_set, if_neg (by omega)]; exact hm.tl x (by omega) hx2
      ·rw [getD_set]; split
       ·rfl
       ·rename_i hne
        refine hm.ml j ?_
        rcases Nat.lt_or_ge j q with h | h
        ·exact h
        ·exact absurd ⟨by omega, by rw [hm.size]; omega⟩ hne
      ·rw [getD_set]; split
       ·rfl
       ·exact hnfl x hx1 hx2
      ·have hxl := (List.getElem?_eq_some_iff.1 hx1).1
       rw [getD_set, if_neg (by omega)] at hx2
       rw [look_append]
       cases h5 : look (ms (q + 1)).env d with
       | some v => rw [Option.some_or, (hms (q + 1) hq d v h5).1 (List.mem_of_getElem? hx1)]
       | none => rw [Option.none_or]; exact hm.vals x d hx1 hx2
      ·rw [look_append]
       cases h5 : look (ms (q + 1)).env t with
       | some v' =>
        have := (hms (q + 1) hq t v' h5).2.1 ht1 ht2
        rw [hl] at this
        rw [Option.some_or, this]
       | none => rw [Option.none_or]; exact hm.rest t v ht1 ht2 hl
      ·rw [look_append, hl, Option.some_or]
 intro a w hr
 refine wp_region_any hmix (main ops.size 0 _ env0 a _ ?_ ⟨by simp, ?_, Nat.zero_le _, fun j h1 h2 => by simp [Array.getD, h2], fun j h => absurd h (Nat.not_lt_zero _), fun h => absurd h (Nat.lt_irrefl _), fun i d h1 h2 => ?_, fun t v _ _ h => h, fun _ t v _ h => h, fun h => absurd h (Nat.lt_irrefl _)⟩ (by
  have e : obpS objsB al ms 0 (Array.replicate ops.size false) = objsB ++ al.map (fun _ => AObj.slot) := by
   simp only [obpS, if_true]
   congr 1
   refine List.map_congr_left fun p hp => ?_
   have := (hal p hp).1
   rw [if_neg (by simp [Array.getD, show p.1 < ops.size by omega])]
  rw [e]; exact hr.drew))
 ·rw [List.filter_eq_self.2, List.length_range]
  intro j hj
  rw [List.mem_range] at hj
  simp [Array.getD, hj]
 ·intro i o ho hl
  have := (Array.getElem?_eq_some_iff.1 ho).1
  simp [Array.getD, this] at hl
 ·have := (List.getElem?_eq_some_iff.1 h1).1
  have hlt : i < ops.size := by omega
  simp [Array.getD, hlt] at h2
/-! ### the walk -/
def AStep (C : Ctx) (ops : Array Oper) (o : Oper) (pre : List (Nat × AV)) (objsB : List AObj) (k d : Nat) (z : AObj) (c : AV) : Prop :=
  ∀ mo more, mo[k]? = some .slot → WL C ops [o] ⟨pre ++ more, objsB ++ mo⟩ (fun e s => e = .normal ∧ s = ⟨(d, c) :: (pre ++ more), objsB ++ mo.set k z⟩)
def MidVS (C : Ctx) (ops : Array Oper) (ds : List Nat) (env0 : List (Nat × AV)) (objsB : List AObj) (adst : List (Nat × AObj)) (K : List (Nat × AV) → Prop) : List (Nat × Oper) → List (Nat × AV) → Prop
  | [], acc => K acc
  | (d, o) :: r, acc => ∃ c, ((d ∉ adst.map (·.1) ∧ ∀ mo, DrawStep C ops o (sel acc (depT ops o) ++ clean ds env0) (objsB ++ mo) c) ∨ (∃ k z, adst[k]? = some (d, z) ∧ AStep C ops o (sel acc (depT ops o) ++ clean ds env0) objsB k d z c)) ∧ MidVS C ops ds env0 objsB adst K r ((d, c) :: acc)
def MidFS (C : Ctx) (ops : Array Oper) (ds : List Nat) (env0 : List (Nat × AV)) (objsB : List AObj) (l : List St) (K : List (Nat × AV) → Prop) : List (Nat × Oper) → List (Nat × AV) → Prop
  | [], acc => K acc
  | (d, o) :: r, acc => ∃ c, ((∀ mo, DrawStep C ops o (sel acc (depT ops o) ++ clean ds env0) (objsB ++ mo) c) ∧ ∀ s ∈ l, DrawStep C ops o (sel acc (depT ops o) ++ clean ds env0) s.objs c) ∧ MidFS C ops ds env0 objsB l K r ((d, c) :: acc)
theorem MidVS.out {C : Ctx} {ops : Array Oper} {ds : List Nat} {env0 : List (Nat × AV)} {objsB : List AObj} {adst : List (Nat × AObj)} {K : List (Nat × AV) → Prop} : ∀ {L : List (Nat × Oper)} {acc : List (Nat × AV)}, MidVS C ops ds env0 objsB adst K L acc → laterOK ops L = true →
  ∃ acc', K acc' ∧ Ext1 L acc acc' ∧ ∀ d o, (d, o) ∈ L → ∃ c, look acc' d = some c ∧ ((d ∉ adst.map (·.1) ∧ ∀ mo, DrawStep C ops o (sel acc' (depT ops o) ++ clean ds env0) (objsB ++ mo) c) ∨ (∃ k z, adst[k]? = some (d, z) ∧ AStep C ops o (sel acc' (depT ops o) ++ clean ds env0) objsB k d z c))
 | [], acc, h, _ => ⟨acc, h, ⟨fun _ _ => rfl, fun _ _ _ => Iff.rfl, fun _ _ h => .inr h⟩, fun _ _ h => by cases h⟩
 | (d, o) :: r, acc, ⟨c, h1, h2⟩, hl => by
  simp only [laterOK, Bool.and_eq_true, List.all_eq_true, Bool.not_eq_true', List.contains_eq_mem, decide_eq_false_iff_not] at hl
  obtain ⟨⟨hl1, hl2⟩, hl3⟩ := hl
  obtain ⟨acc', k1, k2, k3⟩ := MidVS.out h2 hl3
  obtain ⟨k4, k5⟩ := k2.cons (o := o) hl2
  refine ⟨acc', k1, k4, fun d' o' hm => ?_⟩
  rcases List.mem_cons.1 hm with h | h
  ·injection h with e1 e2
   subst e1; subst e2
   refine ⟨c, k5, ?_⟩
   rw [k4.1 _ fun t ht => by simpa using hl1 t ht]
   exact h1
  ·exact k3 d' o' h
theorem MidFS.out {C : Ctx} {ops : Array Oper} {ds : List Nat} {env0 : List (Nat × AV)} {objsB : List AObj} {l : List St} {K : List (Nat × AV) → Prop} : ∀ {L : List (Nat × Oper)} {acc : List (Nat × AV)}, MidFS C ops ds env0 objsB l K L acc → laterOK ops L = true →
  ∃ acc', K acc' ∧ Ext1 L acc acc' ∧ ∀ d o, (d, o) ∈ L → ∃ c, look acc' d = some c ∧ (∀ mo, DrawStep C ops o (sel acc' (depT ops o) ++ clean ds env0) (objsB ++ mo) c) ∧ ∀ s ∈ l, DrawStep C ops o (sel acc' (depT ops o) ++ clean ds env0) s.objs c
 | [], acc, h, _ => ⟨acc, h, ⟨fun _ _ => rfl, fun _ _ _ => Iff.rfl, fun _ _ h => .inr h⟩, fun _ _ h => by cases h⟩
 | (d, o) :: r, acc, ⟨c, h1, h2⟩, hl => by
  simp only [laterOK, Bool.and_eq_true, List.all_eq_true, Bool.not_eq_true', List.contains_eq_mem, decide_eq_false_iff_not] at hl
  obtain ⟨⟨hl1, hl2⟩, hl3⟩ := hl
  obtain ⟨acc', k1, k2, k3⟩ := MidFS.out h2 hl3
  obtain ⟨k4, k5⟩ := k2.cons (o := o) hl2
  refine ⟨acc', k1, k4, fun d' o' hm => ?_⟩
  rcases List.mem_cons.1 hm with h | h
  ·injection h with e1 e2
   subst e1; subst e2
   refine ⟨c, k5, ?_⟩
   rw [k4.1 _ fun t ht => by simpa using hl1 t ht]
   exact h1
  ·exact k3 d' o' h
def MidP (C : Ctx) (ops : Array Oper) (ds : List Nat) (env0 : List (Nat × AV)) (K : List (Nat × AV) → Prop) : List (Nat × Oper) → List (Nat × AV) → Prop
  | [], acc => K acc
  | (d, o) :: r, acc => ∃ c, (∀ objs, DrawStep C ops o (sel acc (depT ops o) ++ clean ds env0) objs c) ∧ MidP C ops ds env0 K r ((d, c) :: acc)
theorem MidP.out {C : Ctx} {ops : Array Oper} {ds : List Nat} {env0 : List (Nat × AV)} {K : List (Nat × AV) → Prop} : ∀ {L : List (Nat × Oper)} {acc : List (Nat × AV)}, MidP C ops ds env0 K L acc → laterOK ops L = true →
  ∃ acc', K acc' ∧ Ext1 L acc acc' ∧ ∀ d o, (d, o) ∈ L → ∃ c, look acc' d = some c ∧ ∀ objs, DrawStep C ops o (sel acc' (depT ops o) ++ clean ds env0) objs c
 | [], acc, h, _ => ⟨acc, h, ⟨fun _ _ => rfl, fun _ _ _ => Iff.rfl, fun _ _ h => .inr h⟩, fun _ _ h => by cases h⟩
 | (d, o) :: r, acc, ⟨c, h1, h2⟩, hl => by
  simp only [laterOK, Bool.and_eq_true, List.all_eq_true, Bool.not_eq_true', List.contains_eq_mem, decide_eq_false_iff_not] at hl
  obtain ⟨⟨hl1, hl2⟩, hl3⟩ := hl
  obtain ⟨acc', k1, k2, k3⟩ := MidP.out h2 hl3
  obtain ⟨k4, k5⟩ := k2.cons (o := o) hl2
  refine ⟨acc', k1, k4, fun d' o' hm => ?_⟩
  rcases List.mem_cons.1 hm with h | h
  ·injection h with e1 e2
   subst e1; subst e2
   refine ⟨c, k5, ?_⟩
   rw [k4.1 _ fun t ht => by simpa using hl1 t ht]
   exact h1
  ·exact k3 d' o' h
def MidMP (C : Ctx) (ops : Array Oper) (acc : List (Nat × AV)) (K : St → List St → Prop) : List Oper → St → List St → Prop
  | [], s, l => K s l
  | o :: r, s, l => ∃ s', MidQ C ops o (sel acc (depT ops o)) s s' ∧ MidMP C ops acc K r s' (l ++ [s])
theorem MidMP.out {C : Ctx} {ops : Array Oper} {acc : List (Nat × AV)} {K : St → List St → Prop} : ∀ {L : List Oper} {s : St} {l : List St}, MidMP C ops acc K L s l →
  ∃ ms : Nat → St, ms 0 = s ∧ K (ms L.length) (l ++ (List.range L.length).map ms) ∧ ∀ j o, L[j]? = some o → MidQ C ops o (sel acc (depT ops o)) (ms j) (ms (j + 1))
 | [], s, l, h => ⟨fun _ => s, rfl, by simp only [List.length_nil, List.range_zero, List.map_nil, List.append_nil]; exact h, fun j o h => by simp at h⟩
 | o :: r, s, l, ⟨s', h1, h3⟩ => by
  obtain ⟨ms, k1, k2, k3⟩ := MidMP.out h3
  refine ⟨fun j => match j with | 0 => s | j + 1 => ms j, rfl, ?_, fun j o' hj => ?_⟩
  ·simp only [List.length_cons]
   rw [List.range_succ_eq_map, List.map_cons, List.map_map]
   simpa [List.append_assoc, Function.comp_def] using k2
  ·cases j with
   | zero => simp at hj; subst hj; simp only [k1]; exact h1
   | succ j => exact k3 j o' (by simpa using hj)
theorem Ext1.trans {L1 L2 : List (Nat × Oper)} {a b c : List (Nat × AV)} (h1 : Ext1 L1 a b) (h2 : Ext1 L2 b c) : Ext1 (L1 ++ L2) a c := by
 refine ⟨fun ts ht => ?_, fun t v ht => ?_, fun t v hl => ?_⟩
 ·rw [h2.1 ts fun t h hin => ht t h (by simp only [List.map_append, List.mem_append]; exact .inr hin), h1.1 ts fun t h hin => ht t h (by simp only [List.map_append, List.mem_append]; exact .inl hin)]
 ·simp only [List.map_append, List.mem_append, not_or] at ht
  rw [h2.2.1 t v ht.2, h1.2.1 t v ht.1]
 ·simp only [List.map_append, List.mem_append]
  rcases h2.2.2 t v hl with h | h
  ·exact .inl (.inr h)
  ·rcases h1.2.2 t v h with h | h
   ·exact .inl (.inl h)
   ·exact .inr h
theorem nodup_map_on {α β : Type _} {f : α → β} : ∀ {l : List α}, (∀ a ∈ l, ∀ b ∈ l, f a = f b → a = b) → l.Nodup → (l.map f).Nodup
 | [], _, _ => by simp
 | x :: l, h, hn => by
  rw [List.nodup_cons] at hn
  rw [List.map_cons, List.nodup_cons]
  refine ⟨fun hm => ?_, nodup_map_on (fun a ha b hb => h a (by simp [ha]) b (by simp [hb])) hn.2⟩
  obtain ⟨y, hy, he⟩ := List.mem_map.1 hm
  have := h y (by simp [hy]) x (by simp) he
  subst this; exact hn.1 hy
theorem W.middleS {C : Ctx} {id : Nat} {ops : Array Oper} {env0 : List (Nat × AV)} {objsB : List AObj} {Q : Exit → St → Prop} (hmix : C.P.follows .mixedOrders = true) (adst : List (Nat × AObj)) (ds pf lf nf : List Nat) (mN : Nat) (hchk : midOK ops ds (pf ++ lf) mN = true)
  (hcov : (List.range ds.length).all (fun i => nf.contains i != (pf ++ lf).contains i) = true) (hnf : nf.all (fun i => decide (i < ds.length)) = true) (hlat : laterOK ops (pairs ops ds nf ++ (pairs ops ds pf ++ pairs ops ds lf)) = true) (hlp : laterOK ops (pairs ops ds pf) = true) (hlv : laterOK ops (pairs ops ds nf) = true) (hlf : laterOK ops (pairs ops ds lf) = true) (hlm : ((ops.toList.drop ds.length).take mN).all (fun o => (depT ops o).all fun t => !((pairs ops ds lf).map (·.1)).contains t) = true) (had : adst.all (fun p => nf.contains (ds.idxOf p.1) && ds.contains p.1) = true) (hadn : decide (adst.map (·.1)).Nodup = true)
  (h : MidVS C ops ds env0 objsB adst (fun acc => MidP C ops (ds ++ dstsOf ops ds.length mN) env0 (fun acc1 => MidMP C ops acc1 (fun s l => MidFS C ops (ds ++ dstsOf ops ds.length mN) env0 objsB (l ++ [s]) (fun acc' => WL C ops (ops.toList.drop (ds.length + mN)) ⟨acc' ++ s.env, s.objs⟩ Q) (pairs ops ds lf) acc1)
   ((ops.toList.drop ds.length).take mN) ⟨acc ++ clean ds env0, objsB ++ adst.map (·.2)⟩ []) (pairs ops ds pf) acc) (pairs ops ds nf) []) : W C (.region id ops true) ⟨env0, objsB⟩ Q := by
 have hchk0 := hchk
 simp only [midOK, Bool.and_eq_true, decide_eq_true_eq, List.all_eq_true, List.mem_range, Bool.or_eq_true, List.contains_iff_mem] at hchk0
 obtain ⟨⟨⟨⟨⟨⟨⟨⟨hnd, hle⟩, hds⟩, hbk⟩, hmo⟩, hta⟩, hmd⟩, hfl⟩, hnf2⟩ := hchk0
 simp only [List.all_eq_true, List.mem_range, decide_eq_true_eq] at hcov hnf
 obtain ⟨fl, hfle⟩ : ∃ fl, fl = pf ++ lf := ⟨_, rfl⟩
 rw [← hfle] at hchk hcov hfl hnf2 hmo
 have hpfl : pairs ops ds fl = pairs ops ds pf ++ pairs ops ds lf := by rw [hfle, pairs, List.filterMap_append]; rfl
 rw [← hpfl] at hlat
 obtain ⟨acc, hP, hE1, hV⟩ := h.out hlv
 obtain ⟨acc1, hM, hEp, hPf⟩ := hP.out hlp
 obtain ⟨ms, m0, hK, hMs0⟩ := hM.out
 obtain ⟨acc', hT, hEl, hF0⟩ := hK.out hlf
 have hE2 : Ext1 (pairs ops ds fl) acc acc' := by rw [hpfl]; exact hEp.trans hEl
 have hlen : ((ops.toList.drop ds.length).take mN).length = mN := by simp; omega
 rw [hlen] at hT hF0
 have hpair : ∀ (is : List Nat) (d : Nat) (o : Oper), (d, o) ∈ pairs ops ds is ↔ ∃ i ∈ is, ds[i]? = some d ∧ ops[i]? = some o := by
  intro is d o
  simp only [pairs, List.mem_filterMap]
  constructor
  ·rintro ⟨i, hi, h⟩
   refine ⟨i, hi, ?_⟩
   split at h
   ·rename_i d' o' h1 h2
    injection h with h; injection h with e1 e2
    subst e1; subst e2
    exact ⟨h1, h2⟩
   ·cases h
  ·rintro ⟨i, hi, h1, h2⟩
   exact ⟨i, hi, by rw [h1, h2]⟩
 have hkey : ∀ (is : List Nat) (d : Nat), d ∈ (pairs ops ds is).map (·.1) → ∃ i ∈ is, ds[i]? = some d := by
  intro is d hd
  obtain ⟨⟨d', o⟩, h1, rfl⟩ := List.mem_map.1 hd
  obtain ⟨i, hi, h2, _⟩ := (hpair is d' o).1 h1
  exact ⟨i, hi, h2⟩
 have hnot : ∀ (i d : Nat), i ∉ fl → ds[i]? = some d → d ∉ (pairs ops ds fl).map (·.1) := by
  intro i d hi hd hin
  obtain ⟨i', hi', hd'⟩ := hkey fl d hin
  rw [nodup_get hnd hd hd'] at hi
  exact hi hi'
 have hin : ∀ i, i < ds.length → i ∉ fl → i ∈ nf := by
  intro i hi hf
  have := hcov i hi
  simpa [hf] using this
 have hnin : ∀ i, i ∈ nf → i ∉ fl := by
  intro i hi hf
  have := hcov i (hnf i hi)
  simp [hi, hf] at this
 have hop : ∀ (i d : Nat), ds[i]? = some d → ∃ o, ops[i]? = some o := by
  intro i d hd
  have hlt := (List.getElem?_eq_some_iff.1 hd).1
  exact ⟨ops[i], Array.getElem?_eq_getElem (by omega)⟩
 have hsplit : ∀ (L1 L2 : List (Nat × Oper)), laterOK ops (L1 ++ L2) = true → ∀ d o, (d, o) ∈ L1 → ∀ t ∈ depT ops o, t ∉ L2.map (·.1) := by
  intro L1
  induction L1 with
  | nil => intro L2 _ d o h; cases h
  | cons p r ih =>
   intro L2 hl d o hm t ht
   obtain ⟨d0, o0⟩ := p
   simp only [List.cons_append, laterOK, Bool.and_eq_true, List.all_eq_true, Bool.not_eq_true', List.contains_eq_mem, decide_eq_false_iff_not] at hl
   rcases List.mem_cons.1 hm with h | h
   ·injection h with e1 e2
    subst e1; subst e2
    have := hl.1.1 t ht
    simp only [List.map_append, List.mem_cons, List.mem_append, not_or] at this
    exact this.2.2
   ·exact ih L2 hl.2 d o h t ht
 have hsub : ∀ (L1 L2 : List (Nat × Oper)), laterOK ops (L1 ++ L2) = true → laterOK ops L2 = true := by
  intro L1
  induction L1 with
  | nil => intro L2 h; exact h
  | cons p r ih =>
   intro L2 hl
   obtain ⟨d0, o0⟩ := p
   simp only [List.cons_append, laterOK, Bool.and_eq_true] at hl
   exact ih L2 hl.2
 have hpl := hsub _ _ hlat
 rw [hpfl] at hpl
 have hF : ∀ d o, (d, o) ∈ pairs ops ds fl → ∃ c, look acc' d = some c ∧ (∀ mo, DrawStep C ops o (sel acc' (depT ops o) ++ clean (ds ++ dstsOf ops ds.length mN) env0) (objsB ++ mo) c) ∧ ∀ s ∈ [] ++ (List.range mN).map ms ++ [ms mN], DrawStep C ops o (sel acc' (depT ops o) ++ clean (ds ++ dstsOf ops ds.length mN) env0) s.objs c := by
  intro d o hm
  rw [hpfl, List.mem_append] at hm
  rcases hm with hm | hm
  ·obtain ⟨c, h1, h2⟩ := hPf d o hm
   have hnk : d ∉ (pairs ops ds lf).map (·.1) := by
    have aux : ∀ (L1 L2 : List (Nat × Oper)), laterOK ops (L1 ++ L2) = true → ∀ d o, (d, o) ∈ L1 → d ∉ L2.map (·.1) := by
     intro L1
     induction L1 with
     | nil => intro L2 _ d o h; cases h
     | cons p r ih =>
      intro L2 hl d o hm
      obtain ⟨d0, o0⟩ := p
      simp only [List.cons_append, laterOK, Bool.and_eq_true, List.all_eq_true, Bool.not_eq_true', List.contains_eq_mem, decide_eq_false_iff_not] at hl
      rcases List.mem_cons.1 hm with h | h
      ·injection h with e1 e2
       subst e1; subst e2
       have := hl.1.2
       simp only [List.map_append, List.mem_append, not_or] at this
       exact this.2
      ·exact ih L2 hl.2 d o h
    exact aux _ _ hpl d o hm
   refine ⟨c, (hEl.2.1 d c hnk).2 h1, ?_⟩
   rw [hEl.1 _ (hsplit _ _ hpl d o hm)]
   exact ⟨fun mo => h2 _, fun s _ => h2 _⟩
  ·exact hF0 d o hm
 have hMs : ∀ j o, ((ops.toList.drop ds.length).take mN)[j]? = some o → MidQ C ops o (sel acc' (depT ops o)) (ms j) (ms (j + 1)) := by
  intro j o ho
  have := hMs0 j o ho
  simp only [List.all_eq_true, Bool.not_eq_true', List.contains_eq_mem, decide_eq_false_iff_not] at hlm
  rw [← hEl.1 _ fun t ht => hlm o (List.mem_of_getElem? ho) t ht] at this
  exact this
 simp only [List.all_eq_true, Bool.and_eq_true, List.contains_iff_mem, decide_eq_true_eq] at had hadn
 obtain ⟨al, hal⟩ : ∃ al : List (Nat × AObj), al = adst.map fun p => (ds.idxOf p.1, p.2) := ⟨_, rfl⟩
 have halk : ∀ (k i : Nat) (z : AObj), al[k]? = some (i, z) → ∃ d, adst[k]? = some (d, z) ∧ ds[i]? = some d := by
  intro k i z hk
  rw [hal, List.getElem?_map] at hk
  obtain ⟨⟨d, z'⟩, h1, h2⟩ := Option.map_eq_some_iff.1 hk
  injection h2 with h2 h3
  subst h3; subst h2
  have hm := (had _ (List.mem_of_getElem? h1)).2
  exact ⟨d, h1, by rw [List.getElem?_eq_getElem (List.idxOf_lt_length_of_mem hm), List.getElem_idxOf]⟩
 have haln : (al.map (·.1)).Nodup := by
  have h1 : al.map (·.1) = (adst.map (·.1)).map ds.idxOf := by rw [hal, List.map_map, List.map_map]; rfl
  rw [h1]
  refine nodup_map_on ?_ hadn
  intro a ha b hb hab
  obtain ⟨⟨a', z1⟩, h2, rfl⟩ := List.mem_map.1 ha
  obtain ⟨⟨b', z2⟩, h3, rfl⟩ := List.mem_map.1 hb
  have m1 := (had _ h2).2
  have m2 := (had _ h3).2
  have g1 := List.getElem_idxOf (List.idxOf_lt_length_of_mem m1)
  have g2 := List.getElem_idxOf (List.idxOf_lt_length_of_mem m2)
  simp only at hab g1 g2 ⊢
  rw [← g1, ← g2]
  simp only [hab]
 refine W.slots adst.length ?_
 have hsl : objsB ++ List.replicate adst.length AObj.slot = objsB ++ al.map (fun _ => AObj.slot) := by
  rw [hal, List.map_map]; congr 1; exact (List.map_const').symm
 rw [hsl]
 have hdl : ∀ p, p ∈ al → ∃ d, (d, p.2) ∈ adst ∧ ds[p.1]? = some d ∧ p.1 ∈ nf := by
  intro p hp
  obtain ⟨k, hk⟩ := List.getElem?_of_mem hp
  obtain ⟨i, z⟩ := p
  obtain ⟨d, h1, h2⟩ := halk k i z hk
  have hm := List.mem_of_getElem? h1
  have h3 := (had _ hm).1
  have hmd' := (had _ hm).2
  have : ds.idxOf d = i := nodup_get hnd (by rw [List.getElem?_eq_getElem (List.idxOf_lt_length_of_mem hmd'), List.getElem_idxOf]) h2
  simp only [this] at h3
  exact ⟨d, hm, h2, h3⟩
 refine W.midS objsB al hmix ds fl mN acc' ms hchk ?_ ?_ (by rw [m0, hal, List.map_map]; rfl) ?_ haln ?_ ?_ ?_ ?_ ?_ ?_ (by simpa using hT)
 ·intro d hd
  obtain ⟨i, hi⟩ := List.getElem?_of_mem hd
  obtain ⟨o, ho⟩ := hop i d hi
  by_cases hf : i ∈ fl
  ·obtain ⟨c, h1, _⟩ := hF d o ((hpair fl d o).2 ⟨i, hf, hi, ho⟩)
   exact ⟨c, h1⟩
  ·obtain ⟨c, h1, _⟩ := hV d o ((hpair nf d o).2 ⟨i, hin i (List.getElem?_eq_some_iff.1 hi).1 hf, hi, ho⟩)
   exact ⟨c, (hE2.2.1 d c (hnot i d hf hi)).2 h1⟩
 ·intro t v hl
  rcases hE2.2.2 t v hl with h | h
  ·obtain ⟨i, _, hi⟩ := hkey fl t h; exact List.mem_of_getElem? hi
  ·rcases hE1.2.2 t v h with h | h
   ·obtain ⟨i, _, hi⟩ := hkey nf t h; exact List.mem_of_getElem? hi
   ·cases h
 ·intro p hp
  obtain ⟨d, _, h2, h3⟩ := hdl p hp
  exact ⟨(List.getElem?_eq_some_iff.1 h2).1, hnin _ h3⟩
 ·intro t v hl
  rw [m0] at hl
  simp only at hl
  rw [look_append] at hl
  cases ha : look acc t with
  | some v' =>
   rw [ha, Option.some_or] at hl
   injection hl with hl; subst hl
   rcases hE1.2.2 t _ ha with h | h
   ·obtain ⟨i, hi1, hi2⟩ := hkey nf t h
    exact .inl ⟨i, hnin i hi1, hi2, (hE2.2.1 t _ (hnot i t (hnin i hi1) hi2)).2 ha⟩
   ·cases h
  | none =>
   rw [ha, Option.none_or] at hl
   exact .inr (look_clean hl)
 ·intro i o d c hf hia ho hd hc
  have hm := (hpair nf d o).2 ⟨i, hin i (List.getElem?_eq_some_iff.1 hd).1 hf, hd, ho⟩
  obtain ⟨c', h1, h2⟩ := hV d o hm
  have h3 := (hE2.2.1 d c' (hnot i d hf hd)).2 h1
  rw [hc] at h3; injection h3 with h3; subst h3
  rw [hE2.1 _ (hsplit _ _ hlat d o hm)]
  rcases h2 with ⟨_, h2⟩ | ⟨k, z, h2, _⟩
  ·exact h2
  ·exfalso
   refine hia (List.mem_map.2 ⟨(ds.idxOf d, z), ?_, ?_⟩)
   ·rw [hal]; exact List.mem_map.2 ⟨(d, z), List.mem_of_getElem? h2, rfl⟩
   ·have hmd' := List.mem_of_getElem? hd
    exact nodup_get hnd (by rw [List.getElem?_eq_getElem (List.idxOf_lt_length_of_mem hmd'), List.getElem_idxOf]) hd
 ·intro k i z o d c hk ho hd hc
  obtain ⟨d', h1, h2⟩ := halk k i z hk
  rw [hd] at h2; injection h2 with h2; subst h2
  obtain ⟨_, _, h4, h5⟩ := hdl (i, z) (List.mem_of_getElem? hk)
  have hm := (hpair nf d o).2 ⟨i, h5, hd, ho⟩
  obtain ⟨c', g1, g2⟩ := hV d o hm
  have g3 := (hE2.2.1 d c' (hnot i d (hnin i h5) hd)).2 g1
  rw [hc] at g3; injection g3 with g3; subst g3
  rcases g2 with ⟨g2, _⟩ | ⟨k', z', g2, g4⟩
  ·exact absurd (List.mem_map.2 ⟨(d, z), List.mem_of_getElem? h1, rfl⟩) g2
  ·have e : k' = k := nodup_get hadn (by rw [List.getElem?_map, g2]; rfl) (by rw [List.getElem?_map, h1]; rfl)
   subst e
   rw [h1] at g2; injection g2 with g2; injection g2 with _ g2; subst g2
   rw [hE2.1 _ (hsplit _ _ hlat d o hm)]
   exact g4
 ·intro j o hj ho
  refine hMs j o ?_
  rw [List.getElem?_take, if_pos hj, List.getElem?_drop, Array.getElem?_toList]; exact ho
 ·intro i o d c hf ho hd hc
  obtain ⟨c', h1, h2⟩ := hF d o ((hpair fl d o).2 ⟨i, hf, hd, ho⟩)
  rw [hc] at h1; injection h1 with h1; subst h1
  exact h2.1
 ·intro j i o d c hj hf ho hd hc
  obtain ⟨c', h1, h2⟩ := hF d o ((hpair fl d o).2 ⟨i, hf, hd, ho⟩)
  rw [hc] at h1; injection h1 with h1; subst h1
  refine h2.2 (ms j) ?_
  rcases Nat.lt_or_ge j mN with h | h
  ·simp only [List.nil_append, List.mem_append, List.mem_map, List.mem_range]
   exact .inl ⟨j, h, rfl⟩
  ·have : j = mN := by omega
   subst this; simp
theorem MidVS.step {C : Ctx} {ops : Array Oper} {ds : List Nat} {env0 : List (Nat × AV)} {objsB : List AObj} {adst : List (Nat × AObj)} {K : List (Nat × AV) → Prop} {d : Nat} {o : Oper} {r : List (Nat × Oper)} {acc : List (Nat × AV)} {c : AV}
  (ha : (adst.map (·.1)).contains d = false) (h : ∀ mo, DrawStep C ops o (sel acc (depT ops o) ++ clean ds env0) (objsB ++ mo) c) (h' : MidVS C ops ds env0 objsB adst K r ((d, c) :: acc)) : MidVS C ops ds env0 objsB adst K ((d, o) :: r) acc :=
 ⟨c, .inl ⟨by simpa using ha, h⟩, h'⟩
theorem MidVS.alloc {C : Ctx} {ops : Array Oper} {ds : List Nat} {env0 : List (Nat × AV)} {objsB : List AObj} {adst : List (Nat × AObj)} {K : List (Nat × AV) → Prop} {d : Nat} {o : Oper} {r : List (Nat × Oper)} {acc : List (Nat × AV)} {t : TypeId} {y : Ty} {z : List Value} {cs : List AV} (k n : Nat)
  (ha : adst[k]? = some (d, .cells cs 1 1 false none)) (hn : objsB.length + k = n) (hk : Nat.ble C.k n = true) (hd : o.dst = some d) (hg : o.guard = none) (hlt : Nat.blt d C.nt = true) (hop : o.op = .alloc t) (hy : C.T.at t = some y) (hz : y.zero = some z) (hc : ofVals z = some cs) (h' : MidVS C ops ds env0 objsB adst K r ((d, .ptr n 1 0) :: acc)) : MidVS C ops ds env0 objsB adst K ((d, o) :: r) acc := by
 subst hn
 refine ⟨.ptr (objsB.length + k) 1 0, .inr ⟨k, _, ha, fun mo more hs => ?_⟩, h'⟩
 have hs' : (objsB ++ mo)[objsB.length + k]? = some .slot := by rw [List.getElem?_append_right (by omega)]; simpa using hs
 have hstep := v_allocS (C := C) (o := o) (env := (sel acc (depT ops o) ++ clean ds env0) ++ more) hs' (Nat.le_of_ble_eq_true hk) hop hy hz hc
 have he : (objsB ++ mo).set (objsB.length + k) (.cells cs 1 1 false none) = objsB ++ mo.set k (.cells cs 1 1 false none) := by
  rw [List.set_append_right _ _ (by omega)]; simp
 rw [he] at hstep
 exact sn hstep rfl rfl (by unfold gd; rw [hg]) hd hlt (WL.nil ⟨rfl, rfl⟩)
theorem MidVS.done {C : Ctx} {ops : Array Oper} {ds : List Nat} {env0 : List (Nat × AV)} {objsB : List AObj} {adst : List (Nat × AObj)} {K : List (Nat × AV) → Prop} {acc : List (Nat × AV)} (h : K acc) : MidVS C ops ds env0 objsB adst K [] acc := h
theorem MidFS.done {C : Ctx} {ops : Array Oper} {ds : List Nat} {env0 : List (Nat × AV)} {objsB : List AObj} {l : List St} {K : List (Nat × AV) → Prop} {acc : List (Nat × AV)} (h : K acc) : MidFS C ops ds env0 objsB l K [] acc := h
theorem MidP.step {C : Ctx} {ops : Array Oper} {ds : List Nat} {env0 : List (Nat × AV)} {K : List (Nat × AV) → Prop} {d : Nat} {o : Oper} {r : List (Nat × Oper)} {acc : List (Nat × AV)} {c : AV}
  (h : ∀ objs, DrawStep C ops o (sel acc (depT ops o) ++ clean ds env0) objs c) (h' : MidP C ops ds env0 K r ((d, c) :: acc)) : MidP C ops ds env0 K ((d, o) :: r) acc := ⟨c, h, h'⟩
theorem MidP.done {C : Ctx} {ops : Array Oper} {ds : List Nat} {env0 : List (Nat × AV)} {K : List (Nat × AV) → Prop} {acc : List (Nat × AV)} (h : K acc) : MidP C ops ds env0 K [] acc := h
theorem MidMP.val {C : Ctx} {ops : Array Oper} {acc : List (Nat × AV)} {K : St → List St → Prop} {o : Oper} {r : List Oper} {env : List (Nat × AV)} {objs objs' : List AObj} {l : List St} {d : Nat} {c : AV} (hd : o.dst = some d)
  (h : ∀ more, WL C ops [o] ⟨sel acc (depT ops o) ++ (env ++ more), objs⟩ (fun e s => e = .normal ∧ s = ⟨(d, c) :: (sel acc (depT ops o) ++ (env ++ more)), objs'⟩)) (h' : MidMP C ops acc K r ⟨(d, c) :: env, objs'⟩ (l ++ [⟨env, objs⟩])) : MidMP C ops acc K (o :: r) ⟨env, objs⟩ l :=
 ⟨⟨(d, c) :: env, objs'⟩, .inr ⟨d, c, hd, rfl, h⟩, h'⟩
theorem MidMP.eff {C : Ctx} {ops : Array Oper} {acc : List (Nat × AV)} {K : St → List St → Prop} {o : Oper} {r : List Oper} {env : List (Nat × AV)} {objs objs' : List AObj} {l : List St} (hd : o.dst = none)
  (h : ∀ more, WL C ops [o] ⟨sel acc (depT ops o) ++ (env ++ more), objs⟩ (fun e s => e = .normal ∧ s = ⟨sel acc (depT ops o) ++ (env ++ more), objs'⟩)) (h' : MidMP C ops acc K r ⟨env, objs'⟩ (l ++ [⟨env, objs⟩])) : MidMP C ops acc K (o :: r) ⟨env, objs⟩ l :=
 ⟨⟨env, objs'⟩, .inl ⟨rfl, h⟩, h'⟩
theorem MidMP.done {C : Ctx} {ops : Array Oper} {acc : List (Nat × AV)} {K : St → List St → Prop} {s : St} {l : List St} (h : K s l) : MidMP C ops acc K [] s l := h
theorem loadc_i {y : Ty} {cs : List AV} {i j : Nat} {av : AV} (hk : y.k.agg = false) (hj : j = i) (h : cs[i]? = some av) : loadc y cs j = some av := by
 subst hj
 simp [loadc, hk, h]
end Go.Lens

set_option linter.unusedVariables false
set_option linter.unusedSimpArgs false
namespace Go.Lens
open Go Go.RowKit
theorem v_append_nilS {C : Ctx} {o : Oper} {env : List (Nat × AV)} {objs : List AObj} {s x : Operand} {t e : TypeId} {y ye : Ty} {c : AV} {m j : Nat} {ds : List AV} {z : List Value} (hjs : objs[j]? = some .slot) (hjk : C.k ≤ j) (hop : o.op = .call { callee := .builtin .append, args := #[s, x], argTypes := #[t, t] })
  (hs : ev ⟨env, objs⟩ s = some .nils) (hx : ev ⟨env, objs⟩ x = some c) (hy : C.T.at t = some y) (hk : y.k = .slice e) (hye : C.T.at e = some ye) (hz : ye.zero = some z) (hzl : z.length = ye.size) (hsz : 0 < ye.size)
  (hsrc : SrcAV objs c m ye.size ds) (hm : 0 < m) (hone : ∀ d ∈ ds, d.oneB = true) (hbound : m ≤ 9223372036854775807) (hbytes : m * ye.bytes ≤ 140737488355328) :
  VStep C o ⟨env, objs⟩ (.sl j 1 0 m true) (objs.set j (.cells ds 1 ye.size true (some e))) := by
 intro H a w hi
 have h1 := ev_rel hi hs
 simp only [RelV] at h1
 obtain ⟨ad, cap, news, h2, h3, h4, h5⟩ := src_rel hi hsrc hm hsz (ev_rel hi hx)
 obtain ⟨d, i, hd, _, hkd, _⟩ := C.ty hy
 rw [hk] at hkd
 obtain rfl := kOf_slice hkd
 obtain ⟨de, ie, hde, hie, _, hss, hbb, hzz⟩ := C.ty hye
 rw [hz] at hzz
 obtain ⟨z0, hz0, hz1⟩ := Option.map_eq_some_iff.1 hzz.symm
 have hones : ∀ u ∈ news, u.oneCell' = true := by
  intro u hu
  obtain ⟨j, hj⟩ := List.getElem?_of_mem hu
  have hjl : j < ds.length := by rw [h3.length]; exact (List.getElem?_eq_some_iff.1 hj).1
  obtain ⟨u', hu', hru⟩ := h3.get j ds[j] (by simp [hjl])
  rw [hj] at hu'; injection hu' with hu'; subst hu'
  have : One ([] : List AObj) ds[j] := One.of_oneB (hone _ (List.getElem_mem hjl))
  exact (this.cell (H := H.bare) (w := w) ⟨rfl, fun _ _ h => by simp at h, fun _ _ _ _ h => by simp at h, hi.objs.lt⟩ hru).1
 obtain ⟨v', w', r1, r2, r3, r4⟩ := run_append_own (P := C.P) w w.heap.size t o.type e ie z0 ye.size ye.bytes hd hie hz0 hss.symm hbb.symm (by rw [← hzl, ← hz1]; simp) hsz (.slice none 0 0) 0 [] (World.ownsRow_nil w _ e _) ad m cap news (by rw [h4]) h5 hones
  (by simp only [maxLen]; omega) (by simpa using hbytes) (Nat.le_refl _)
 simp only [Nat.zero_add, List.nil_append] at r2 r4
 obtain ⟨q1, q2⟩ := r2
 rcases q2 with ⟨rfl, q2⟩ | ⟨g, cp, cur, rfl, q3, q4, q5, q6, q7, q8⟩
 ·omega
 have hn : H.n = objs.length := hi.objs.n
 have hjl : j < objs.length := (List.getElem?_eq_some_iff.1 hjs).1
 have hv0 : H.ver j = 0 := hi.objs.rel j _ hjs
 let H' : View := { n := H.n, blk := fun o => if o = j then g else H.blk o, off := fun o => if o = j then 0 else H.off o, cap := fun o => if o = j then cp else H.cap o, ver := fun o => if o = j then 1 else H.ver o, wr := fun b => H.wr b ∨ b = g }
 have hfr : ∀ b, b < w.heap.size → w'.heap[b]? = w.heap[b]? := fun b hb => r3.block b hb (by simp [Value.ownBlock])
 have hgl : g < w'.heap.size := (Array.getElem?_eq_some_iff.1 q4).1
 have hK : Keeps w H w' H' := by
  refine ⟨fun ad u hc hx => ?_, fun b hb hw => ?_, Nat.le_refl _, fun o ho => ?_, fun o ho hvv => ?_⟩
  ·rw [World.cell?_of_block (w := w) (hfr _ (World.block_lt_of_cell? w ad hc))]; exact hc
  ·rcases hw with hw | hw
   ·exact hw
   ·omega
  ·by_cases e : o = j
   ·subst e; simp [H', hv0]
   ·simp [H', e]
  ·by_cases e : o = j
   ·subst e; simp [H', hv0] at hvv
   ·simp [H', e]
 have hget : ∀ i ob, (objs.set j (.cells ds 1 ye.size true (some e)))[i]? = some ob → (i = j ∧ ob = .cells ds 1 ye.size true (some e)) ∨ (i ≠ j ∧ objs[i]? = some ob) := by
  intro i ob hob
  by_cases e : i = j
  ·subst e
   rw [List.getElem?_set_self hjl] at hob
   injection hob with hob
   exact .inl ⟨rfl, hob.symm⟩
  ·rw [List.getElem?_set_ne (Ne.symm e)] at hob
   exact .inr ⟨e, hob⟩
 have hlive : ∀ i ob, objs[i]? = some ob → ob.live = true → H.blk i < w.heap.size := fun i ob h1 h2 => hi.objs.lt _ (hi.objs.wr_blk h1 h2)
 refine ⟨.slice (some ⟨g, 0, none⟩) m cp, w', H', ?_, ?_, ?_⟩
 ·simp only [execOp, hop, resolve, invoke, builtin, Sem.run_bind, Sem.run_pure, Result.andThen_ok, List.map_toArray, List.map_cons, List.map_nil, h1, h2, r1]
 ·refine hi.move (objs' := objs.set j (.cells ds 1 ye.size true (some e))) hK ⟨by simp [H', hn], fun i ob hob => ?_, fun i i' ob ob' h1 h2 l1 l2 hb => ?_, fun b hb => ?_⟩ (fun b hb => ⟨fun h => h.resolve_right (by have := hi.le; omega), .inl⟩) (by have := hi.klen; simp at this ⊢; omega) (fun x hx => by simp [H', show x ≠ j by omega]) (fun x cs ver esz flat own hx hob => ?_) (fun x hx => Outside.of_eq (hfr _ (Nat.lt_of_lt_of_le (C.hk x hx) hi.le)) _ _) (fun i ob hob hl => ?_) (fun b hb _ => hfr b (Nat.lt_of_lt_of_le hb hi.le)) r3.size r3.os r3.tape r3.output
  ·rcases hget i ob hob with ⟨rfl, rfl⟩ | ⟨hne, hob⟩
   ·refine ⟨by simp [H'], by simp [H'], news, cur, e, by simpa [H'] using q4, ?_, ?_, ?_⟩
    ·exact h3.keeps ds hK.bare
    ·intro k u hu
     rw [← q8, List.getElem?_take] at hu
     split at hu
     ·simpa [H'] using hu
     ·cases hu
    ·intro t' ht'
     injection ht' with ht'
     exact ⟨ht', by simp [H'], by simpa [H'] using q7, by simpa [H'] using q6, m, h4, by simpa [H'] using q5⟩
   ·by_cases hl : ob.live = true
    ·exact (hi.objs.rel i ob hob).keeps hK (by simp [H', hne]) (by simp [H', hne]) (by simp [H', hne]) (by simp [H', hne]) (fun h => .inl h) (hfr _ (hlive i ob hob hl))
    ·cases ob <;> first | trivial | (simp [AObj.live] at hl; done) | (have := hi.objs.rel i _ hob; simpa [RelO, H', hne] using this)
  ·rcases hget i ob h1 with ⟨e1, rfl⟩ | ⟨n1, g1⟩ <;> rcases hget i' ob' h2 with ⟨e2, rfl⟩ | ⟨n2, g2⟩
   ·rw [e1, e2]
   ·simp only [H', if_pos e1, if_neg n2] at hb
    have := hlive _ _ g2 l2; omega
   ·simp only [H', if_pos e2, if_neg n1] at hb
    have := hlive _ _ g1 l1; omega
   ·simp only [H', if_neg n1, if_neg n2] at hb
    exact hi.objs.inj _ _ _ _ g1 g2 l1 l2 hb
  ·rcases hb with hb | hb
   ·have := hi.objs.lt b hb; have := r3.size; omega
   ·omega
  ·rcases hget x _ hob with ⟨rfl, _⟩ | ⟨_, hob⟩
   ·omega
   ·exact hi.lens x cs ver esz flat own hx hob
  ·rcases hget i ob hob with ⟨rfl, _⟩ | ⟨hne, hob⟩
   ·exact .inr (by simp only [H', if_true]; exact Nat.le_trans hi.le q3)
   ·simp only [H', if_neg hne]; exact hi.own i ob hob hl
 ·exact ⟨by simp [H', hn]; omega, by simp [H'], fun _ => ⟨⟨g, 0, none⟩, cp, rfl, q5, fun _ => by simp [H'], fun _ => ⟨by simp [H'], rfl, by simp [H']⟩⟩⟩
def gV (j n : Nat) : AV := match n with | 0 => .nils | n + 1 => .sl j (n + 1) 0 (n + 1) true
def gO (e : TypeId) (esz : Nat) (l : List AV) (n : Nat) : AObj := match n with | 0 => .slot | n + 1 => .cells l (n + 1) esz true (some e)
/-- one element more -/
theorem v_gr {C : Ctx} {o : Oper} {env : List (Nat × AV)} {objs : List AObj} {s x : Operand} {t e : TypeId} {y ye : Ty} {n esz : Nat} {l ds : List AV} {z : List Value} (j : Nat) (hjk : Nat.ble C.k j = true) (hjs : objs[j]? = some (gO e esz l n)) (hop : o.op = .call { callee := .builtin .append, args := #[s, x], argTypes := #[t, t] })
  (hs : ev ⟨env, objs⟩ s = some (gV j n)) (hl : l.length = n * esz) (hx : ev ⟨env, objs⟩ x = some (.row ds 1)) (hds : ds.length = esz) (hy : C.T.at t = some y) (hk : y.k = .slice e)
  (hye : C.T.at e = some ye) (hz : ye.zero = some z) (hzl : z.length = ye.size) (hesz : ye.size = esz) (hsz : 0 < ye.size) (hone : ds.all AV.oneB = true) (hbytes : (n + 1) * ye.bytes ≤ 140737488355328) (hn : n + 1 ≤ 9223372036854775807) :
  VStep C o ⟨env, objs⟩ (gV j (n + 1)) (objs.set j (gO e esz (l ++ ds) (n + 1))) := by
 subst hesz
 have hone' : ∀ d ∈ ds, d.oneB = true := fun d hd => List.all_eq_true.1 hone d hd
 cases n with
 | zero =>
  have h0 : l = [] := List.length_eq_zero_iff.1 (by simpa using hl)
  subst h0
  exact v_append_nilS (m := 1) (ds := ds) hjs (Nat.le_of_ble_eq_true hjk) hop hs hx hy hk hye hz hzl hsz (.inr (.inl ⟨rfl, by simpa using hds⟩)) (by omega) hone' (by omega) (by simpa using hbytes)
 | succ n =>
  exact v_append_own (m := 1) (ds := ds) hop hs hjs hl hx hy hk hye hz hzl hsz (.inr (.inl ⟨rfl, by simpa using hds⟩)) hone' (by omega) hbytes
/-- a place at which all ways meet again that do not leave -/
theorem W.cutR {C : Ctx} {c : Code} {st : St} {Q : Exit → St → Prop} (P : Prop) (env1 : List (Nat × AV)) (objs1 : List AObj) (h : W C c st (QThen (fun s => P ∧ Fits C.k env1 objs1 s) Q)) (h2 : P → Q .normal ⟨env1, objs1⟩) (hsv : C.sv = [] := by rfl) : W C c st Q := by
 intro a w hr
 refine wp_mono (h a w hr) fun e a' w' hp => ?_
 obtain ⟨s, hf, hr'⟩ := hp
 cases e with
 | normal => exact ⟨_, h2 hf.1, hr'.weak hf.2.1 hf.2.2.1 hf.2.2.2.1 hf.2.2.2.2 hsv⟩
 | _ => exact ⟨s, hf, hr'⟩
end Go.Lens

set_option linter.unusedVariables false
set_option linter.unusedSimpArgs false
namespace Go.Lens
open Go Go.RowKit
mutual
/-- the data that came in, as abstract values -/
def avOf {H : Type} : DataW H → List AV
  | .lit (.int k n) => [.int k n]
  | .lit (.bool b) => [.bool b]
  | .lit (.string l) => [.str l]
  | .nil => [.nils]
  | .slice ds _ => [.row (avOfL ds) ds.length]
  | .agg ds => avOfL ds
  | _ => [.any]
def avOfL {H : Type} : List (DataW H) → List AV
  | [] => []
  | d :: ds => avOf d ++ avOfL ds
end
/-- what is left behind by a call to which nothing was handed to be written -/
theorem Left.below {w : World} {H : View} {w' : World} {H' : View} (h : Left w H [] w' H' []) : Below w.heap.size w w' :=
 ⟨h.os, h.tape, h.output, h.size, fun k hk => h.frame k hk (fun o ob ho => by simp at ho)⟩
/-- the view of a call's beginning: nothing is known, nothing may be written -/
def View.none : View := ⟨0, fun _ => 0, fun _ => 0, fun _ => 0, fun _ => 0, fun _ => False⟩
theorem Objs.none (w : World) : Objs w View.none [] := ⟨rfl, fun o ob h => by simp at h, fun o o' ob ob' h => by simp at h, fun b h => h.elim⟩
/-- a law that answers true leaves the world as it was -/
theorem Does.calls {P : Program} {f : FuncId} {args : List AV} {r : AV} (h : Does P f args r) {w : World} {vs : List Value} (hr : RelL w args View.none vs) :
  Calls P f vs.toArray w fun e w' => ∃ v H', e = .returned v ∧ RelV w' r H' v ∧ Below w.heap.size w w' := by
 refine (h.2 View.none w vs (Objs.none w) hr).mono fun e w' ⟨r', os, H', v, he, ⟨h1, h2⟩, h3, h4⟩ => ?_
 subst h1; subst h2
 exact ⟨v, H', he, h3, h4.below⟩
/-- the fields lie one behind the other, and fill the whole -/
def tiles (T : Tab) (size : Nat) : Nat → List (Nat × TypeId) → Bool
  | n, [] => n == size
  | n, (off, t) :: fs => off == n && (match T.at t with | some y => tiles T size (n + y.size) fs | none => false)
/-- a type of whole numbers, truth values, strings, and of structs, arrays and slices of such -/
def goodT (T : Tab) : Nat → TypeId → Bool
  | 0, _ => false
  | f + 1, t => match T.at t with
    | some y => (match y.k with
      | .int _ => y.size == 1
      | .bool => y.size == 1
      | .string => y.size == 1
      | .slice e => y.size == 1 && goodT T f e
      | .array n e => goodT T f e && (match T.at e with | some ye => y.size == n * ye.size | none => false)
      | .struct fs => tiles T y.size 0 fs && fs.all (fun q => goodT T f q.2)
      | _ => false)
    | none => false
theorem mapM_some {α β : Type} {f : α → Option β} : ∀ {l : List α} {r : List β}, l.mapM f = some r → l.length = r.length ∧ ∀ (j : Nat) (x : α), l[j]? = some x → ∃ y, r[j]? = some y ∧ f x = some y
 | [], r, h => by simp at h; subst h; exact ⟨rfl, fun j x h => by simp at h⟩
 | a :: l, r, h => by
  simp only [List.mapM_cons, Option.bind_eq_bind, Option.pure_def] at h
  obtain ⟨b, h1, h2⟩ := Option.bind_eq_some_iff.1 h
  obtain ⟨r', h3, h4⟩ := Option.bind_eq_some_iff.1 h2
  injection h4 with h4; subst h4
  obtain ⟨k1, k2⟩ := mapM_some h3
  refine ⟨by simp [k1], fun j x hj => ?_⟩
  cases j with
  | zero => simp at hj; subst hj; exact ⟨b, rfl, h1⟩
  | succ j => simpa using k2 j x (by simpa using hj)
theorem tabTy {P : Program} {T : Tab} (ok : TabOK P T) {t : TypeId} {y : Ty} (h : T.at t = some y) : ∃ d i, P.underlying t = some d ∧ P.info? t = some i ∧ y.k = kOf d ∧ y.size = i.size ∧ y.bytes = i.bytes ∧ y.zero = i.zero.map fun z => z.cells.toList := tyOf_spec (ok t y h)
theorem cellsOf_tab {P : Program} {T : Tab} (ok : TabOK P T) {t : TypeId} {y : Ty} (h : T.at t = some y) : P.cellsOf t = y.size := by
 obtain ⟨d, i, _, hi, _, hs, _⟩ := tabTy ok h
 simp [Program.cellsOf, hi, hs]
theorem avOfL_append {H : Type} : ∀ (a b : List (DataW H)), avOfL (a ++ b) = avOfL a ++ avOfL b
 | [], b => by simp [avOfL]
 | d :: a, b => by simp [avOfL, avOfL_append a b, List.append_assoc]
/-- cells that are read in pieces -/
theorem pieces_rel {H : Type} {w : World} : ∀ (xs : List (DataW H × List MemPlace)) (L : Nat → List Value), (∀ i x, xs[i]? = some x → RelL w (avOf x.1) View.none (L i)) →
  RelL w (avOfL (xs.map (·.1))) View.none ((List.range xs.length).flatMap L)
 | [], L, _ => by simp [avOfL, RelL]
 | x :: xs, L, h => by
  rw [List.length_cons, List.range_succ_eq_map]
  simp only [List.map_cons, avOfL, List.flatMap_cons, List.flatMap_map]
  exact (h 0 x rfl).append (pieces_rel xs (fun i => L (i + 1)) fun i y hy => h (i + 1) y (by simpa using hy))
theorem chunks {k : Nat} : ∀ (n : Nat) (cs : List Value), cs.length = n * k → (List.range n).flatMap (fun i => (cs.drop (i * k)).take k) = cs
 | 0, cs, h => by
  have : cs = [] := List.length_eq_zero_iff.1 (by simpa using h)
  subst this; rfl
 | n + 1, cs, h => by
  rw [List.range_succ_eq_map]
  simp only [List.flatMap_cons, List.flatMap_map, Nat.zero_mul, List.drop_zero]
  have e := chunks n (cs.drop k) (by rw [List.length_drop, h, Nat.succ_mul, Nat.add_sub_cancel])
  have e2 : (fun i => (cs.drop (Nat.succ i * k)).take k) = fun i => ((cs.drop k).drop (i * k)).take k := by
   funext i; rw [List.drop_drop, Nat.succ_mul, Nat.add_comm]
  rw [e2, e, List.take_append_drop]
/-- what a reading of an argument tells -/
theorem trod_rel {H : Type} {enc : TypeId × Value → H} {P : Program} {T : Tab} (ok : TabOK P T) {w : World} : ∀ (fuel g : Nat) (t : TypeId) (cs : List Value) (d : DataW H) (ps : List MemPlace),
  DataW.trod enc P w 0 (fun _ => true) true fuel t cs = some (d, ps) → goodT T g t = true → RelL w (avOf d) View.none cs ∧ cs.length = P.cellsOf t := by
 intro fuel
 induction fuel with
 | zero => intro g t cs d ps h; simp [DataW.trod] at h
 | succ fuel ih =>
  intro g t cs d ps h hg
  cases g with
  | zero => simp [goodT] at hg
  | succ g =>
   simp only [goodT] at hg
   cases hy : T.at t with
   | none => rw [hy] at hg; cases hg
   | some y =>
    rw [hy] at hg
    obtain ⟨dd, inf, hd, _, hk, _⟩ := tabTy ok hy
    have hcell := cellsOf_tab ok hy
    simp only [hk] at hg
    cases dd <;> simp only [kOf] at hg <;> try (cases hg; done)
    case int k =>
     have hsz : y.size = 1 := by simpa using hg
     rcases cs with _ | ⟨v, _ | ⟨v2, r⟩⟩
     ·simp [DataW.trod, hd] at h
     ·cases v <;> simp only [DataW.trod, hd] at h <;> try (simp at h; done)
      split at h
      ·rename_i hq
       injection h with h; injection h with h1 h2
       subst h1
       obtain ⟨rfl, _⟩ := hq
       exact ⟨RelL_cons rfl RelL_nil, by rw [hcell, hsz]; rfl⟩
      ·cases h
     ·simp [DataW.trod, hd] at h
    case bool =>
     have hsz : y.size = 1 := by simpa using hg
     rcases cs with _ | ⟨v, _ | ⟨v2, r⟩⟩
     ·simp [DataW.trod, hd] at h
     ·cases v <;> simp only [DataW.trod, hd] at h <;> try (simp at h; done)
      injection h with h; injection h with h1 h2
      subst h1
      exact ⟨RelL_cons rfl RelL_nil, by rw [hcell, hsz]; rfl⟩
     ·simp [DataW.trod, hd] at h
    case string =>
     have hsz : y.size = 1 := by simpa using hg
     rcases cs with _ | ⟨v, _ | ⟨v2, r⟩⟩
     ·simp [DataW.trod, hd] at h
     ·cases v <;> simp only [DataW.trod, hd] at h <;> try (simp at h; done)
      split at h
      ·injection h with h; injection h with h1 h2
       subst h1
       exact ⟨RelL_cons rfl RelL_nil, by rw [hcell, hsz]; rfl⟩
      ·cases h
     ·simp [DataW.trod, hd] at h
    case slice e =>
     have hsz : y.size = 1 := by simp at hg; exact hg.1
     have hge : goodT T g e = true := by simp at hg; exact hg.2
     rcases DataW.trod_slice hd h with ⟨rfl, hx⟩ | ⟨a, len, cap, elems, rest, m, hm, rfl, hx, _, hl, _, hlen, hel, _, _⟩
     ·injection hx with h1 h2
      subst h1
      exact ⟨RelL_cons rfl RelL_nil, by rw [hcell, hsz]; rfl⟩
     ·injection hx with h1 h2
      subst h1
      obtain rfl : fuel = m := by omega
      refine ⟨RelL_cons ?_ RelL_nil, by rw [hcell, hsz]; rfl⟩
      have hp : ∀ i x, elems[i]? = some x → RelL w (avOf x.1) View.none ((w.cells? 0 (a.add (i * P.cellsOf e)) (P.cellsOf e)).getD []) := by
       intro i x hx
       have hi : i < len := by rw [← hlen]; exact (List.getElem?_eq_some_iff.1 hx).1
       have hh := hel i hi
       rw [hx] at hh
       obtain ⟨cs, h1, h2⟩ := Option.bind_eq_some_iff.1 hh
       rw [h1]
       exact (ih g e cs x.1 x.2 h2 hge).1
      have hr := pieces_rel elems _ hp
      refine ⟨some a, cap, _, by rw [List.length_map, hlen], by rw [List.length_map, hlen]; exact hl, hr, fun _ => ⟨a, rfl, ?_, id⟩⟩
      have hat : ∀ n, n ≤ elems.length → At w a ((List.range n).flatMap fun i => (w.cells? 0 (a.add (i * P.cellsOf e)) (P.cellsOf e)).getD []) ∧ ((List.range n).flatMap fun i => (w.cells? 0 (a.add (i * P.cellsOf e)) (P.cellsOf e)).getD []).length = n * P.cellsOf e := by
       intro n
       induction n with
       | zero => intro _; exact ⟨fun j u h => by simp at h, by simp⟩
       | succ n ihn =>
        intro hn
        obtain ⟨k1, k2⟩ := ihn (by omega)
        have hh := hel n (by omega)
        rw [List.getElem?_eq_getElem (by omega)] at hh
        obtain ⟨cs, h1, h2⟩ := Option.bind_eq_some_iff.1 hh
        obtain ⟨_, hcl, hcc⟩ := World.cells?_some h1
        rw [List.range_succ, List.flatMap_append]
        simp only [List.flatMap_cons, List.flatMap_nil, List.append_nil]
        rw [h1, Option.getD_some]
        refine ⟨fun j u hj => ?_, by rw [List.length_append, k2, hcl, Nat.succ_mul]⟩
        by_cases hjl : j < n * P.cellsOf e
        ·rw [List.getElem?_append_left (by rw [k2]; exact hjl)] at hj
         exact k1 j u hj
        ·rw [List.getElem?_append_right (by rw [k2]; omega), k2] at hj
         have hlt : j - n * P.cellsOf e < P.cellsOf e := by
          have := (List.getElem?_eq_some_iff.1 hj).1; rw [hcl] at this; exact this
         have := hcc _ hlt
         rw [hj, Addr.add_add] at this
         rw [← this]
         congr 2; omega
      exact (hat elems.length (Nat.le_refl _)).1
    case array n e =>
     obtain ⟨xs, m, hm, hx, hl, hxl, hel⟩ := DataW.trod_array hd h
     injection hx with h1 h2
     subst h1
     obtain rfl : fuel = m := by omega
     refine ⟨?_, hl⟩
     cases he : T.at e with
     | none => rw [he] at hg; simp at hg
     | some ye =>
      rw [he] at hg
      simp only [Bool.and_eq_true, beq_iff_eq] at hg
      have hce := cellsOf_tab ok he
      have hr := pieces_rel xs (fun i => (cs.drop (i * P.cellsOf e)).take (P.cellsOf e)) fun i x hx => by
       have hi : i < n := by rw [← hxl]; exact (List.getElem?_eq_some_iff.1 hx).1
       exact (ih g e _ x.1 x.2 ((hel i hi).trans hx) hg.1).1
      rw [hxl, chunks n cs (by rw [hl, hcell, hce]; exact hg.2)] at hr
      exact hr
    case struct fs =>
     obtain ⟨xs, m, hm, hx, hl, hxl, hel⟩ := DataW.trod_struct hd h
     injection hx with h1 h2
     subst h1
     obtain rfl : fuel = m := by omega
     refine ⟨?_, hl⟩
     simp only [Bool.and_eq_true] at hg
     have hgo : ∀ (l : List Field) (n : Nat) (ys : List (DataW H × List MemPlace)), tiles T y.size n (l.map fun f => (f.offset, f.type)) = true → (∀ f, f ∈ l → goodT T g f.type = true) → ys.length = l.length →
       (∀ (i : Nat) (f : Field), l[i]? = some f → DataW.trod enc P w 0 (fun _ => true) true fuel f.type ((cs.drop f.offset).take (P.cellsOf f.type)) = ys[i]?) → RelL w (avOfL (ys.map (·.1))) View.none (cs.drop n) := by
      intro l
      induction l with
      | nil =>
       intro n ys ht _ hyl _
       have : ys = [] := List.length_eq_zero_iff.1 hyl
       subst this
       have hn : n = y.size := by simpa [tiles] using ht
       rw [List.drop_of_length_le (by rw [hl, hcell, hn]; exact Nat.le_refl _)]
       exact rfl
      | cons f l ihl =>
       intro n ys ht hgd hyl hel
       cases ys with
       | nil => simp at hyl
       | cons x ys =>
        simp only [List.map_cons, tiles, Bool.and_eq_true, beq_iff_eq] at ht
        obtain ⟨hoff, ht⟩ := ht
        cases hfy : T.at f.type with
        | none => rw [hfy] at ht; cases ht
        | some yf =>
         rw [hfy] at ht
         have h0 := hel 0 f rfl
         rw [hoff] at h0
         have hx0 := (ih g f.type _ x.1 x.2 (h0.trans rfl) (hgd f (List.mem_cons_self ..))).1
         have hr := ihl (n + yf.size) ys ht (fun f' hf' => hgd f' (List.mem_cons_of_mem _ hf')) (by simpa using hyl) fun i f' hf' => by simpa using hel (i + 1) f' (by simpa using hf')
         rw [List.map_cons, avOfL]
         have e : cs.drop n = (cs.drop n).take (P.cellsOf f.type) ++ cs.drop (n + yf.size) := by
          rw [cellsOf_tab ok hfy, ← List.drop_drop, List.take_append_drop]
         rw [e]
         exact hx0.append hr
     have := hgo fs.toList 0 xs hg.1 (fun f hf => by
      have := List.all_eq_true.1 hg.2 (f.offset, f.type) (List.mem_map.2 ⟨f, hf, rfl⟩)
      exact this) (by simpa using hxl) (fun i f hf => hel i f (by simpa using hf))
     rw [List.drop_zero] at this
     exact this
/-- an argument, as an abstract value -/
def avArg {H : Type} : DataW H → AV
  | .agg ds => .agg (avOfL ds)
  | d => (avOf d).headD .any
theorem arg_rel {H : Type} {enc : TypeId × Value → H} {P : Program} {T : Tab} (ok : TabOK P T) {w w' : World} {r : Reach} {base g : Nat} {t : TypeId} {v : Value} {d : DataW H} {ps : List MemPlace} (hok : Value.okWide P w' r base t v)
  (h : DataW.Trod enc P w 0 (fun _ => true) true t v d ps) (hg : goodT T g t = true) : RelV w (avArg d) View.none v := by
 obtain ⟨fuel, h⟩ := h
 obtain ⟨hr, _⟩ := trod_rel ok fuel g t _ d ps h hg
 cases g with
 | zero => simp [goodT] at hg
 | succ g =>
  simp only [goodT] at hg
  cases hy : T.at t with
  | none => rw [hy] at hg; cases hg
  | some y =>
   rw [hy] at hg
   obtain ⟨dd, inf, hd, _, hk, _⟩ := tabTy ok hy
   simp only [hk] at hg
   cases dd <;> simp only [kOf] at hg <;> try (cases hg; done)
   case int k =>
    obtain ⟨n, h1, h2, _⟩ := DataW.trod_int hd h
    injection h2 with h2 h3; subst h2
    obtain ⟨u, vs, e, hu, e2⟩ := hr
    simp only [RelV] at hu; subst hu
    cases v <;> simp_all [Value.cells, Value.okWide, Cell.okWide, Cell.ok, avArg, avOf, RelV]
   case bool =>
    obtain ⟨n, h1, h2⟩ := DataW.trod_bool hd h
    injection h2 with h2 h3; subst h2
    obtain ⟨u, vs, e, hu, e2⟩ := hr
    simp only [RelV] at hu; subst hu
    cases v <;> simp_all [Value.cells, Value.okWide, Cell.okWide, Cell.ok, avArg, avOf, RelV]
   case string =>
    obtain ⟨n, h1, h2, _⟩ := DataW.trod_string hd h
    injection h2 with h2 h3; subst h2
    obtain ⟨u, vs, e, hu, e2⟩ := hr
    simp only [RelV] at hu; subst hu
    cases v <;> simp_all [Value.cells, Value.okWide, Cell.okWide, Cell.ok, avArg, avOf, RelV]
   case slice e =>
    have hv : v.cells.toList = [v] := by
     simp only [Value.okWide, hd, Cell.okWide] at hok
     cases v <;> simp_all [Cell.ok, Value.cells]
    rw [hv] at hr
    rcases DataW.trod_slice hd h with ⟨_, hx⟩ | ⟨a, len, cap, elems, rest, m, _, _, hx, _⟩
    ·injection hx with h1 h2
     subst h1
     obtain ⟨u, vs, e, hu, _⟩ := hr
     injection e with e _; subst e
     exact hu
    ·injection hx with h1 h2
     subst h1
     obtain ⟨u, vs, e, hu, _⟩ := hr
     injection e with e _; subst e
     exact hu
   case array n e =>
    obtain ⟨xs, m, _, hx, _⟩ := DataW.trod_array hd h
    injection hx with h1 h2
    subst h1
    simp only [Value.okWide, hd] at hok
    obtain ⟨cs, rfl, _⟩ := hok
    exact ⟨cs.toList, rfl, hr⟩
   case struct fs =>
    obtain ⟨xs, m, _, hx, _⟩ := DataW.trod_struct hd h
    injection hx with h1 h2
    subst h1
    simp only [Value.okWide, hd] at hok
    obtain ⟨cs, rfl, _⟩ := hok
    exact ⟨cs.toList, rfl, hr⟩
theorem args_rel {H : Type} {enc : TypeId × Value → H} {P : Program} {T : Tab} (ok : TabOK P T) {w w' : World} {r : Reach} {base g : Nat} : ∀ {ts : List TypeId} {vs : List Value} {ds : List (DataW H)} {ps : List MemPlace},
  (∀ (j : Nat) t v, ts[j]? = some t → vs[j]? = some v → Value.okWide P w' r base t v) → DataW.TrodAll enc P w 0 (fun _ => true) true ts vs ds ps → ts.all (goodT T g) = true → RelL w (ds.map avArg) View.none vs
 | [], [], [], _, _, _, _ => rfl
 | t :: ts, v :: vs, d :: ds, _, hok, ⟨p, q, h1, h2, _⟩, hg => by
  simp only [List.all_cons, Bool.and_eq_true] at hg
  exact RelL_cons (arg_rel ok (hok 0 t v rfl rfl) h1 hg.1) (args_rel ok (fun j t v ht hv => hok (j + 1) t v (by simpa using ht) (by simpa using hv)) h2 hg.2)
 | [], [], _ :: _, _, _, h, _ => h.elim
 | [], _ :: _, _, _, _, h, _ => h.elim
 | _ :: _, [], _, _, _, h, _ => h.elim
 | _ :: _, _ :: _, [], _, _, h, _ => h.elim
/-- what a type says of data -/
def shapes {H : Type} (p : TypeId → DataW H → Prop) : List TypeId → List (DataW H) → Prop
  | [], ds => ds = []
  | t :: ts, ds => ∃ d r, ds = d :: r ∧ p t d ∧ shapes p ts r
def shapeT {H : Type} (T : Tab) : Nat → TypeId → DataW H → Prop
  | 0, _, _ => True
  | f + 1, t, d => match T.at t with
    | some y => (match y.k with
      | .int k => ∃ n, d = .lit (.int k n) ∧ (Lit.int k n).wf = true
      | .bool => ∃ b, d = .lit (.bool b)
      | .string => ∃ l, d = .lit (.string l) ∧ l.length ≤ maxLen
      | .slice e => d = .nil ∨ ∃ ds rest, d = .slice ds rest ∧ ds.length ≤ maxLen ∧ ∀ x ∈ ds, shapeT T f e x
      | .array n e => ∃ ds, d = .agg ds ∧ ds.length = n ∧ ∀ x ∈ ds, shapeT T f e x
      | .struct fs => ∃ ds, d = .agg ds ∧ shapes (shapeT T f) (fs.map (·.2)) ds
      | _ => True)
    | none => True
theorem shapes_of {H : Type} {p : TypeId → DataW H → Prop} : ∀ {ts : List TypeId} {ds : List (DataW H)}, ts.length = ds.length → (∀ (j : Nat) t d, ts[j]? = some t → ds[j]? = some d → p t d) → shapes p ts ds
 | [], [], _, _ => rfl
 | t :: ts, d :: ds, hl, h => ⟨d, ds, rfl, h 0 t d rfl rfl, shapes_of (by simpa using hl) fun j t d ht hd => h (j + 1) t d (by simpa using ht) (by simpa using hd)⟩
 | [], _ :: _, hl, _ => by simp at hl
 | _ :: _, [], hl, _ => by simp at hl
theorem trod_shape {H : Type} {enc : TypeId × Value → H} {P : Program} {T : Tab} (ok : TabOK P T) {w : World} : ∀ (fuel g : Nat) (t : TypeId) (cs : List Value) (x : DataW H × List MemPlace),
  DataW.trod enc P w 0 (fun _ => true) true fuel t cs = some x → shapeT T g t x.1 := by
 intro fuel
 induction fuel with
 | zero => intro g t cs x h; simp [DataW.trod] at h
 | succ fuel ih =>
  intro g t cs x h
  cases g with
  | zero => trivial
  | succ g =>
   simp only [shapeT]
   cases hy : T.at t with
   | none => trivial
   | some y =>
    obtain ⟨dd, inf, hd, _, hk, _⟩ := tabTy ok hy
    simp only [hk]
    cases dd <;> simp only [kOf]
    case int k => obtain ⟨n, _, rfl, hw⟩ := DataW.trod_int hd h; exact ⟨n, rfl, hw⟩
    case bool => obtain ⟨n, _, rfl⟩ := DataW.trod_bool hd h; exact ⟨n, rfl⟩
    case string => obtain ⟨s, _, rfl, hs⟩ := DataW.trod_string hd h; exact ⟨_, rfl, hs⟩
    case slice e =>
     rcases DataW.trod_slice hd h with ⟨_, rfl⟩ | ⟨a, len, cap, elems, rest, m, hm, _, rfl, _, hl, hc, hlen, hel, _, _⟩
     ·exact .inl rfl
     ·obtain rfl : fuel = m := by omega
      refine .inr ⟨_, _, rfl, by rw [List.length_map, hlen]; exact Nat.le_trans hl hc, fun d hd => ?_⟩
      obtain ⟨z, hz, rfl⟩ := List.mem_map.1 hd
      obtain ⟨i, hi⟩ := List.getElem?_of_mem hz
      have hh := hel i (by rw [← hlen]; exact (List.getElem?_eq_some_iff.1 hi).1)
      rw [hi] at hh
      obtain ⟨cs', _, h2⟩ := Option.bind_eq_some_iff.1 hh
      exact ih g e cs' z h2
    case array n e =>
     obtain ⟨xs, m, hm, rfl, _, hxl, hel⟩ := DataW.trod_array hd h
     obtain rfl : fuel = m := by omega
     refine ⟨_, rfl, by rw [List.length_map, hxl], fun d hd => ?_⟩
     obtain ⟨z, hz, rfl⟩ := List.mem_map.1 hd
     obtain ⟨i, hi⟩ := List.getElem?_of_mem hz
     have hh := hel i (by rw [← hxl]; exact (List.getElem?_eq_some_iff.1 hi).1)
     rw [hi] at hh
     exact ih g e _ z hh
    case struct fs =>
     obtain ⟨xs, m, hm, rfl, _, hxl, hel⟩ := DataW.trod_struct hd h
     obtain rfl : fuel = m := by omega
     refine ⟨_, rfl, shapes_of (by simp [hxl]) fun j t d ht hd => ?_⟩
     simp only [List.map_map, List.getElem?_map, Option.map_eq_some_iff, Array.getElem?_toList] at ht hd
     obtain ⟨f, hf, rfl⟩ := ht
     obtain ⟨z, hz, rfl⟩ := hd
     exact ih g _ _ z ((hel j f hf).trans hz)
theorem args_shape {H : Type} {enc : TypeId × Value → H} {P : Program} {T : Tab} (ok : TabOK P T) {w : World} {g : Nat} : ∀ {ts : List TypeId} {vs : List Value} {ds : List (DataW H)} {ps : List MemPlace},
  DataW.TrodAll enc P w 0 (fun _ => true) true ts vs ds ps → shapes (shapeT T g) ts ds
 | [], [], [], _, _ => rfl
 | t :: ts, v :: vs, d :: ds, _, ⟨p, q, ⟨fuel, h1⟩, h2, _⟩ => ⟨d, ds, rfl, trod_shape ok fuel g t _ (d, p) h1, args_shape ok h2⟩
 | [], [], _ :: _, _, h => h.elim
 | [], _ :: _, _, _, h => h.elim
 | _ :: _, [], _, _, h => h.elim
 | _ :: _, _ :: _, [], _, h => h.elim
theorem shapes.length {H : Type} {p : TypeId → DataW H → Prop} : ∀ {ts : List TypeId} {ds : List (DataW H)}, shapes p ts ds → ds.length = ts.length
 | [], _, h => by cases h; rfl
 | _ :: _, _, ⟨_, _, rfl, _, h⟩ => by simp [shapes.length h]
/-- the arguments read behind the call as they did ahead of it -/
theorem Below.trodAll {H : Type} {enc : TypeId × Value → H} {P : Program} (hl : laidOutB P = true) {W W' : World} (hb : Below W.heap.size W W') : ∀ {ts : List TypeId} {vs : List Value} {ds : List (DataW H)} {ps : List MemPlace},
  ts.all (fun t => P.readableRec t && decide (t < P.types.size)) = true → DataW.TrodAll enc P W 0 (fun _ => true) true ts vs ds ps → DataW.TrodAll enc P W' 0 (fun b => decide (b < W.heap.size)) true ts vs ds ps
 | [], [], [], _, _, h => h
 | t :: ts, v :: vs, d :: ds, _, hg, ⟨p, q, h1, h2, e⟩ => by
  simp only [List.all_cons, Bool.and_eq_true, decide_eq_true_eq] at hg
  refine ⟨p, q, Below.trod hl hg.1.1 hg.1.2 h1 hb ?_, Below.trodAll hl hb hg.2 h2, e⟩
  obtain ⟨m, hm⟩ := h1
  exact DataW.trod_lt m _ _ _ hm
 | [], [], _ :: _, _, _, h => h.elim
 | [], _ :: _, _, _, _, h => h.elim
 | _ :: _, [], _, _, _, h => h.elim
 | _ :: _, _ :: _, [], _, _, h => h.elim
/-- the first so many -/
theorem min_nat (n k : Nat) : AV.int .i64 (if (k : Int) < (n : Int) then (k : Int) else (n : Int)) = .int .i64 ((min n k : Nat) : Int) := by
 congr 1
 split
 ·rw [Nat.min_eq_right (by omega)]
 ·rw [Nat.min_eq_left (by omega)]
theorem str_take3 (s : List UInt8) (k : Nat) : AV.str ((s.drop 0).take (((min s.length k : Nat) : Int).toNat - 0)) = .str (s.take k) := by
 congr 1
 rw [Int.toNat_natCast, Nat.sub_zero, List.drop_zero]
 rcases Nat.le_total s.length k with h | h
 ·rw [Nat.min_eq_left h, List.take_of_length_le (Nat.le_refl _), List.take_of_length_le h]
 ·rw [Nat.min_eq_right h]
end Go.Lens

set_option linter.unusedVariables false
set_option linter.unusedSimpArgs false
namespace Go.Lens
open Go
/-! ### weaker arguments -/
def SubL : List AV → List AV → Prop
  | [], [] => True
  | c :: cs, d :: ds => Sub c d ∧ SubL cs ds
  | _, _ => False
theorem SubL.rel : ∀ {cs ds : List AV}, SubL cs ds → ∀ (w : World) (H : View) (vs : List Value), RelL w cs H vs → RelL w ds H vs
 | [], [], _, _, _, _, h => h
 | c :: cs, d :: ds, ⟨h1, h2⟩, w, H, vs, h => by
  obtain ⟨v, vs', e, g1, g2⟩ := h
  exact ⟨v, vs', e, h1 w H v g1, SubL.rel h2 w H vs' g2⟩
theorem Does.sub {P : Program} {f : FuncId} {args args' : List AV} {r : AV} (h : Does P f args' r) (hs : SubL args args') : Does P f args r :=
 ⟨h.1, fun H w vs ho hr => h.2 H w vs ho (hs.rel w H vs hr)⟩
end Go.Lens
