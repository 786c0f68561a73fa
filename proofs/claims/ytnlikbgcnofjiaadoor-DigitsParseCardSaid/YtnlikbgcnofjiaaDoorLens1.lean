/- Lens, part 1: the call's own store, and what an abstract state says of a frame and a world. -/
import Derived.Test.YtnlikbgcnofjiaaDoorLens0
import Derived.Laws.CopyRow
import Derived.Laws.AppendOwn
set_option linter.unusedVariables false
set_option linter.unusedSimpArgs false
namespace Go.Lens
open Go Go.RowKit

theorem get_snoc {α : Type} {l : List α} {x y : α} {i : Nat} (h : (l ++ [x])[i]? = some y) : (i < l.length ∧ l[i]? = some y) ∨ (i = l.length ∧ y = x) := by
  rcases Nat.lt_trichotomy i l.length with h1 | h1 | h1
  · rw [List.getElem?_append_left h1] at h; exact .inl ⟨h1, h⟩
  · subst h1; simp at h; exact .inr ⟨rfl, h.symm⟩
  · rw [List.getElem?_eq_none (by simp; omega)] at h; cases h

/-- An object of the call's own store. `flat`: its cells name no object; `own`: the whole block is ours, its elements are of that type. -/
inductive AObj where
  | dead
  | cells (cs : List AV) (ver esz : Nat) (flat : Bool) (own : Option TypeId)
  | iter (s : List UInt8) (pos : Nat)
  | slot
  deriving Inhabited

def AObj.live : AObj → Bool
  | .dead => false
  | .slot => false
  | _ => true

/-- a whole block of ours -/
def AObj.mine : AObj → Bool
  | .cells _ _ _ _ (some _) => true
  | _ => false

def View.flatIf (H : View) (b : Bool) : View := if b then H.bare else H

/-- what an object says of the world -/
def RelO (w : World) (H : View) (o : Nat) : AObj → Prop
  | .dead => True
  | .cells cs ver esz flat own => H.ver o = ver ∧ H.wr (H.blk o) ∧ ∃ vs c e, w.heap[H.blk o]? = some (.cells c e (0, 0)) ∧ RelL w cs (H.flatIf flat) vs ∧
      (∀ j u, vs[j]? = some u → c[H.off o + j]? = some u) ∧
      (∀ t, own = some t → e = t ∧ H.off o = 0 ∧ c.size = H.cap o * esz ∧ H.cap o ≤ maxLen ∧ ∃ N, vs.length = N * esz ∧ N ≤ H.cap o)
  | .slot => H.ver o = 0
  | .iter s pos => H.ver o = 0 ∧ H.wr (H.blk o) ∧ H.off o = 0 ∧ w.heap[H.blk o]? = some (.stringIter ⟨s.toArray⟩ pos)

structure St where
  env : List (Nat × AV)
  objs : List AObj

def look : List (Nat × AV) → Nat → Option AV
  | [], _ => none
  | (k, v) :: r, t => if k == t then some v else look r t

/-- What does not change within a call. -/
structure Ctx where
  P : Program
  T : Tab
  ok : TabOK P T
  nt : Nat
  w0 : World
  k : Nat
  H0 : View
  ln : Nat → Nat
  hk : ∀ o, o < k → H0.blk o < w0.heap.size
  hj : ∀ x o, x < k → o < k → H0.blk x = H0.blk o → x = o
  sv : List (Array Value × List (Nat × AV))

/-- the blocks that came in to be written -/
def Ctx.M0 (C : Ctx) (b : Nat) : Prop := ∃ o, o < C.k ∧ b = C.H0.blk o

structure Objs (w : World) (H : View) (objs : List AObj) : Prop where
  n : H.n = objs.length
  rel : ∀ o ob, objs[o]? = some ob → RelO w H o ob
  inj : ∀ o o' ob ob', objs[o]? = some ob → objs[o']? = some ob' → ob.live = true → ob'.live = true → H.blk o = H.blk o' → o = o'
  lt : ∀ b, H.wr b → b < w.heap.size

/-- of a block nothing has turned but a stretch of its cells -/
def Outside (w w' : World) (b off n : Nat) : Prop := ∀ c e, w'.heap[b]? = some (.cells c e (0, 0)) → ∃ c0, w.heap[b]? = some (.cells c0 e (0, 0)) ∧ c.size = c0.size ∧ ∀ j, (j < off ∨ off + n ≤ j) → c[j]? = c0[j]?
theorem Outside.of_eq {w w' : World} {b : Nat} (h : w'.heap[b]? = w.heap[b]?) (off n : Nat) : Outside w w' b off n := fun c e hc => ⟨c, h ▸ hc, rfl, fun _ _ => rfl⟩
theorem Outside.trans {w w1 w2 : World} {b off n : Nat} (h : Outside w w1 b off n) (h' : Outside w1 w2 b off n) : Outside w w2 b off n := by
  intro c e hc
  obtain ⟨c1, h1, h2, h3⟩ := h' c e hc
  obtain ⟨c0, g1, g2, g3⟩ := h c1 e h1
  exact ⟨c0, g1, h2.trans g2, fun j hj => (h3 j hj).trans (g3 j hj)⟩

structure Inv (C : Ctx) (H : View) (st : St) (a : Act) (w : World) : Prop where
  size : a.tmps.size = C.nt
  defers : a.defers = []
  env : ∀ t av, look st.env t = some av → RelV w av H (a.tmps.getD t undef)
  objs : Objs w H st.objs
  wr0 : ∀ b, b < C.w0.heap.size → (H.wr b ↔ C.H0.wr b)
  klen : C.k ≤ st.objs.length
  byref : ∀ o, o < C.k → H.blk o = C.H0.blk o ∧ H.off o = C.H0.off o ∧ H.cap o = C.H0.cap o
  lens : ∀ o cs ver esz flat own, o < C.k → st.objs[o]? = some (.cells cs ver esz flat own) → cs.length = C.ln o
  out : ∀ o, o < C.k → Outside C.w0 w (C.H0.blk o) (C.H0.off o) (C.ln o)
  own : ∀ o ob, st.objs[o]? = some ob → ob.live = true → (o < C.k ∧ ob.mine = false) ∨ C.w0.heap.size ≤ H.blk o
  frame : ∀ b, b < C.w0.heap.size → ¬ C.M0 b → w.heap[b]? = C.w0.heap[b]?
  le : C.w0.heap.size ≤ w.heap.size
  os : w.os = C.w0.os
  tape : w.tape = C.w0.tape
  output : w.output = C.w0.output
  saved : ∀ p, p ∈ C.sv → ∀ t av, look p.2 t = some av → RelV w av H (p.1.getD t undef)

def Rel (C : Ctx) (st : St) (a : Act) (w : World) : Prop := ∃ H, Inv C H st a w

def St.put (st : St) (d : Option Nat) (v : AV) : St := match d with | some d => { st with env := (d, v) :: st.env } | none => st

theorem Inv.put {C : Ctx} {H : View} {st : St} {a : Act} {w : World} (h : Inv C H st a w) (d : Option Nat) (hd : ∀ t, d = some t → t < C.nt) {av : AV} {v : Value} (hv : RelV w av H v) :
    Inv C H (st.put d av) (a.put d v) w := by
  cases d with
  | none => exact h
  | some d =>
    have hlt := hd d rfl
    refine ⟨by simp [Act.put, h.size], h.defers, ?_, h.objs, h.wr0, h.klen, h.byref, h.lens, h.out, h.own, h.frame, h.le, h.os, h.tape, h.output, h.saved⟩
    intro t av' ht
    simp only [St.put, look] at ht
    by_cases e : d = t
    · subst e
      simp only [beq_self_eq_true, if_true, Option.some.injEq] at ht
      subst ht
      have : (a.put (some d) v).tmps.getD d undef = v := by
        simp [Act.put, Array.getD_eq_getD_getElem?, h.size, hlt]
      rw [this]; exact hv
    · have hb : (d == t) = false := by simpa using e
      simp only [hb, Bool.false_eq_true, if_false] at ht
      have : (a.put (some d) v).tmps.getD t undef = a.tmps.getD t undef := by
        simp [Act.put, Array.getD_eq_getD_getElem?, Array.getElem?_setIfInBounds_ne e]
      rw [this]; exact h.env t av' ht

/-- less is known -/
structure Less (st st' : St) : Prop where
  objs : st'.objs = st.objs
  env : ∀ t av, look st'.env t = some av → look st.env t = some av ∨ av = .any

theorem Inv.less {C : Ctx} {H : View} {st st' : St} {a : Act} {w : World} (h : Inv C H st a w) (hl : Less st st') : Inv C H st' a w := by
  obtain ⟨h1, h2⟩ := hl
  refine ⟨h.size, h.defers, ?_, h1 ▸ h.objs, h.wr0, h1 ▸ h.klen, h.byref, h1 ▸ h.lens, h.out, h1 ▸ h.own, h.frame, h.le, h.os, h.tape, h.output, h.saved⟩
  intro t av ht
  rcases h2 t av ht with h3 | rfl
  · exact h.env t av h3
  · trivial

/-- the world moves, the view moves: what is known of the frame and of the objects that are named still holds -/
theorem Inv.move {C : Ctx} {H H' : View} {st : St} {a : Act} {w w' : World} {objs' : List AObj} (h : Inv C H st a w) (hk : Keeps w H w' H')
    (ho : Objs w' H' objs') (hw0 : ∀ b, b < C.w0.heap.size → (H'.wr b ↔ H.wr b)) (hkl : C.k ≤ objs'.length) (hby : ∀ o, o < C.k → H'.blk o = H.blk o ∧ H'.off o = H.off o ∧ H'.cap o = H.cap o) (hlens : ∀ o cs ver esz flat own, o < C.k → objs'[o]? = some (.cells cs ver esz flat own) → cs.length = C.ln o) (hou : ∀ o, o < C.k → Outside w w' (C.H0.blk o) (C.H0.off o) (C.ln o)) (hown : ∀ o ob, objs'[o]? = some ob → ob.live = true → (o < C.k ∧ ob.mine = false) ∨ C.w0.heap.size ≤ H'.blk o)
    (hfr : ∀ b, b < C.w0.heap.size → ¬ C.M0 b → w'.heap[b]? = w.heap[b]?) (hle : w.heap.size ≤ w'.heap.size) (hos : w'.os = w.os) (ht : w'.tape = w.tape) (hout : w'.output = w.output) :
    Inv C H' { st with objs := objs' } a w' :=
  ⟨h.size, h.defers, fun t av hl => (h.env t av hl).keeps av hk, ho, fun b hb => (hw0 b hb).trans (h.wr0 b hb), hkl, fun o ho => ⟨(hby o ho).1.trans (h.byref o ho).1, (hby o ho).2.1.trans (h.byref o ho).2.1, (hby o ho).2.2.trans (h.byref o ho).2.2⟩, hlens, fun o ho => (h.out o ho).trans (hou o ho), hown,
   fun b hb hm => (hfr b hb hm).trans (h.frame b hb hm), Nat.le_trans h.le hle, hos.trans h.os, ht.trans h.tape, hout.trans h.output, fun p hp t av ht => (h.saved p hp t av ht).keeps av hk⟩

/-- a draw -/
theorem Keeps.drew (w : World) (H : View) : Keeps w H w.drew H := ⟨fun _ _ h _ => h, fun _ _ h => h, Nat.le_refl _, fun _ _ => Nat.le_refl _, fun _ _ _ => ⟨rfl, rfl, rfl⟩⟩

theorem View.flatIf_n (H : View) (b : Bool) : (H.flatIf b).n ≤ H.n := by cases b <;> simp [View.flatIf]
theorem Keeps.flatIf {w w' : World} {H H' : View} (hk : Keeps w H w' H') (b : Bool) : Keeps w (H.flatIf b) w' (H'.flatIf b) := by
  cases b
  · exact hk
  · exact hk.bare

theorem RelO.keeps {w w' : World} {H H' : View} (hk : Keeps w H w' H') {o : Nat} {ob : AObj} (h : RelO w H o ob) (hb : H'.blk o = H.blk o) (hf : H'.off o = H.off o) (hc : H'.cap o = H.cap o)
    (hv : H'.ver o = H.ver o) (hw : H.wr (H.blk o) → H'.wr (H.blk o)) (hh : w'.heap[H.blk o]? = w.heap[H.blk o]?) : RelO w' H' o ob := by
  cases ob with
  | dead => trivial
  | slot => exact hv.trans h
  | iter s pos =>
    obtain ⟨h0, h1, h2, h3⟩ := h
    exact ⟨hv.trans h0, hb ▸ hw h1, hf ▸ h2, by rw [hb, hh]; exact h3⟩
  | cells cs ver esz flat own =>
    obtain ⟨h1, h2, vs, c, e, h3, h4, h5, h6⟩ := h
    refine ⟨hv.trans h1, hb ▸ hw h2, vs, c, e, by rw [hb, hh]; exact h3, h4.keeps cs (hk.flatIf flat), by rw [hf]; exact h5, ?_⟩
    rw [hf, hc]; exact h6

/-- one more object -/
def View.add (H : View) (b cap : Nat) : View :=
  { n := H.n + 1, blk := fun o => if o = H.n then b else H.blk o, off := fun o => if o = H.n then 0 else H.off o, cap := fun o => if o = H.n then cap else H.cap o,
    ver := fun o => if o = H.n then 0 else H.ver o, wr := fun x => H.wr x ∨ x = b }

theorem Keeps.add (w : World) (H : View) (o : Obj) (cap : Nat) : Keeps w H (w.alloc o) (H.add w.heap.size cap) := by
  refine ⟨fun a v h _ => by rw [World.cell?_alloc_lt]; exact h; exact World.block_lt_of_cell? w a h, fun b hb hwr => ?_, Nat.le_succ _, fun o' ho' => ?_, fun o' ho' _ => ?_⟩
  · rcases hwr with h | h
    · exact h
    · omega
  · have : o' ≠ H.n := by omega
    simp [View.add, this]
  · have : o' ≠ H.n := by omega
    simp [View.add, this]

theorem Objs.wr_blk {w : World} {H : View} {objs : List AObj} (h : Objs w H objs) {i : Nat} {ob : AObj} (hi : objs[i]? = some ob) (hl : ob.live = true) : H.wr (H.blk i) := by
  have := h.rel i ob hi
  cases ob with
  | dead => cases hl
  | slot => cases hl
  | cells => exact this.2.1
  | iter => exact this.2.1

theorem Inv.new {C : Ctx} {H : View} {st : St} {a : Act} {w : World} (h : Inv C H st a w) {ob : AObj} {o : Obj} (cap : Nat)
    (hr : RelO (w.alloc o) (H.add w.heap.size cap) H.n ob) :
    Inv C (H.add w.heap.size cap) { st with objs := st.objs ++ [ob] } a (w.alloc o) := by
  have hk := Keeps.add w H o cap
  have hn := h.objs.n
  have hkl := h.klen
  have hby : ∀ x, x < C.k → (H.add w.heap.size cap).blk x = H.blk x ∧ (H.add w.heap.size cap).off x = H.off x ∧ (H.add w.heap.size cap).cap x = H.cap x := by
    intro x hx
    have : x ≠ H.n := by omega
    simp [View.add, this]
  refine h.move hk ⟨by simp [View.add, hn], ?_, ?_, ?_⟩ ?_ (by simp; omega) hby (fun o cs ver esz flat own ho hob => ?_) (fun o ho => ?_) ?_ ?_ (by simp) rfl rfl rfl
  rotate_left 4
  · rw [List.getElem?_append_left (by omega)] at hob
    exact h.lens o cs ver esz flat own ho hob
  · exact Outside.of_eq (Below.heap_alloc w _ _ (Nat.lt_of_lt_of_le (C.hk o ho) h.le)) _ _
  rotate_right 4
  · intro i ob' hi
    rcases get_snoc hi with ⟨hlt, hi⟩ | ⟨e, rfl⟩
    · have hne : i ≠ H.n := by omega
      by_cases hl : ob'.live = true
      · refine (h.objs.rel i ob' hi).keeps hk (by simp [View.add, hne]) (by simp [View.add, hne]) (by simp [View.add, hne]) (by simp [View.add, hne]) (fun x => .inl x) ?_
        exact Below.heap_alloc w o _ (h.objs.lt _ (h.objs.wr_blk hi hl))
      · cases ob' <;> first | trivial | (simp [AObj.live] at hl; done) | (have := h.objs.rel i _ hi; simpa [RelO, View.add, hne] using this)
    · rw [show i = H.n by omega]; exact hr
  · intro i i' ob1 ob2 h1 h2 l1 l2 he
    rcases get_snoc h1 with ⟨a1, g1⟩ | ⟨a1, g1⟩ <;> rcases get_snoc h2 with ⟨a2, g2⟩ | ⟨a2, g2⟩
    · have n1 : i ≠ H.n := by omega
      have n2 : i' ≠ H.n := by omega
      simp only [View.add, if_neg n1, if_neg n2] at he
      exact h.objs.inj i i' ob1 ob2 g1 g2 l1 l2 he
    · have n1 : i ≠ H.n := by omega
      have n2 : i' = H.n := by omega
      simp only [View.add, if_neg n1, if_pos n2] at he
      have := h.objs.lt _ (h.objs.wr_blk g1 l1)
      omega
    · have n1 : i = H.n := by omega
      have n2 : i' ≠ H.n := by omega
      simp only [View.add, if_pos n1, if_neg n2] at he
      have := h.objs.lt _ (h.objs.wr_blk g2 l2)
      omega
    · omega
  · intro b hb
    rcases hb with hb | hb
    · have := h.objs.lt b hb; simp; omega
    · simp; omega
  · intro b hb
    refine ⟨fun hx => hx.resolve_right (by have := h.le; omega), .inl⟩
  · intro i ob' hi hl
    rcases get_snoc hi with ⟨hlt, hi⟩ | ⟨e, rfl⟩
    · simp only [View.add, if_neg (show i ≠ H.n by omega)]
      exact h.own i ob' hi hl
    · simp only [View.add, if_pos (show i = H.n by omega)]
      exact .inr h.le
  · intro b hb _
    exact Below.heap_alloc w o b (Nat.lt_of_lt_of_le hb h.le)

/-- the block of an object is written: another object in its place, all else stays -/
theorem Inv.write {C : Ctx} {H H' : View} {st : St} {a : Act} {w w' : World} (h : Inv C H st a w) {o : Nat} {ob ob' : AObj} (ho : st.objs[o]? = some ob) (hl : ob.live = true) (hm : ob'.mine = true → ob.mine = true)
    (hH : H'.n = H.n ∧ (∀ x, x ≠ o → H'.blk x = H.blk x ∧ H'.off x = H.off x ∧ H'.cap x = H.cap x ∧ H'.ver x = H.ver x))
    (hoo : (H'.ver o = H.ver o ∧ H'.blk o = H.blk o ∧ H'.off o = H.off o ∧ H'.cap o = H.cap o) ∨ H.ver o < H'.ver o)
    (hblk : H'.blk o = H.blk o ∨ (w.heap.size ≤ H'.blk o ∧ H'.blk o < w'.heap.size)) (hkk : o < C.k → H'.blk o = H.blk o ∧ H'.off o = H.off o ∧ H'.cap o = H.cap o ∧ (∀ cs ver esz flat own, ob' = .cells cs ver esz flat own → cs.length = C.ln o) ∧ Outside w w' (H.blk o) (H.off o) (C.ln o))
    (hwr : ∀ b, H'.wr b ↔ (H.wr b ∨ (b = H'.blk o ∧ w.heap.size ≤ b)))
    (hheap : ∀ b, b < w.heap.size → b ≠ H.blk o → w'.heap[b]? = w.heap[b]?)
    (hsz : w.heap.size ≤ w'.heap.size) (hos : w'.os = w.os) (ht : w'.tape = w.tape) (hout : w'.output = w.output)
    (hr : RelO w' H' o ob') : Inv C H' { st with objs := st.objs.set o ob' } a w' := by
  have hwo := h.objs.wr_blk ho hl
  have holt : o < st.objs.length := (List.getElem?_eq_some_iff.1 ho).1
  have hn := h.objs.n
  have hk : Keeps w H w' H' := by
    refine ⟨fun ad v hc hx => ?_, fun b hb hx => ?_, Nat.le_of_eq hH.1.symm, fun x hx => ?_, fun x hx hv => ?_⟩
    · have hb := World.block_lt_of_cell? w ad hc
      have : ad.block ≠ H.blk o := fun e => hx (e ▸ hwo)
      rw [World.cell?_of_block (w := w) (hheap _ hb this)]; exact hc
    · rcases (hwr b).1 hx with h1 | h1
      · exact h1
      · omega
    · by_cases e : x = o
      · subst e; rcases hoo with ⟨h1, _⟩ | h1
        · omega
        · omega
      · rw [(hH.2 x e).2.2.2]; exact Nat.le_refl _
    · by_cases e : x = o
      · subst e; rcases hoo with ⟨_, h1, h2, h3⟩ | h1
        · exact ⟨h1, h2, h3⟩
        · omega
      · exact ⟨(hH.2 x e).1, (hH.2 x e).2.1, (hH.2 x e).2.2.1⟩
  refine h.move hk ⟨by simp [hH.1, hn], ?_, ?_, ?_⟩ ?_ (by simpa using h.klen) (fun x hx => ?_) (fun x cs ver esz flat own hx hob => ?_) (fun x hx => ?_) ?_ ?_ hsz hos ht hout
  rotate_left 4
  · by_cases e : x = o
    · subst e; exact ⟨(hkk hx).1, (hkk hx).2.1, (hkk hx).2.2.1⟩
    · exact ⟨(hH.2 x e).1, (hH.2 x e).2.1, (hH.2 x e).2.2.1⟩
  · by_cases e : x = o
    · subst e
      rw [List.getElem?_set_self holt] at hob
      injection hob with hob
      exact (hkk hx).2.2.2.1 _ _ _ _ _ hob
    · rw [List.getElem?_set_ne (fun y => e y.symm)] at hob
      exact h.lens x cs ver esz flat own hx hob
  · obtain ⟨q1, q2, q3⟩ := h.byref x hx
    by_cases e : x = o
    · subst e
      rw [← q1, ← q2]; exact (hkk hx).2.2.2.2
    · refine Outside.of_eq (hheap _ (Nat.lt_of_lt_of_le (C.hk x hx) h.le) fun hb => ?_) _ _
      rcases h.own o ob ho hl with ⟨h1, _⟩ | h1
      · exact e (C.hj x o hx h1 (hb.trans (h.byref o h1).1))
      · have := C.hk x hx; omega
  rotate_right 4
  · intro i ob2 hi
    by_cases e : i = o
    · subst e
      rw [List.getElem?_set_self holt] at hi
      injection hi with hi; subst hi; exact hr
    · rw [List.getElem?_set_ne (fun x => e x.symm)] at hi
      obtain ⟨b1, b2, b3, b4⟩ := hH.2 i e
      by_cases hl2 : ob2.live = true
      · refine (h.objs.rel i ob2 hi).keeps hk b1 b2 b3 b4 (fun hx => (hwr _).2 (.inl hx)) ?_
        refine hheap _ (h.objs.lt _ (h.objs.wr_blk hi hl2)) (fun hx => e ?_)
        exact h.objs.inj i o ob2 ob hi ho hl2 hl hx
      · cases ob2 <;> first | trivial | (simp [AObj.live] at hl2; done) | (have := h.objs.rel i _ hi; exact b4.trans this)
  · intro i i' ob1 ob2 h1 h2 l1 l2 he
    by_cases e1 : i = o <;> by_cases e2 : i' = o
    · omega
    · subst e1
      rw [List.getElem?_set_ne (fun x => e2 x.symm)] at h2
      rw [(hH.2 i' e2).1] at he
      rcases hblk with hb | ⟨hb, _⟩
      · rw [hb] at he
        exact h.objs.inj i i' ob ob2 ho h2 hl l2 he
      · have := h.objs.lt _ (h.objs.wr_blk h2 l2); omega
    · subst e2
      rw [List.getElem?_set_ne (fun x => e1 x.symm)] at h1
      rw [(hH.2 i e1).1] at he
      rcases hblk with hb | ⟨hb, _⟩
      · rw [hb] at he
        exact h.objs.inj i i' ob1 ob h1 ho l1 hl he
      · have := h.objs.lt _ (h.objs.wr_blk h1 l1); omega
    · rw [List.getElem?_set_ne (fun x => e1 x.symm)] at h1
      rw [List.getElem?_set_ne (fun x => e2 x.symm)] at h2
      rw [(hH.2 i e1).1, (hH.2 i' e2).1] at he
      exact h.objs.inj i i' ob1 ob2 h1 h2 l1 l2 he
  · intro b hb
    rcases (hwr b).1 hb with h1 | ⟨h1, h2⟩
    · have := h.objs.lt b h1; omega
    · rcases hblk with h3 | ⟨_, h3⟩
      · rw [h1, h3] at h2
        have := h.objs.lt _ hwo; omega
      · omega
  · intro b hb
    refine ⟨fun hx => ?_, fun hx => (hwr b).2 (.inl hx)⟩
    rcases (hwr b).1 hx with h1 | ⟨h1, h2⟩
    · exact h1
    · have := h.le; omega
  · intro i ob2 hi hl2
    by_cases e : i = o
    · subst e
      rcases hblk with hb | ⟨hb, _⟩
      · rw [hb]
        rcases h.own i ob ho hl with ⟨g1, g2⟩ | g1
        · left
          refine ⟨g1, ?_⟩
          rw [List.getElem?_set_self holt] at hi
          injection hi with hi; subst hi
          cases hq : ob'.mine
          · rfl
          · rw [hm hq] at g2; cases g2
        · exact .inr g1
      · exact .inr (Nat.le_trans h.le hb)
    · rw [List.getElem?_set_ne (fun x => e x.symm)] at hi
      rw [(hH.2 i e).1]; exact h.own i ob2 hi hl2
  · intro b hb hm
    refine hheap b (Nat.lt_of_lt_of_le hb h.le) (fun e => ?_)
    rcases h.own o ob ho hl with ⟨h1, _⟩ | h1
    · exact hm ⟨o, h1, by rw [e, (h.byref o h1).1]⟩
    · omega

end Go.Lens
