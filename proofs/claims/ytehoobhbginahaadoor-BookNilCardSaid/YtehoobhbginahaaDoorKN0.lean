/- Lens, part 0: abstract values and what they say of a Go value in a world. Lens, part 1: the call's own store, and what an abstract state says of a frame and a world. Lens, part 2: constants; arithmetic on abstract values. Lens, part 3: one operation at a time: what it yields, what it does to the store. Lens, part 4: addresses, indexes, slices. Lens, part 5: new objects, stores. Lens, part 6: code. Lens, part 7: what a function does; calls. Lens, part 8: the call of a function of which a Spec is known. Lens, part 9: the call of a function, put together. Lens, part 10: the rules for calls. Lens, part 11: builtins, conversions, literals, make, append, ranges over strings. Lens, part 12: regions that draw their order. Lens, part 13: weaker values, literals, ranges over strings, functions without a body, equality. Lens, part 14: the steps as they are used by walks. -/
import Derived.WalkKit
import Derived.Below
import Derived.Orders
import Derived.Laws.CopyRow
import Derived.Laws.AppendOwn
import Derived.Lib.Strings
import Derived.WalkLawsBesides
import Derived.Scope
import Derived.Laws.MakeOwn
import Derived.Laws.OwnMore
import Derived.Laws.RangeString
import Derived.Laws.IdiomStrings
import Derived.Laws.BytesArg
import Derived.Maps.AppendAt
import Derived.Laws.Small
import Derived.Laws.Cover3
import Derived.Laws.Pointers
import Derived.Laws.StructEq
import Derived.Laws.BitsLemmas
import Derived.Laws.Bits64
import Derived.Laws.Closers25

namespace Go.Lens
open Go Go.RowKit
/-- An abstract value: what is known of a Go value, without addresses. `sl` and `ptr` name an object of the call's own store. -/
inductive AV where
  | any
  | int (k : IntKind) (n : Int)
  | bool (b : Bool)
  | str (s : List UInt8)
  | nilp
  | ptr (o ver i : Nat)
  | radr (cs : List AV)
  | nils
  | sl (o ver off n : Nat) (full : Bool)
  | row (cs : List AV) (n : Nat)
  | clip (cs : List AV) (n : Nat)
  | agg (cs : List AV)
  | tup (cs : List AV)
  | func (f : Fn) (x y : List AV)
  | nilFunc
  | nilm
  | mp (o ver : Nat)
  deriving Inhabited
/-- Where the objects lie. -/
structure View where
  n : Nat
  blk : Nat → Nat
  off : Nat → Nat
  cap : Nat → Nat
  ver : Nat → Nat
  wr : Nat → Prop
def View.bare (H : View) : View := { H with n := 0 }
@[simp] theorem View.bare_wr (H : View) : H.bare.wr = H.wr := rfl
@[simp] theorem View.bare_n (H : View) : H.bare.n = 0 := rfl
/-- the cells `vs` stand at address `a` -/
def At (w : World) (a : Addr) (vs : List Value) : Prop := ∀ j u, vs[j]? = some u → w.cell? (a.add j) = some u
mutual
def RelV (w : World) : AV → View → Value → Prop
  | .any, _, _ => True
  | .int k n, _, v => v = .int k n
  | .bool b, _, v => v = .bool b
  | .str s, _, v => v = .string ⟨s.toArray⟩
  | .nilp, _, v => v = .pointer none
  | .ptr o ver i, H, v => o < H.n ∧ ver ≤ H.ver o ∧ (H.ver o = ver → v = .pointer (some ⟨H.blk o, H.off o + i, none⟩))
  | .radr cs, H, v => ∃ a vs, v = .pointer (some a) ∧ RelL w cs H.bare vs ∧ (vs ≠ [] → At w a vs ∧ ¬ H.wr a.block)
  | .nils, _, v => v = .slice none 0 0
  | .sl o ver off n full, H, v => o < H.n ∧ ver ≤ H.ver o ∧ (H.ver o = ver → ∃ a c, v = .slice (some a) n c ∧ n ≤ c ∧
      (0 < n → a = ⟨H.blk o, H.off o + off, none⟩) ∧ (full = true → a = ⟨H.blk o, 0, none⟩ ∧ off = 0 ∧ c = H.cap o))
  | .row cs n, H, v => ∃ A c vs, v = .slice A n c ∧ n ≤ c ∧ RelL w cs H.bare vs ∧ (vs ≠ [] → ∃ a, A = some a ∧ At w a vs ∧ ¬ H.wr a.block)
  | .clip cs n, H, v => ∃ A vs, v = .slice A n n ∧ RelL w cs H.bare vs ∧ (vs ≠ [] → ∃ a, A = some a ∧ At w a vs ∧ ¬ H.wr a.block)
  | .agg cs, H, v => ∃ vs, v = .agg (List.toArray vs) ∧ RelL w cs H vs
  | .tup cs, H, v => ∃ vs, v = .tuple (List.toArray vs) ∧ RelL w cs H vs
  | .func f x y, H, v => ∃ xs ys, v = .func f (List.toArray xs) (List.toArray ys) ∧ RelL w x H xs ∧ RelL w y H ys
  | .nilFunc, _, v => v = .nilFunc
  | .nilm, _, v => v = .map none
  | .mp o ver, H, v => o < H.n ∧ ver ≤ H.ver o ∧ (H.ver o = ver → v = .map (some (H.blk o)))
def RelL (w : World) : List AV → View → List Value → Prop
  | [], _, vs => vs = []
  | c :: cs, H, vs => ∃ v vs', vs = v :: vs' ∧ RelV w c H v ∧ RelL w cs H vs'
end
theorem RelL_nil {w : World} {H : View} : RelL w [] H [] := rfl
theorem RelL_cons {w : World} {H : View} {c : AV} {cs : List AV} {v : Value} {vs : List Value} (h : RelV w c H v) (h' : RelL w cs H vs) : RelL w (c :: cs) H (v :: vs) := ⟨v, vs, rfl, h, h'⟩
theorem RelL.length {w : World} {H : View} : ∀ {cs : List AV} {vs : List Value}, RelL w cs H vs → cs.length = vs.length
  | [], _, h => by cases h; rfl
  | _ :: _, _, ⟨_, _, e, _, h⟩ => by subst e; simp [RelL.length h]
theorem RelL.get {w : World} {H : View} : ∀ {cs : List AV} {vs : List Value}, RelL w cs H vs → ∀ (j : Nat) (c : AV), cs[j]? = some c → ∃ v, vs[j]? = some v ∧ RelV w c H v
  | _ :: _, _, ⟨v, _, e, hv, _⟩, 0, c, hc => by subst e; simp at hc; subst hc; exact ⟨v, rfl, hv⟩
  | _ :: _, _, ⟨_, _, e, _, h⟩, j + 1, c, hc => by subst e; simpa using RelL.get h j c (by simpa using hc)
  | [], _, _, j, c, hc => by simp at hc
theorem RelL.append {w : World} {H : View} : ∀ {cs ds : List AV} {vs us : List Value}, RelL w cs H vs → RelL w ds H us → RelL w (cs ++ ds) H (vs ++ us)
  | [], _, _, _, h, h' => by cases h; exact h'
  | _ :: _, _, _, _, ⟨v, vs, e, hv, h⟩, h' => by subst e; exact ⟨v, _, rfl, hv, RelL.append h h'⟩
theorem RelL.take {w : World} {H : View} (k : Nat) : ∀ {cs : List AV} {vs : List Value}, RelL w cs H vs → RelL w (cs.take k) H (vs.take k) := by
  induction k with
  | zero => intro cs vs _; simp [RelL]
  | succ k ih =>
    intro cs vs h
    cases cs with
    | nil => cases h; simp [RelL]
    | cons c cs => obtain ⟨v, vs, rfl, hv, h⟩ := h; exact ⟨v, _, rfl, hv, ih h⟩
theorem RelL.drop {w : World} {H : View} (k : Nat) : ∀ {cs : List AV} {vs : List Value}, RelL w cs H vs → RelL w (cs.drop k) H (vs.drop k) := by
  induction k with
  | zero => intro cs vs h; exact h
  | succ k ih =>
    intro cs vs h
    cases cs with
    | nil => cases h; simp [RelL]
    | cons c cs => obtain ⟨v, vs, rfl, hv, h⟩ := h; simpa using ih h
theorem RelL.set {w : World} {H : View} {c : AV} {v : Value} (hv : RelV w c H v) (k : Nat) : ∀ {cs : List AV} {vs : List Value}, RelL w cs H vs → RelL w (cs.set k c) H (vs.set k v) := by
  induction k with
  | zero =>
    intro cs vs h
    cases cs with
    | nil => cases h; simp [RelL]
    | cons c cs => obtain ⟨u, us, rfl, _, h⟩ := h; exact ⟨v, us, rfl, hv, h⟩
  | succ k ih =>
    intro cs vs h
    cases cs with
    | nil => cases h; simp [RelL]
    | cons c cs => obtain ⟨u, us, rfl, hu, h⟩ := h; exact ⟨u, _, rfl, hu, ih h⟩
theorem RelL.replicate {w : World} {H : View} {c : AV} {v : Value} (hv : RelV w c H v) : ∀ n, RelL w (List.replicate n c) H (List.replicate n v)
  | 0 => rfl
  | n + 1 => ⟨v, _, rfl, hv, RelL.replicate hv n⟩
/-- A step of the world and of the view that keeps what is known. -/
structure Keeps (w : World) (H : View) (w' : World) (H' : View) : Prop where
  cell : ∀ a v, w.cell? a = some v → ¬ H.wr a.block → w'.cell? a = some v
  wr : ∀ b, b < w.heap.size → H'.wr b → H.wr b
  n : H.n ≤ H'.n
  ver : ∀ o, o < H.n → H.ver o ≤ H'.ver o
  at_ : ∀ o, o < H.n → H'.ver o = H.ver o → H'.blk o = H.blk o ∧ H'.off o = H.off o ∧ H'.cap o = H.cap o
theorem At.keeps {w w' : World} {H H' : View} (hk : Keeps w H w' H') {a : Addr} {vs : List Value} (h : At w a vs) (hm : ¬ H.wr a.block) : At w' a vs := by
  intro j u hu
  refine hk.cell _ _ (h j u hu) ?_
  unfold Addr.add
  split <;> exact hm
theorem At.block_lt {w : World} {a : Addr} {vs : List Value} (h : At w a vs) (hne : vs ≠ []) : a.block < w.heap.size := by
  cases vs with
  | nil => exact absurd rfl hne
  | cons v vs => have := h 0 v rfl; simp [Addr.add] at this; exact World.block_lt_of_cell? w a this
theorem Keeps.bare {w w' : World} {H H' : View} (hk : Keeps w H w' H') : Keeps w H.bare w' H'.bare :=
  ⟨hk.cell, hk.wr, Nat.le_refl _, fun _ h => absurd h (Nat.not_lt_zero _), fun _ h => absurd h (Nat.not_lt_zero _)⟩
mutual
theorem RelV.keeps {w w' : World} : ∀ (c : AV) {H H' : View} {v : Value}, Keeps w H w' H' → RelV w c H v → RelV w' c H' v
  | .any, _, _, _, _, _ => trivial
  | .int _ _, _, _, _, _, h => h
  | .bool _, _, _, _, _, h => h
  | .str _, _, _, _, _, h => h
  | .nilp, _, _, _, _, h => h
  | .nils, _, _, _, _, h => h
  | .nilFunc, _, _, _, _, h => h
  | .nilm, _, _, _, _, h => h
  | .ptr o ver i, H, H', v, hk, h => by
    obtain ⟨h1, h2, h3⟩ := h
    refine ⟨Nat.lt_of_lt_of_le h1 hk.n, Nat.le_trans h2 (hk.ver o h1), fun e => ?_⟩
    have e2 : H.ver o = ver := Nat.le_antisymm (e ▸ hk.ver o h1) h2
    obtain ⟨b1, b2, _⟩ := hk.at_ o h1 (e.trans e2.symm)
    rw [b1, b2]; exact h3 e2
  | .mp o ver, H, H', v, hk, h => by
    obtain ⟨h1, h2, h3⟩ := h
    refine ⟨Nat.lt_of_lt_of_le h1 hk.n, Nat.le_trans h2 (hk.ver o h1), fun e => ?_⟩
    have e2 : H.ver o = ver := Nat.le_antisymm (e ▸ hk.ver o h1) h2
    obtain ⟨b1, _, _⟩ := hk.at_ o h1 (e.trans e2.symm)
    rw [b1]; exact h3 e2
  | .sl o ver off n full, H, H', v, hk, h => by
    obtain ⟨h1, h2, h3⟩ := h
    refine ⟨Nat.lt_of_lt_of_le h1 hk.n, Nat.le_trans h2 (hk.ver o h1), fun e => ?_⟩
    have e2 : H.ver o = ver := Nat.le_antisymm (e ▸ hk.ver o h1) h2
    obtain ⟨b1, b2, b3⟩ := hk.at_ o h1 (e.trans e2.symm)
    rw [b1, b2, b3]; exact h3 e2
  | .radr cs, H, H', v, hk, h => by
    obtain ⟨a, vs, e, h1, h2⟩ := h
    refine ⟨a, vs, e, RelL.keeps cs hk.bare h1, fun hne => ?_⟩
    obtain ⟨h3, h4⟩ := h2 hne
    exact ⟨h3.keeps hk h4, fun hw => h4 (hk.wr _ (h3.block_lt hne) hw)⟩
  | .row cs n, H, H', v, hk, h => by
    obtain ⟨A, c, vs, e, hn, h1, h2⟩ := h
    refine ⟨A, c, vs, e, hn, RelL.keeps cs hk.bare h1, fun hne => ?_⟩
    obtain ⟨a, e1, h3, h4⟩ := h2 hne
    exact ⟨a, e1, h3.keeps hk h4, fun hw => h4 (hk.wr _ (h3.block_lt hne) hw)⟩
  | .clip cs n, H, H', v, hk, h => by
    obtain ⟨A, vs, e, h1, h2⟩ := h
    refine ⟨A, vs, e, RelL.keeps cs hk.bare h1, fun hne => ?_⟩
    obtain ⟨a, e1, h3, h4⟩ := h2 hne
    exact ⟨a, e1, h3.keeps hk h4, fun hw => h4 (hk.wr _ (h3.block_lt hne) hw)⟩
  | .agg cs, _, _, _, hk, ⟨vs, e, h⟩ => ⟨vs, e, RelL.keeps cs hk h⟩
  | .tup cs, _, _, _, hk, ⟨vs, e, h⟩ => ⟨vs, e, RelL.keeps cs hk h⟩
  | .func _ x y, _, _, _, hk, ⟨xs, ys, e, h, h'⟩ => ⟨xs, ys, e, RelL.keeps x hk h, RelL.keeps y hk h'⟩
theorem RelL.keeps {w w' : World} : ∀ (cs : List AV) {H H' : View} {vs : List Value}, Keeps w H w' H' → RelL w cs H vs → RelL w' cs H' vs
  | [], _, _, _, _, h => h
  | c :: cs, _, _, _, hk, ⟨v, vs, e, h, h'⟩ => ⟨v, vs, e, RelV.keeps c hk h, RelL.keeps cs hk h'⟩
end
inductive TyK where
  | bool | int (k : IntKind) | string
  | pointer (e : TypeId) | slice (e : TypeId) | array (n : Nat) (e : TypeId)
  | struct (fs : List (Nat × TypeId))
  | func | map (k e : TypeId) | other
  deriving Inhabited
structure Ty where
  k : TyK
  size : Nat
  bytes : Nat
  zero : Option (List Value)
  deriving Inhabited
def kOf : TypeDesc → TyK
  | .bool => .bool
  | .int k => .int k
  | .string => .string
  | .pointer e => .pointer e
  | .slice e => .slice e
  | .array n e => .array n e
  | .struct fs => .struct (fs.toList.map fun f => (f.offset, f.type))
  | .func .. => .func
  | .map k e => .map k e
  | _ => .other
/-- what the program's tables say of a type -/
def tyOf (P : Program) (t : TypeId) : Option Ty :=
  match P.underlying t, P.info? t with
  | some d, some i => some { k := kOf d, size := i.size, bytes := i.bytes, zero := i.zero.map fun z => z.cells.toList }
  | _, _ => none
abbrev Tab := List (Option Ty)
def Tab.at (T : Tab) (t : TypeId) : Option Ty := match T[t]? with | some r => r | none => none
def TabOK (P : Program) (T : Tab) : Prop := ∀ t y, T.at t = some y → tyOf P t = some y
/-- the types that the logic speaks of -/
def tyOfK (P : Program) (t : TypeId) : Option Ty := match tyOf P t with
  | some y => match y.k with | .other => none | _ => some y
  | none => none
theorem TabOK.of_map {P : Program} {T : Tab} {n : Nat} (h : (List.range n).map (tyOfK P) = T) : TabOK P T := by
  subst h
  intro t y hy
  unfold Tab.at at hy
  by_cases hlt : t < n
  · simp [hlt] at hy
    unfold tyOfK at hy
    split at hy
    · rename_i y' hy'
      split at hy
      · cases hy
      · injection hy with hy; subst hy; exact hy'
    · cases hy
  · simp [hlt] at hy
theorem tyOf_spec {P : Program} {t : TypeId} {y : Ty} (h : tyOf P t = some y) : ∃ d i, P.underlying t = some d ∧ P.info? t = some i ∧ y.k = kOf d ∧ y.size = i.size ∧ y.bytes = i.bytes ∧ y.zero = i.zero.map fun z => z.cells.toList := by
  unfold tyOf at h
  split at h
  · rename_i d i hd hi
    injection h with h; subst h
    exact ⟨d, i, hd, hi, rfl, rfl, rfl, rfl⟩
  · cases h
end Go.Lens

set_option linter.unusedVariables false
set_option linter.unusedSimpArgs false
namespace Go.Lens
open Go Go.RowKit
theorem get_snoc {α : Type} {l : List α} {x y : α} {i : Nat} (h : (l ++ [x])[i]? = some y) : (i < l.length ∧ l[i]? = some y) ∨ (i = l.length ∧ y = x) := by
  rcases Nat.lt_trichotomy i l.length with h1 | h1 | h1
  · rw [List.getElem?_append_left h1] at h; exact .inl ⟨h1, h⟩
  · subst h1; simp at h; exact .inr ⟨rfl, h.symm⟩
  · rw [List.getElem?_eq_none (by simp; omega)] at h; cases h
/-- An object of the call's own store. `flat`: its cells name no object; `own`: the whole block is ours, its elements are of that type. -/
inductive AObj where
  | dead
  | cells (cs : List AV) (ver esz : Nat) (flat : Bool) (own : Option TypeId)
  | iter (s : List UInt8) (pos : Nat)
  | kv (k : IntKind) (es : List (Int × AV))
  | slot
  deriving Inhabited
def AObj.live : AObj → Bool
  | .dead => false
  | .slot => false
  | _ => true
/-- a whole block of ours -/
def AObj.mine : AObj → Bool
  | .cells _ _ _ _ (some _) => true
  | _ => false
def View.flatIf (H : View) (b : Bool) : View := if b then H.bare else H
/-- what an object says of the world -/
def RelO (w : World) (H : View) (o : Nat) : AObj → Prop
  | .dead => True
  | .cells cs ver esz flat own => H.ver o = ver ∧ H.wr (H.blk o) ∧ ∃ vs c e, w.heap[H.blk o]? = some (.cells c e (0, 0)) ∧ RelL w cs (H.flatIf flat) vs ∧
      (∀ j u, vs[j]? = some u → c[H.off o + j]? = some u) ∧
      (∀ t, own = some t → e = t ∧ H.off o = 0 ∧ c.size = H.cap o * esz ∧ H.cap o ≤ maxLen ∧ ∃ N, vs.length = N * esz ∧ N ≤ H.cap o)
  | .slot => H.ver o = 0
  | .iter s pos => H.ver o = 0 ∧ H.wr (H.blk o) ∧ H.off o = 0 ∧ w.heap[H.blk o]? = some (.stringIter ⟨s.toArray⟩ pos)
  | .kv k es => H.ver o = 0 ∧ H.wr (H.blk o) ∧ ∃ es' clock, w.heap[H.blk o]? = some (.map es' clock) ∧ es'.toList.map (·.key) = es.map (fun p => Value.int k p.1) ∧ RelL w (es.map (·.2)) H.bare (es'.toList.map (·.val))
structure St where
  env : List (Nat × AV)
  objs : List AObj
def look : List (Nat × AV) → Nat → Option AV
  | [], _ => none
  | (k, v) :: r, t => if k == t then some v else look r t
/-- What does not change within a call. -/
structure Ctx where
  P : Program
  T : Tab
  ok : TabOK P T
  nt : Nat
  w0 : World
  k : Nat
  H0 : View
  ln : Nat → Nat
  hk : ∀ o, o < k → H0.blk o < w0.heap.size
  hj : ∀ x o, x < k → o < k → H0.blk x = H0.blk o → x = o
  sv : List (Array Value × List (Nat × AV))
/-- the blocks that came in to be written -/
def Ctx.M0 (C : Ctx) (b : Nat) : Prop := ∃ o, o < C.k ∧ b = C.H0.blk o
structure Objs (w : World) (H : View) (objs : List AObj) : Prop where
  n : H.n = objs.length
  rel : ∀ o ob, objs[o]? = some ob → RelO w H o ob
  inj : ∀ o o' ob ob', objs[o]? = some ob → objs[o']? = some ob' → ob.live = true → ob'.live = true → H.blk o = H.blk o' → o = o'
  lt : ∀ b, H.wr b → b < w.heap.size
/-- of a block nothing has turned but a stretch of its cells -/
def Outside (w w' : World) (b off n : Nat) : Prop := ∀ c e, w'.heap[b]? = some (.cells c e (0, 0)) → ∃ c0, w.heap[b]? = some (.cells c0 e (0, 0)) ∧ c.size = c0.size ∧ ∀ j, (j < off ∨ off + n ≤ j) → c[j]? = c0[j]?
theorem Outside.of_eq {w w' : World} {b : Nat} (h : w'.heap[b]? = w.heap[b]?) (off n : Nat) : Outside w w' b off n := fun c e hc => ⟨c, h ▸ hc, rfl, fun _ _ => rfl⟩
theorem Outside.trans {w w1 w2 : World} {b off n : Nat} (h : Outside w w1 b off n) (h' : Outside w1 w2 b off n) : Outside w w2 b off n := by
  intro c e hc
  obtain ⟨c1, h1, h2, h3⟩ := h' c e hc
  obtain ⟨c0, g1, g2, g3⟩ := h c1 e h1
  exact ⟨c0, g1, h2.trans g2, fun j hj => (h3 j hj).trans (g3 j hj)⟩
structure Inv (C : Ctx) (H : View) (st : St) (a : Act) (w : World) : Prop where
  size : a.tmps.size = C.nt
  defers : a.defers = []
  env : ∀ t av, look st.env t = some av → RelV w av H (a.tmps.getD t undef)
  objs : Objs w H st.objs
  wr0 : ∀ b, b < C.w0.heap.size → (H.wr b ↔ C.H0.wr b)
  klen : C.k ≤ st.objs.length
  byref : ∀ o, o < C.k → H.blk o = C.H0.blk o ∧ H.off o = C.H0.off o ∧ H.cap o = C.H0.cap o
  lens : ∀ o cs ver esz flat own, o < C.k → st.objs[o]? = some (.cells cs ver esz flat own) → cs.length = C.ln o
  out : ∀ o, o < C.k → Outside C.w0 w (C.H0.blk o) (C.H0.off o) (C.ln o)
  own : ∀ o ob, st.objs[o]? = some ob → ob.live = true → (o < C.k ∧ ob.mine = false) ∨ C.w0.heap.size ≤ H.blk o
  frame : ∀ b, b < C.w0.heap.size → ¬ C.M0 b → w.heap[b]? = C.w0.heap[b]?
  le : C.w0.heap.size ≤ w.heap.size
  os : w.os = C.w0.os
  tape : w.tape = C.w0.tape
  output : w.output = C.w0.output
  saved : ∀ p, p ∈ C.sv → ∀ t av, look p.2 t = some av → RelV w av H (p.1.getD t undef)
def Rel (C : Ctx) (st : St) (a : Act) (w : World) : Prop := ∃ H, Inv C H st a w
def St.put (st : St) (d : Option Nat) (v : AV) : St := match d with | some d => { st with env := (d, v) :: st.env } | none => st
theorem Inv.put {C : Ctx} {H : View} {st : St} {a : Act} {w : World} (h : Inv C H st a w) (d : Option Nat) (hd : ∀ t, d = some t → t < C.nt) {av : AV} {v : Value} (hv : RelV w av H v) :
    Inv C H (st.put d av) (a.put d v) w := by
  cases d with
  | none => exact h
  | some d =>
    have hlt := hd d rfl
    refine ⟨by simp [Act.put, h.size], h.defers, ?_, h.objs, h.wr0, h.klen, h.byref, h.lens, h.out, h.own, h.frame, h.le, h.os, h.tape, h.output, h.saved⟩
    intro t av' ht
    simp only [St.put, look] at ht
    by_cases e : d = t
    · subst e
      simp only [beq_self_eq_true, if_true, Option.some.injEq] at ht
      subst ht
      have : (a.put (some d) v).tmps.getD d undef = v := by
        simp [Act.put, Array.getD_eq_getD_getElem?, h.size, hlt]
      rw [this]; exact hv
    · have hb : (d == t) = false := by simpa using e
      simp only [hb, Bool.false_eq_true, if_false] at ht
      have : (a.put (some d) v).tmps.getD t undef = a.tmps.getD t undef := by
        simp [Act.put, Array.getD_eq_getD_getElem?, Array.getElem?_setIfInBounds_ne e]
      rw [this]; exact h.env t av' ht
/-- less is known -/
structure Less (st st' : St) : Prop where
  objs : st'.objs = st.objs
  env : ∀ t av, look st'.env t = some av → look st.env t = some av ∨ av = .any
theorem Inv.less {C : Ctx} {H : View} {st st' : St} {a : Act} {w : World} (h : Inv C H st a w) (hl : Less st st') : Inv C H st' a w := by
  obtain ⟨h1, h2⟩ := hl
  refine ⟨h.size, h.defers, ?_, h1 ▸ h.objs, h.wr0, h1 ▸ h.klen, h.byref, h1 ▸ h.lens, h.out, h1 ▸ h.own, h.frame, h.le, h.os, h.tape, h.output, h.saved⟩
  intro t av ht
  rcases h2 t av ht with h3 | rfl
  · exact h.env t av h3
  · trivial
/-- the world moves, the view moves: what is known of the frame and of the objects that are named still holds -/
theorem Inv.move {C : Ctx} {H H' : View} {st : St} {a : Act} {w w' : World} {objs' : List AObj} (h : Inv C H st a w) (hk : Keeps w H w' H')
    (ho : Objs w' H' objs') (hw0 : ∀ b, b < C.w0.heap.size → (H'.wr b ↔ H.wr b)) (hkl : C.k ≤ objs'.length) (hby : ∀ o, o < C.k → H'.blk o = H.blk o ∧ H'.off o = H.off o ∧ H'.cap o = H.cap o) (hlens : ∀ o cs ver esz flat own, o < C.k → objs'[o]? = some (.cells cs ver esz flat own) → cs.length = C.ln o) (hou : ∀ o, o < C.k → Outside w w' (C.H0.blk o) (C.H0.off o) (C.ln o)) (hown : ∀ o ob, objs'[o]? = some ob → ob.live = true → (o < C.k ∧ ob.mine = false) ∨ C.w0.heap.size ≤ H'.blk o)
    (hfr : ∀ b, b < C.w0.heap.size → ¬ C.M0 b → w'.heap[b]? = w.heap[b]?) (hle : w.heap.size ≤ w'.heap.size) (hos : w'.os = w.os) (ht : w'.tape = w.tape) (hout : w'.output = w.output) :
    Inv C H' { st with objs := objs' } a w' :=
  ⟨h.size, h.defers, fun t av hl => (h.env t av hl).keeps av hk, ho, fun b hb => (hw0 b hb).trans (h.wr0 b hb), hkl, fun o ho => ⟨(hby o ho).1.trans (h.byref o ho).1, (hby o ho).2.1.trans (h.byref o ho).2.1, (hby o ho).2.2.trans (h.byref o ho).2.2⟩, hlens, fun o ho => (h.out o ho).trans (hou o ho), hown,
   fun b hb hm => (hfr b hb hm).trans (h.frame b hb hm), Nat.le_trans h.le hle, hos.trans h.os, ht.trans h.tape, hout.trans h.output, fun p hp t av ht => (h.saved p hp t av ht).keeps av hk⟩
/-- a draw -/
theorem Keeps.drew (w : World) (H : View) : Keeps w H w.drew H := ⟨fun _ _ h _ => h, fun _ _ h => h, Nat.le_refl _, fun _ _ => Nat.le_refl _, fun _ _ _ => ⟨rfl, rfl, rfl⟩⟩
theorem Keeps.flatIf {w w' : World} {H H' : View} (hk : Keeps w H w' H') (b : Bool) : Keeps w (H.flatIf b) w' (H'.flatIf b) := by
  cases b
  · exact hk
  · exact hk.bare
theorem RelO.keeps {w w' : World} {H H' : View} (hk : Keeps w H w' H') {o : Nat} {ob : AObj} (h : RelO w H o ob) (hb : H'.blk o = H.blk o) (hf : H'.off o = H.off o) (hc : H'.cap o = H.cap o)
    (hv : H'.ver o = H.ver o) (hw : H.wr (H.blk o) → H'.wr (H.blk o)) (hh : w'.heap[H.blk o]? = w.heap[H.blk o]?) : RelO w' H' o ob := by
  cases ob with
  | dead => trivial
  | slot => exact hv.trans h
  | iter s pos =>
    obtain ⟨h0, h1, h2, h3⟩ := h
    exact ⟨hv.trans h0, hb ▸ hw h1, hf ▸ h2, by rw [hb, hh]; exact h3⟩
  | kv k es =>
    obtain ⟨h0, h1, es', cl, h3, h4, h5⟩ := h
    exact ⟨hv.trans h0, hb ▸ hw h1, es', cl, by rw [hb, hh]; exact h3, h4, RelL.keeps _ hk.bare h5⟩
  | cells cs ver esz flat own =>
    obtain ⟨h1, h2, vs, c, e, h3, h4, h5, h6⟩ := h
    refine ⟨hv.trans h1, hb ▸ hw h2, vs, c, e, by rw [hb, hh]; exact h3, h4.keeps cs (hk.flatIf flat), by rw [hf]; exact h5, ?_⟩
    rw [hf, hc]; exact h6
/-- one more object -/
def View.add (H : View) (b cap : Nat) : View :=
  { n := H.n + 1, blk := fun o => if o = H.n then b else H.blk o, off := fun o => if o = H.n then 0 else H.off o, cap := fun o => if o = H.n then cap else H.cap o,
    ver := fun o => if o = H.n then 0 else H.ver o, wr := fun x => H.wr x ∨ x = b }
theorem Keeps.add (w : World) (H : View) (o : Obj) (cap : Nat) : Keeps w H (w.alloc o) (H.add w.heap.size cap) := by
  refine ⟨fun a v h _ => by rw [World.cell?_alloc_lt]; exact h; exact World.block_lt_of_cell? w a h, fun b hb hwr => ?_, Nat.le_succ _, fun o' ho' => ?_, fun o' ho' _ => ?_⟩
  · rcases hwr with h | h
    · exact h
    · omega
  · have : o' ≠ H.n := by omega
    simp [View.add, this]
  · have : o' ≠ H.n := by omega
    simp [View.add, this]
theorem Objs.wr_blk {w : World} {H : View} {objs : List AObj} (h : Objs w H objs) {i : Nat} {ob : AObj} (hi : objs[i]? = some ob) (hl : ob.live = true) : H.wr (H.blk i) := by
  have := h.rel i ob hi
  cases ob with
  | dead => cases hl
  | slot => cases hl
  | cells => exact this.2.1
  | iter => exact this.2.1
  | kv => exact this.2.1
theorem Inv.new {C : Ctx} {H : View} {st : St} {a : Act} {w : World} (h : Inv C H st a w) {ob : AObj} {o : Obj} (cap : Nat)
    (hr : RelO (w.alloc o) (H.add w.heap.size cap) H.n ob) :
    Inv C (H.add w.heap.size cap) { st with objs := st.objs ++ [ob] } a (w.alloc o) := by
  have hk := Keeps.add w H o cap
  have hn := h.objs.n
  have hkl := h.klen
  have hby : ∀ x, x < C.k → (H.add w.heap.size cap).blk x = H.blk x ∧ (H.add w.heap.size cap).off x = H.off x ∧ (H.add w.heap.size cap).cap x = H.cap x := by
    intro x hx
    have : x ≠ H.n := by omega
    simp [View.add, this]
  refine h.move hk ⟨by simp [View.add, hn], ?_, ?_, ?_⟩ ?_ (by simp; omega) hby (fun o cs ver esz flat own ho hob => ?_) (fun o ho => ?_) ?_ ?_ (by simp) rfl rfl rfl
  rotate_left 4
  · rw [List.getElem?_append_left (by omega)] at hob
    exact h.lens o cs ver esz flat own ho hob
  · exact Outside.of_eq (Below.heap_alloc w _ _ (Nat.lt_of_lt_of_le (C.hk o ho) h.le)) _ _
  rotate_right 4
  · intro i ob' hi
    rcases get_snoc hi with ⟨hlt, hi⟩ | ⟨e, rfl⟩
    · have hne : i ≠ H.n := by omega
      by_cases hl : ob'.live = true
      · refine (h.objs.rel i ob' hi).keeps hk (by simp [View.add, hne]) (by simp [View.add, hne]) (by simp [View.add, hne]) (by simp [View.add, hne]) (fun x => .inl x) ?_
        exact Below.heap_alloc w o _ (h.objs.lt _ (h.objs.wr_blk hi hl))
      · cases ob' <;> first | trivial | (simp [AObj.live] at hl; done) | (have := h.objs.rel i _ hi; simpa [RelO, View.add, hne] using this)
    · rw [show i = H.n by omega]; exact hr
  · intro i i' ob1 ob2 h1 h2 l1 l2 he
    rcases get_snoc h1 with ⟨a1, g1⟩ | ⟨a1, g1⟩ <;> rcases get_snoc h2 with ⟨a2, g2⟩ | ⟨a2, g2⟩
    · have n1 : i ≠ H.n := by omega
      have n2 : i' ≠ H.n := by omega
      simp only [View.add, if_neg n1, if_neg n2] at he
      exact h.objs.inj i i' ob1 ob2 g1 g2 l1 l2 he
    · have n1 : i ≠ H.n := by omega
      have n2 : i' = H.n := by omega
      simp only [View.add, if_neg n1, if_pos n2] at he
      have := h.objs.lt _ (h.objs.wr_blk g1 l1)
      omega
    · have n1 : i = H.n := by omega
      have n2 : i' ≠ H.n := by omega
      simp only [View.add, if_pos n1, if_neg n2] at he
      have := h.objs.lt _ (h.objs.wr_blk g2 l2)
      omega
    · omega
  · intro b hb
    rcases hb with hb | hb
    · have := h.objs.lt b hb; simp; omega
    · simp; omega
  · intro b hb
    refine ⟨fun hx => hx.resolve_right (by have := h.le; omega), .inl⟩
  · intro i ob' hi hl
    rcases get_snoc hi with ⟨hlt, hi⟩ | ⟨e, rfl⟩
    · simp only [View.add, if_neg (show i ≠ H.n by omega)]
      exact h.own i ob' hi hl
    · simp only [View.add, if_pos (show i = H.n by omega)]
      exact .inr h.le
  · intro b hb _
    exact Below.heap_alloc w o b (Nat.lt_of_lt_of_le hb h.le)
end Go.Lens

namespace Go.Lens
open Go Go.RowKit
/-- a constant of one cell -/
def ofVal : Value → Option AV
  | .bool b => some (.bool b)
  | .int k n => some (.int k n)
  | .string ⟨⟨l⟩⟩ => some (.str l)
  | .pointer none => some .nilp
  | .slice none 0 0 => some .nils
  | .nilFunc => some .nilFunc
  | .map none => some .nilm
  | _ => none
theorem ofVal_rel {w : World} {H : View} {v : Value} {c : AV} (h : ofVal v = some c) : RelV w c H v := by
  unfold ofVal at h
  split at h <;> first | (injection h with h; subst h; simp [RelV]) | cases h
def ofVals : List Value → Option (List AV)
  | [] => some []
  | v :: vs => match ofVal v, ofVals vs with | some c, some cs => some (c :: cs) | _, _ => none
theorem ofVals_rel {w : World} {H : View} : ∀ {vs : List Value} {cs : List AV}, ofVals vs = some cs → RelL w cs H vs
  | [], _, h => by simp [ofVals] at h; subst h; rfl
  | v :: vs, cs, h => by
    unfold ofVals at h
    split at h
    · rename_i c cs' h1 h2
      injection h with h; subst h
      exact RelL_cons (ofVal_rel h1) (ofVals_rel h2)
    · cases h
def ev (st : St) : Operand → Option AV
  | .tmp t => look st.env t
  | .const (.agg ⟨l⟩) => (ofVals l).map .agg
  | .const v => ofVal v
  | .func f => some (.func (.func f) [] [])
  | .global _ => none
theorem ev_rel {C : Ctx} {H : View} {st : St} {a : Act} {w : World} (h : Inv C H st a w) {x : Operand} {c : AV} (hx : ev st x = some c) : RelV w c H (a.eval x) := by
  unfold ev at hx
  split at hx
  · exact h.env _ _ hx
  · rename_i l
    cases hl : ofVals l with
    | none => simp [hl] at hx
    | some cs => simp [hl] at hx; subst hx; exact ⟨l, rfl, ofVals_rel hl⟩
  · exact ofVal_rel hx
  · injection hx with hx; subst hx; exact ⟨[], [], rfl, rfl, rfl⟩
  · cases hx
/-! ### arithmetic -/
section
variable {P : Program} {w : World} {H : View}
end
end Go.Lens

set_option linter.unusedVariables false
set_option linter.unusedSimpArgs false
namespace Go.Lens
open Go Go.RowKit
/-- The operation hands back nothing; the store is then `objs'`. -/
def SStep (C : Ctx) (o : Oper) (st : St) (objs' : List AObj) : Prop :=
  ∀ H a w, Inv C H st a w → ∃ w' H', (execOp a.eval o).run C.P w = .ok .skip w' ∧ Inv C H' { st with objs := objs' } a w'
/-! ### types -/
theorem Ctx.ty {C : Ctx} {t : TypeId} {y : Ty} (h : C.T.at t = some y) : ∃ d i, C.P.underlying t = some d ∧ C.P.info? t = some i ∧ y.k = kOf d ∧ y.size = i.size ∧ y.bytes = i.bytes ∧ y.zero = i.zero.map fun z => z.cells.toList :=
  tyOf_spec (C.ok t y h)
def TyK.agg : TyK → Bool
  | .struct _ | .array _ _ => true
  | _ => false
theorem agg_kOf (d : TypeDesc) : (kOf d).agg = (match d with | .struct _ | .array _ _ => true | _ => false) := by cases d <;> rfl
theorem run_isAgg {C : Ctx} {t : TypeId} {y : Ty} (h : C.T.at t = some y) (w : World) : (isAgg t).run C.P w = .ok y.k.agg w := by
  obtain ⟨d, i, hd, _, hk, _⟩ := C.ty h
  unfold isAgg
  rw [Sem.run_bind, run_underlying hd w, hk, agg_kOf]
  cases d <;> rfl
theorem run_sizeOf {C : Ctx} {t : TypeId} {y : Ty} (h : C.T.at t = some y) (w : World) : (sizeOf t).run C.P w = .ok y.size w := by
  obtain ⟨d, i, _, hi, _, hs, _⟩ := C.ty h
  simp [sizeOf, typeInfo, hi, hs]
/-! ### reading -/
/-- the value of type `y` whose first cell stands at place `i` -/
def loadc (y : Ty) (cs : List AV) (i : Nat) : Option AV :=
  if y.k.agg then (if i + y.size ≤ cs.length then some (.agg ((cs.drop i).take y.size)) else none) else cs[i]?
theorem loadVar_at {C : Ctx} {t : TypeId} {y : Ty} (hy : C.T.at t = some y) {w : World} {H : View} {ad : Addr} {cs : List AV} {vs : List Value} (hr : RelL w cs H vs) {i : Nat}
    (hat : ∀ j u, vs[i + j]? = some u → w.cell? (ad.add j) = some u) {av : AV} (hl : loadc y cs i = some av) : ∃ v, (loadVar t ad).run C.P w = .ok v w ∧ RelV w av H v := by
  unfold loadc at hl
  cases hag : y.k.agg with
  | true =>
    simp only [hag, if_true] at hl
    split at hl
    · rename_i hle
      injection hl with hl; subst hl
      have hlen : ((vs.drop i).take y.size).length = y.size := by
        have := hr.length; simp; omega
      have hc := run_loadCells_list (P := C.P) w ad ((vs.drop i).take y.size) (fun j u hu => by
        rw [List.getElem?_take] at hu
        split at hu
        · rw [List.getElem?_drop] at hu; exact hat j u hu
        · cases hu)
      rw [hlen] at hc
      refine ⟨.agg ((vs.drop i).take y.size).toArray, ?_, ⟨_, rfl, (hr.drop i).take y.size⟩⟩
      simp [loadVar, run_isAgg hy, hag, run_sizeOf hy, hc]
    · cases hl
  | false =>
    simp only [hag, Bool.false_eq_true, if_false] at hl
    obtain ⟨v, hv, hrv⟩ := hr.get i av hl
    have := hat 0 v (by simpa using hv)
    refine ⟨v, ?_, hrv⟩
    have h0 : ad.add 0 = ad := by simp [Addr.add]
    rw [h0] at this
    simp [loadVar, run_isAgg hy, hag, this]
end Go.Lens

set_option linter.unusedVariables false
set_option linter.unusedSimpArgs false
namespace Go.Lens
open Go Go.RowKit
theorem add_add (a : Addr) (i j : Nat) : (a.add i).add j = a.add (i + j) := by
  unfold Addr.add
  by_cases hi : i = 0 <;> by_cases hj : j = 0 <;> simp [hi, hj, Nat.add_assoc]
theorem add_mk (b o i : Nat) : (⟨b, o, none⟩ : Addr).add i = ⟨b, o + i, none⟩ := by unfold Addr.add; split <;> simp_all
theorem At.drop {w : World} {a : Addr} {vs : List Value} (h : At w a vs) (i : Nat) : At w (a.add i) (vs.drop i) := by
  intro j u hu
  rw [List.getElem?_drop] at hu
  rw [add_add]
  exact h _ _ hu
theorem At.take {w : World} {a : Addr} {vs : List Value} (h : At w a vs) (i : Nat) : At w a (vs.take i) := by
  intro j u hu
  rw [List.getElem?_take] at hu
  split at hu
  · exact h j u hu
  · cases hu
/-! ### fields -/
/-! ### indexes -/
/-! ### slices -/
/-- a bound of a slice expression; `d`: what stands for a bound that is not given -/
def Bd (st : St) (d : Nat) : Option Operand → Nat → Prop
  | none, l => l = d
  | some x, l => ∃ k i, ev st x = some (.int k i) ∧ 0 ≤ i ∧ l = i.toNat
end Go.Lens

set_option linter.unusedVariables false
set_option linter.unusedSimpArgs false
namespace Go.Lens
open Go Go.RowKit
mutual
/-- it names no object -/
def AV.plain : AV → Bool
  | .ptr .. | .sl .. | .mp .. => false
  | .agg cs => plainL cs
  | .tup cs => plainL cs
  | .func _ x y => plainL x && plainL y
  | _ => true
def plainL : List AV → Bool
  | [] => true
  | c :: cs => c.plain && plainL cs
end
mutual
theorem RelV.bare {w : World} {H : View} : ∀ (c : AV) {v : Value}, c.plain = true → RelV w c H v → RelV w c H.bare v
  | .any, _, _, _ => trivial
  | .int .., _, _, h => h
  | .bool .., _, _, h => h
  | .str .., _, _, h => h
  | .nilp, _, _, h => h
  | .nils, _, _, h => h
  | .nilFunc, _, _, h => h
  | .nilm, _, _, h => h
  | .row .., _, _, h => h
  | .clip .., _, _, h => h
  | .radr .., _, _, h => h
  | .agg cs, _, hp, ⟨vs, e, h⟩ => ⟨vs, e, RelL.bare cs (by simpa [AV.plain] using hp) h⟩
  | .tup cs, _, hp, ⟨vs, e, h⟩ => ⟨vs, e, RelL.bare cs (by simpa [AV.plain] using hp) h⟩
  | .func _ x y, _, hp, ⟨xs, ys, e, h, h'⟩ => by
    simp only [AV.plain, Bool.and_eq_true] at hp
    exact ⟨xs, ys, e, RelL.bare x hp.1 h, RelL.bare y hp.2 h'⟩
theorem RelL.bare {w : World} {H : View} : ∀ (cs : List AV) {vs : List Value}, plainL cs = true → RelL w cs H vs → RelL w cs H.bare vs
  | [], _, _, h => h
  | c :: cs, _, hp, ⟨v, vs, e, h, h'⟩ => by
    simp only [plainL, Bool.and_eq_true] at hp
    exact ⟨v, vs, e, RelV.bare c hp.1 h, RelL.bare cs hp.2 h'⟩
end
theorem RelL.flatIf {w : World} {H : View} {cs : List AV} {vs : List Value} {flat : Bool} (hp : flat = true → plainL cs = true) (h : RelL w cs H vs) : RelL w cs (H.flatIf flat) vs := by
  cases flat
  · exact h
  · exact h.bare cs (hp rfl)
/-- its value is one cell -/
def One (objs : List AObj) : AV → Prop
  | .any | .agg _ | .tup _ => False
  | .ptr o ver _ | .sl o ver _ _ _ | .mp o ver => ∃ cs esz flat own, objs[o]? = some (.cells cs ver esz flat own)
  | _ => True
theorem One.cell {w : World} {H : View} {objs : List AObj} (ho : Objs w H objs) {c : AV} (h1 : One objs c) {v : Value} (h : RelV w c H v) : v.oneCell' = true ∧ v.cells = #[v] := by
  have key : ∀ u : Value, (match u with | .agg _ | .tuple _ => false | _ => true) = true → u.oneCell' = true ∧ u.cells = #[u] := by
    intro u hu
    cases u <;> first | (simp at hu; done) | exact ⟨rfl, rfl⟩
  cases c with
  | any => exact h1.elim
  | agg cs => exact h1.elim
  | tup cs => exact h1.elim
  | int k n => simp only [RelV] at h; subst h; exact key _ rfl
  | bool b => simp only [RelV] at h; subst h; exact key _ rfl
  | str s => simp only [RelV] at h; subst h; exact key _ rfl
  | nilp => simp only [RelV] at h; subst h; exact key _ rfl
  | nils => simp only [RelV] at h; subst h; exact key _ rfl
  | nilFunc => simp only [RelV] at h; subst h; exact key _ rfl
  | nilm => simp only [RelV] at h; subst h; exact key _ rfl
  | radr cs => obtain ⟨a, vs, e, _⟩ := h; subst e; exact key _ rfl
  | row cs n => obtain ⟨a, c, vs, e, _⟩ := h; subst e; exact key _ rfl
  | clip cs n => obtain ⟨a, vs, e, _⟩ := h; subst e; exact key _ rfl
  | func f x y => obtain ⟨xs, ys, e, _⟩ := h; subst e; exact key _ rfl
  | ptr o ver i =>
    obtain ⟨cs, esz, flat, own, hob⟩ := h1
    obtain ⟨_, _, hp⟩ := h
    rw [hp (ho.rel _ _ hob).1]; exact key _ rfl
  | mp o ver =>
    obtain ⟨cs, esz, flat, own, hob⟩ := h1
    obtain ⟨_, _, hp⟩ := h
    rw [hp (ho.rel _ _ hob).1]; exact key _ rfl
  | sl o ver off n full =>
    obtain ⟨cs, esz, flat, own, hob⟩ := h1
    obtain ⟨_, _, hp⟩ := h
    obtain ⟨a, c, e, _⟩ := hp (ho.rel _ _ hob).1
    rw [e]; exact key _ rfl
/-- its value's cells -/
def Cells (objs : List AObj) (c : AV) (ds : List AV) : Prop := c = .agg ds ∨ (One objs c ∧ ds = [c])
theorem Cells.rel {w : World} {H : View} {objs : List AObj} (ho : Objs w H objs) {c : AV} {ds : List AV} (h1 : Cells objs c ds) {v : Value} (h : RelV w c H v) : RelL w ds H v.cells.toList := by
  rcases h1 with rfl | ⟨h1, rfl⟩
  · obtain ⟨vs, rfl, h⟩ := h
    simpa [Value.cells] using h
  · rw [(h1.cell ho h).2]
    exact RelL_cons h RelL_nil
/-! ### stores -/
def splice {α : Type} (cs : List α) (i : Nat) (ds : List α) : List α := cs.take i ++ ds ++ cs.drop (i + ds.length)
theorem RelL.splice {w : World} {H : View} {cs ds : List AV} {vs us : List Value} (h : RelL w cs H vs) (h' : RelL w ds H us) (i : Nat) : RelL w (splice cs i ds) H (splice vs i us) := by
  unfold Lens.splice
  rw [h'.length]
  exact ((h.take i).append h').append (h.drop _)
theorem get_splice {α : Type} {cs ds : List α} {i : Nat} (h : i + ds.length ≤ cs.length) (j : Nat) : (splice cs i ds)[j]? = if i ≤ j ∧ j < i + ds.length then ds[j - i]? else cs[j]? := by
  unfold splice
  rw [List.append_assoc, List.getElem?_append]
  have hl : (cs.take i).length = i := by simp; omega
  rw [hl]
  by_cases h1 : j < i
  · rw [if_pos h1, if_neg (by omega), List.getElem?_take, if_pos h1]
  · rw [if_neg h1, List.getElem?_append]
    by_cases h2 : j - i < ds.length
    · rw [if_pos h2, if_pos (by omega)]
    · rw [if_neg h2, if_neg (by omega), List.getElem?_drop]
      congr 1; omega
end Go.Lens

set_option linter.unusedVariables false
set_option linter.unusedSimpArgs false
namespace Go.Lens
open Go Go.RowKit
/-- what stands behind a piece of code -/
def Post (C : Ctx) (Q : Exit → St → Prop) : Exit → Act → World → Prop := fun e a w => ∃ st, Q e st ∧ Rel C st a w
/-- from every frame and world that the state tells, the code comes to an exit and a state of which Q holds -/
def W (C : Ctx) (c : Code) (st : St) (Q : Exit → St → Prop) : Prop := ∀ a w, Rel C st a w → c.wp C.P (Post C Q) a w
theorem W.mono {C : Ctx} {c : Code} {st : St} {Q Q' : Exit → St → Prop} (h : W C c st Q) (hq : ∀ e st, Q e st → Q' e st) : W C c st Q' :=
  fun a w hr => wp_mono (h a w hr) fun e a' w' ⟨st', h1, h2⟩ => ⟨st', hq _ _ h1, h2⟩
/-- less is known: of the frame these slots, of the store the first objects -/
def EnvLe : List (Nat × AV) → List (Nat × AV) → Prop
  | [], _ => True
  | (t, v) :: r, env => look env t = some v ∧ EnvLe r env
theorem EnvLe.look {env0 env : List (Nat × AV)} (h : EnvLe env0 env) {t : Nat} {v : AV} (ht : look env0 t = some v) : Lens.look env t = some v := by
  induction env0 with
  | nil => cases ht
  | cons p r ih =>
    obtain ⟨k, u⟩ := p
    simp only [Lens.look] at ht
    split at ht
    · rename_i hk
      have : k = t := by simpa using hk
      subst this
      injection ht with ht; subst ht
      exact h.1
    · exact ih h.2 ht
mutual
def AV.inside (k : Nat) : AV → Bool
  | .ptr o _ _ => decide (o < k)
  | .sl o _ _ _ _ => decide (o < k)
  | .mp o _ => decide (o < k)
  | .agg cs => scopedL k cs
  | .tup cs => scopedL k cs
  | .func _ x y => scopedL k x && scopedL k y
  | _ => true
def scopedL (k : Nat) : List AV → Bool
  | [] => true
  | c :: cs => c.inside k && scopedL k cs
end
mutual
theorem RelV.inside {w : World} {H : View} {k : Nat} : ∀ (c : AV) {v : Value}, c.inside k = true → RelV w c H v → RelV w c { H with n := k } v
  | .any, _, _, _ => trivial
  | .int .., _, _, h => h
  | .bool .., _, _, h => h
  | .str .., _, _, h => h
  | .nilp, _, _, h => h
  | .nils, _, _, h => h
  | .nilFunc, _, _, h => h
  | .nilm, _, _, h => h
  | .row .., _, _, h => h
  | .clip .., _, _, h => h
  | .radr .., _, _, h => h
  | .ptr .., _, hp, ⟨_, h2, h3⟩ => ⟨by simpa [AV.inside] using hp, h2, h3⟩
  | .sl .., _, hp, ⟨_, h2, h3⟩ => ⟨by simpa [AV.inside] using hp, h2, h3⟩
  | .mp .., _, hp, ⟨_, h2, h3⟩ => ⟨by simpa [AV.inside] using hp, h2, h3⟩
  | .agg cs, _, hp, ⟨vs, e, h⟩ => ⟨vs, e, RelL.inside cs (by simpa [AV.inside] using hp) h⟩
  | .tup cs, _, hp, ⟨vs, e, h⟩ => ⟨vs, e, RelL.inside cs (by simpa [AV.inside] using hp) h⟩
  | .func _ x y, _, hp, ⟨xs, ys, e, h, h'⟩ => by
    simp only [AV.inside, Bool.and_eq_true] at hp
    exact ⟨xs, ys, e, RelL.inside x hp.1 h, RelL.inside y hp.2 h'⟩
theorem RelL.inside {w : World} {H : View} {k : Nat} : ∀ (cs : List AV) {vs : List Value}, scopedL k cs = true → RelL w cs H vs → RelL w cs { H with n := k } vs
  | [], _, _, h => h
  | c :: cs, _, hp, ⟨v, vs, e, h, h'⟩ => by
    simp only [scopedL, Bool.and_eq_true] at hp
    exact ⟨v, vs, e, RelV.inside c hp.1 h, RelL.inside cs hp.2 h'⟩
end
def envScoped (k : Nat) : List (Nat × AV) → Bool
  | [] => true
  | p :: r => p.2.inside k && envScoped k r
theorem envScoped_look {k : Nat} {env : List (Nat × AV)} (h : envScoped k env = true) {t : Nat} {v : AV} (ht : look env t = some v) : v.inside k = true := by
  induction env with
  | nil => cases ht
  | cons p r ih =>
    obtain ⟨j, u⟩ := p
    simp only [envScoped, Bool.and_eq_true] at h
    simp only [Lens.look] at ht
    split at ht
    · injection ht with ht; subst ht; exact h.1
    · exact ih h.2 ht
/-- `objs0`: of the first objects, each as it is, or given up -/
def ObjsLe (k : Nat) : List AObj → List AObj → Prop
  | [], _ => True
  | o0 :: r0, o :: r => (o0 = .dead ∨ (o0 = o ∧ (match o0 with | .cells cs _ _ false _ => scopedL k cs = true | _ => True))) ∧ ObjsLe k r0 r
  | _ :: _, [] => False
theorem ObjsLe.get {k : Nat} : ∀ {objs0 objs : List AObj}, ObjsLe k objs0 objs → ∀ {o : Nat} {ob : AObj}, objs0[o]? = some ob → ob = .dead ∨ (objs[o]? = some ob ∧ (match ob with | .cells cs _ _ false _ => scopedL k cs = true | _ => True))
  | o0 :: r0, o1 :: r, h, 0, ob, hi => by
    simp at hi; subst hi
    rcases h.1 with h1 | ⟨h1, h2⟩
    · exact .inl h1
    · subst h1; exact .inr ⟨rfl, h2⟩
  | o0 :: r0, o1 :: r, h, o + 1, ob, hi => by
    simpa using ObjsLe.get h.2 (o := o) (by simpa using hi)
  | [], _, _, _, _, hi => by simp at hi
  | _ :: _, [], h, _, _, _ => h.elim
/-! ### the forms of code -/
theorem W.ret {C : Ctx} {st : St} {Q : Exit → St → Prop} (h : Q .ret st) : W C .ret st Q := fun _ _ hr => wp_ret ⟨st, h, hr⟩
theorem least {p : Nat → Prop} (h : ∃ n, p n) : ∃ n, p n ∧ ∀ m, p m → n ≤ m := by
  obtain ⟨n, hn⟩ := h
  induction n using Nat.strongRecOn with
  | _ n ih =>
    by_cases hx : ∃ m, m < n ∧ p m
    · obtain ⟨m, h1, h2⟩ := hx; exact ih m h1 h2
    · exact ⟨n, hn, fun m hm => Nat.le_of_not_lt fun hlt => hx ⟨m, hlt, hm⟩⟩
/-! ### regions -/
/-- the operations that are left of a region -/
def WL (C : Ctx) (ops : Array Oper) (l : List Oper) (st : St) (Q : Exit → St → Prop) : Prop := ∀ a w, Rel C st a w → wpList C.P ops (Post C Q) l a w
theorem W.region {C : Ctx} {id : Nat} {ops : Array Oper} {st : St} {Q : Exit → St → Prop} (h : WL C ops ops.toList st Q) : W C (.region id ops false) st Q :=
  fun a w hr => wp_region_list (h a w hr)
theorem WL.nil {C : Ctx} {ops : Array Oper} {st : St} {Q : Exit → St → Prop} (h : Q .normal st) : WL C ops [] st Q := fun _ _ hr => wpList_nil ⟨st, h, hr⟩
/-- is the operation wanted? -/
def gd (ops : Array Oper) (st : St) (o : Oper) : Option Bool :=
  match o.guard with
  | none => some true
  | some (g, want) => match (ops[g]?).bind (·.dst) with
    | some t => match look st.env t with
      | some (.bool b) => some (b == want)
      | some (.tup _) => some false
      | _ => none
    | none => none
theorem gd_rel {C : Ctx} {H : View} {ops : Array Oper} {st : St} {a : Act} {w : World} {o : Oper} {b : Bool} (h : gd ops st o = some b) (hi : Inv C H st a w) : Region.wanted o (yielded ops a.tmps) = b := by
  unfold gd at h
  unfold Region.wanted
  cases hg : o.guard with
  | none => rw [hg] at h; injection h
  | some gw =>
    obtain ⟨g, want⟩ := gw
    rw [hg] at h
    dsimp only at h ⊢
    split at h
    · rename_i t ht
      split at h
      · rename_i b' hb
        have hv := hi.env t _ hb
        simp only [RelV] at hv
        have hy : yielded ops a.tmps g = some b' := by
          unfold yielded
          have hv' : a.tmps[t]?.getD undef = .bool b' := by simpa using hv
          cases hq : a.tmps[t]? with
          | none => rw [hq] at hv'; cases hv'
          | some v => rw [hq] at hv'; simp at hv'; subst hv'; rw [ht]; simp [hq]
        rw [hy]
        exact Option.some.inj h
      · rename_i cs hb
        obtain ⟨vs, hv, _⟩ := hi.env t _ hb
        have hy : yielded ops a.tmps g = none := by
          unfold yielded
          have hv' : a.tmps[t]?.getD undef = .tuple vs.toArray := by simpa using hv
          rw [ht]
          simp only [Option.bind_some]
          cases hq : a.tmps[t]? with
          | none => rfl
          | some v => rw [hq] at hv'; simp at hv'; subst hv'; rfl
        rw [hy]
        exact Option.some.inj h
      · cases h
    · cases h
theorem WL.st {C : Ctx} {ops : Array Oper} {o : Oper} {rest : List Oper} {st : St} {Q : Exit → St → Prop} {objs' : List AObj} (hs : SStep C o st objs') (hg : gd ops st o = some true)
    (hd : o.dst = none) (h : WL C ops rest { st with objs := objs' } Q) : WL C ops (o :: rest) st Q := by
  intro a w ⟨H, hi⟩
  obtain ⟨w', H', hr, hi'⟩ := hs H a w hi
  unfold wpList
  rw [gd_rel hg hi, if_pos rfl]
  refine .inl ?_
  unfold Oper.wp
  rw [hr]
  simp only [Oper.upon, hd]
  exact h _ _ ⟨H', hi'⟩
theorem WL.off {C : Ctx} {ops : Array Oper} {o : Oper} {rest : List Oper} {st : St} {Q : Exit → St → Prop} (hg : gd ops st o = some false)
    (hd : ∀ t, o.dst = some t → t < C.nt) (h : WL C ops rest (st.put o.dst (.tup [])) Q) : WL C ops (o :: rest) st Q := by
  intro a w ⟨H, hi⟩
  unfold wpList
  rw [gd_rel hg hi, if_neg (by simp)]
  exact h _ _ ⟨H, hi.put o.dst hd ⟨[], rfl, rfl⟩⟩
end Go.Lens

set_option linter.unusedVariables false
set_option linter.unusedSimpArgs false
namespace Go.Lens
open Go Go.RowKit
def Callable (P : Program) (f : FuncId) : Prop := ∃ fn, P.funcs[f]? = some fn ∧ fn.body.isNone = false ∧ (fn.name == "runtime.NumGoroutine") = false
/-- what a call leaves -/
structure Left (w : World) (H : View) (objs : List AObj) (w' : World) (H' : View) (objs' : List AObj) : Prop where
  ok : Objs w' H' objs'
  wr : ∀ b, b < w.heap.size → (H'.wr b ↔ H.wr b)
  old : ∀ o ob, objs[o]? = some ob → ob.live = true → H'.blk o = H.blk o ∧ H'.off o = H.off o ∧ H'.cap o = H.cap o
  len : objs.length ≤ objs'.length
  new : ∀ o ob, objs.length ≤ o → objs'[o]? = some ob → ob.live = true → w.heap.size ≤ H'.blk o
  frame : ∀ b, b < w.heap.size → (∀ o ob, objs[o]? = some ob → ob.live = true → b ≠ H.blk o) → w'.heap[b]? = w.heap[b]?
  lens : ∀ (o : Nat) (cs : List AV) (ver esz : Nat) (flat : Bool) (own : Option TypeId), objs[o]? = some (AObj.cells cs ver esz flat own) →
    ∀ (cs' : List AV) (ver' esz' : Nat) (flat' : Bool) (own' : Option TypeId), objs'[o]? = some (AObj.cells cs' ver' esz' flat' own') → cs'.length = cs.length
  out : ∀ (o : Nat) (cs : List AV) (ver esz : Nat) (flat : Bool) (own : Option TypeId), objs[o]? = some (AObj.cells cs ver esz flat own) → Outside w w' (H.blk o) (H.off o) cs.length
  size : w.heap.size ≤ w'.heap.size
  os : w'.os = w.os
  tape : w'.tape = w.tape
  output : w'.output = w.output
/-- Called with such arguments, the function hands back a value of which Q holds. -/
def Spec (P : Program) (f : FuncId) (args : List AV) (objs : List AObj) (Q : AV → List AObj → Prop) : Prop :=
  Callable P f ∧ ∀ (H : View) (w : World) (vs : List Value), Objs w H objs → RelL w args H vs →
    Calls P f vs.toArray w fun e w' => ∃ r objs' H' v, e = .returned v ∧ Q r objs' ∧ RelV w' r H' v ∧ Left w H objs w' H' objs'
theorem Spec.mono {P : Program} {f : FuncId} {args : List AV} {objs : List AObj} {Q Q' : AV → List AObj → Prop} (h : Spec P f args objs Q) (hq : ∀ r os, Q r os → Q' r os) : Spec P f args objs Q' :=
  ⟨h.1, fun H w vs ho hr => (h.2 H w vs ho hr).mono fun e w' ⟨r, os, H', v, h1, h2, h3⟩ => ⟨r, os, H', v, h1, hq _ _ h2, h3⟩⟩
/-! ### results -/
/-- what is handed back in such a form names nothing that is kept -/
inductive Seal (objs : List AObj) (K : List Nat) : AV → AV → Prop
  | plain {c : AV} : c.plain = true → Seal objs K c c
  | sl {o ver off n esz : Nat} {full : Bool} {cs : List AV} {e : TypeId} : objs[o]? = some (.cells cs ver esz true (some e)) → off + n * esz ≤ cs.length → o ∉ K → Seal objs K (.sl o ver off n full) (.row ((cs.drop off).take (n * esz)) n)
  | agg1 {o ver off n esz : Nat} {full : Bool} {cs ds : List AV} {e : TypeId} : objs[o]? = some (.cells cs ver esz true (some e)) → off + n * esz ≤ cs.length → o ∉ K → plainL ds = true →
      Seal objs K (.agg (.sl o ver off n full :: ds)) (.agg (.row ((cs.drop off).take (n * esz)) n :: ds))
/-- the objects that are kept, in their order -/
inductive PackL (objs : List AObj) (k : Nat) (K : List Nat) : Nat → List AV → List AV → List Nat → Prop
  | nil {j : Nat} : PackL objs k K j [] [] []
  | shut {j : Nat} {c c' : AV} {cs cs' : List AV} {L : List Nat} : Seal objs K c c' → PackL objs k K j cs cs' L → PackL objs k K j (c :: cs) (c' :: cs') L
  | own {j o ver off n esz : Nat} {full : Bool} {ds : List AV} {e : TypeId} {cs cs' : List AV} {L : List Nat} : objs[o]? = some (.cells ds ver esz true (some e)) →
      PackL objs k K (j + 1) cs cs' L → PackL objs k K j (.sl o ver off n full :: cs) (.sl (k + j) 0 off n full :: cs') (o :: L)
theorem sl_row {w : World} {H H' : View} {objs : List AObj} (ho : Objs w H objs) {o ver off n esz : Nat} {full : Bool} {cs : List AV} {own : Option TypeId}
    (hob : objs[o]? = some (.cells cs ver esz true own)) (hb : off + n * esz ≤ cs.length) (hw : ¬ H'.wr (H.blk o)) (hsub : ∀ b, b < w.heap.size → H'.wr b → H.wr b) {v : Value} (h : RelV w (.sl o ver off n full) H v) :
    RelV w (.row ((cs.drop off).take (n * esz)) n) H' v := by
  obtain ⟨g1, g2, vs, c, e, g3, g4, g5, g6⟩ := ho.rel o _ hob
  obtain ⟨_, _, hp⟩ := h
  obtain ⟨ad, cap, rfl, hnc, hp1, _⟩ := hp g1
  have hbare : Keeps w H.bare w H'.bare := ⟨fun _ _ h _ => h, hsub, Nat.le_refl _, fun _ h => absurd h (Nat.not_lt_zero _), fun _ h => absurd h (Nat.not_lt_zero _)⟩
  refine ⟨some ad, cap, (vs.drop off).take (n * esz), rfl, hnc, ((RelL.drop off g4).take (n * esz)).keeps _ hbare, fun hne => ⟨ad, rfl, ?_, ?_⟩⟩
  · have hn : 0 < n := by
      rcases Nat.eq_zero_or_pos n with h0 | h0
      · subst h0; simp at hne
      · exact h0
    rw [hp1 hn]
    intro j u hu
    rw [List.getElem?_take] at hu
    split at hu
    · rw [List.getElem?_drop] at hu
      rw [add_mk]
      have := g5 _ _ hu
      simp only [World.cell?, g3]
      simp only [Option.isSome_none, Bool.false_eq_true, if_false]
      rw [Nat.add_assoc]; exact this
    · cases hu
  · have hn : 0 < n := by
      rcases Nat.eq_zero_or_pos n with h0 | h0
      · subst h0; simp at hne
      · exact h0
    rw [hp1 hn]; exact hw
theorem plain_to {w : World} {H H' : View} (hsub : ∀ b, b < w.heap.size → H'.wr b → H.wr b) {c : AV} (hc : c.plain = true) {v : Value} (h : RelV w c H v) : RelV w c H' v := by
  have h1 := h.bare c hc
  refine RelV.keeps c ?_ h1
  exact ⟨fun _ _ h _ => h, hsub, Nat.zero_le _, fun _ h => absurd h (Nat.not_lt_zero _), fun _ h => absurd h (Nat.not_lt_zero _)⟩
theorem plainL_to {w : World} {H H' : View} (hsub : ∀ b, b < w.heap.size → H'.wr b → H.wr b) {cs : List AV} (hc : plainL cs = true) {vs : List Value} (h : RelL w cs H vs) : RelL w cs H' vs := by
  have h1 := h.bare cs hc
  refine RelL.keeps cs ?_ h1
  exact ⟨fun _ _ h _ => h, hsub, Nat.zero_le _, fun _ h => absurd h (Nat.not_lt_zero _), fun _ h => absurd h (Nat.not_lt_zero _)⟩
theorem Seal.rel {w : World} {H H' : View} {objs : List AObj} {K : List Nat} (ho : Objs w H objs) (hsub : ∀ b, b < w.heap.size → H'.wr b → H.wr b)
    (hK : ∀ o cs ver esz e, objs[o]? = some (.cells cs ver esz true (some e)) → o ∉ K → ¬ H'.wr (H.blk o)) {c c' : AV} (h : Seal objs K c c') {v : Value} (hv : RelV w c H v) : RelV w c' H' v := by
  cases h with
  | plain hc => exact plain_to hsub hc hv
  | sl hob hb hk => exact sl_row ho hob hb (hK _ _ _ _ _ hob hk) hsub hv
  | agg1 hob hb hk hp =>
    obtain ⟨vs, rfl, u, us, rfl, h1, h2⟩ := hv
    exact ⟨_, rfl, u, us, rfl, sl_row ho hob hb (hK _ _ _ _ _ hob hk) hsub h1, plainL_to hsub hp h2⟩
def AObj.fresh : AObj → AObj
  | .cells cs _ esz flat own => .cells cs 0 esz flat own
  | o => o
theorem PackL.rel {w : World} {H H' : View} {objs : List AObj} {k : Nat} {K0 : List Nat} (ho : Objs w H objs) (hsub : ∀ b, b < w.heap.size → H'.wr b → H.wr b)
    (hK : ∀ o cs ver esz e, objs[o]? = some (.cells cs ver esz true (some e)) → o ∉ K0 → ¬ H'.wr (H.blk o)) :
    ∀ {j : Nat} {cs cs' : List AV} {L : List Nat} (h : PackL objs k K0 j cs cs' L) (pre : List Nat) (hpre : pre.length = j) (hn : H'.n = k + (pre ++ L).length)
      (hblk : ∀ i o, (pre ++ L)[i]? = some o → H'.blk (k + i) = H.blk o ∧ H'.off (k + i) = H.off o ∧ H'.cap (k + i) = H.cap o ∧ H'.ver (k + i) = 0) {vs : List Value}, RelL w cs H vs → RelL w cs' H' vs
  | _, _, _, _, .nil, _, _, _, _, _, h => h
  | _, _, _, _, .shut hs hr, pre, hpre, hn, hblk, _, ⟨v, vs, e, h1, h2⟩ => ⟨v, vs, e, hs.rel ho hsub hK h1, PackL.rel ho hsub hK hr pre hpre hn hblk h2⟩
  | j, _, _, _, .own (o := o) (L := L) hob hr, pre, hpre, hn, hblk, _, ⟨v, vs, e, h1, h2⟩ => by
    refine ⟨v, vs, e, ?_, PackL.rel ho hsub hK hr (pre ++ [o]) (by simp [hpre]) (by simpa using hn) (fun i x hi => hblk i x (by simpa using hi)) h2⟩
    obtain ⟨b1, b2, b3, b4⟩ := hblk j o (by simp [← hpre])
    obtain ⟨g1, _⟩ := ho.rel o _ hob
    obtain ⟨_, _, hp⟩ := h1
    obtain ⟨ad, c, e1, e2, e3, e4⟩ := hp g1
    refine ⟨by simp at hn; omega, by omega, fun _ => ⟨ad, c, e1, e2, ?_, ?_⟩⟩
    · rw [b1, b2]; exact e3
    · rw [b1, b3]; exact e4
/-- the results of a function -/
def resAV (T : Tab) (st : St) : List ResultVar → Option (List AV)
  | [] => some []
  | .tmp t :: r => match look st.env t, resAV T st r with | some c, some cs => some (c :: cs) | _, _ => none
  | .cell a t :: r => match look st.env a, resAV T st r with
    | some (.ptr o ver i), some cs => match st.objs[o]?, T.at t with
      | some (.cells ds ver' _ _ _), some y => if ver' == ver then (match loadc y ds i with | some c => some (c :: cs) | none => none) else none
      | _, _ => none
    | _, _ => none
def tupAV : List AV → AV
  | [c] => c
  | cs => .tup cs
theorem run_results {C : Ctx} {H : View} {st : St} {a : Act} {w : World} (hi : Inv C H st a w) : ∀ {rs : List ResultVar} {cs : List AV}, resAV C.T st rs = some cs →
    ∃ vs, (rs.mapM fun r => (match r with | .tmp t => pure (a.tmps.getD t undef) | .cell x t => do loadVar t (← asAddr (a.tmps.getD x undef)) : Sem Value)).run C.P w = .ok vs w ∧ RelL w cs H vs
  | [], _, h => by simp only [resAV, Option.some.injEq] at h; subst h; exact ⟨[], rfl, rfl⟩
  | .tmp t :: r, _, h => by
    simp only [resAV] at h
    split at h
    · rename_i c cs' h1 h2
      injection h with h; subst h
      obtain ⟨vs, e, hr⟩ := run_results hi h2
      refine ⟨_ :: vs, ?_, RelL_cons (hi.env t c h1) hr⟩
      rw [List.mapM_cons]
      simp only [Sem.run_bind, Sem.run_pure, Result.andThen_ok, e]
    · cases h
  | .cell x t :: r, _, h => by
    simp only [resAV] at h
    split at h
    · rename_i o ver i cs' h1 h2
      split at h
      · rename_i ds ver' esz flat own y h3 h4
        split at h
        · rename_i hver
          have hver : ver' = ver := by simpa using hver
          subst hver
          split at h
          · rename_i c hl
            injection h with h; subst h
            obtain ⟨vs, e, hr⟩ := run_results hi h2
            obtain ⟨g1, g2, us, cc, e', g3, g4, g5, g6⟩ := hi.objs.rel o _ h3
            obtain ⟨_, _, hp⟩ := hi.env x _ h1
            have hp := hp g1
            have key : ∃ v, (loadVar t ⟨H.blk o, H.off o + i, none⟩).run C.P w = .ok v w ∧ RelV w c (H.flatIf flat) v := by
              refine loadVar_at h4 g4 (i := i) (fun j u hu => ?_) hl
              rw [add_mk]
              have := g5 _ _ hu
              simp only [World.cell?, g3, Option.isSome_none, Bool.false_eq_true, if_false]
              rw [Nat.add_assoc]; exact this
            obtain ⟨v, k1, k2⟩ := key
            refine ⟨v :: vs, ?_, RelL_cons ?_ hr⟩
            · have ha : (asAddr (a.tmps.getD x undef)).run C.P w = .ok ⟨H.blk o, H.off o + i, none⟩ w := by rw [hp]; rfl
              rw [List.mapM_cons]
              simp only [Sem.run_bind, Sem.run_pure, Result.andThen_ok, ha, k1, e]
            · cases flat
              · exact k2
              · refine RelV.keeps c ?_ k2
                exact ⟨fun _ _ h _ => h, fun _ _ h => h, Nat.zero_le _, fun _ h => absurd h (Nat.not_lt_zero _), fun _ h => absurd h (Nat.not_lt_zero _)⟩
          · cases h
        · cases h
      · cases h
    · cases h
theorem results_run {C : Ctx} {H : View} {st : St} {a : Act} {w : World} (hi : Inv C H st a w) {fn : Func} {cs : List AV} (h : resAV C.T st fn.results.toList = some cs) :
    ∃ v vs, (results fn a.tmps).run C.P w = .ok v w ∧ RelL w cs H vs ∧ v = (if h : vs.length = 1 then vs[0] else .tuple vs.toArray) := by
  obtain ⟨vs, e, hr⟩ := run_results hi h
  refine ⟨_, vs, ?_, hr, rfl⟩
  unfold results
  rw [Array.mapM_eq_mapM_toList]
  simp only [Sem.run_bind, Sem.run_map]
  erw [e]
  simp only [Result.andThen_ok, Sem.run_pure, List.size_toArray, List.getElem_toArray]
theorem tup_rel {w : World} {H : View} {cs : List AV} {vs : List Value} (h : RelL w cs H vs) : RelV w (tupAV cs) H (if h : vs.length = 1 then vs[0] else .tuple vs.toArray) := by
  have hl := h.length
  match cs, h with
  | [], h => cases h; exact ⟨[], rfl, rfl⟩
  | [c], ⟨v, vs', e, h1, h2⟩ =>
    cases h2
    subst e
    simpa [tupAV] using h1
  | c :: d :: r, h =>
    have : vs.length ≠ 1 := by simp at hl; omega
    rw [dif_neg this]
    exact ⟨vs, rfl, h⟩
/-! ### from the body to the function -/
def envOf : Nat → List AV → List (Nat × AV)
  | _, [] => []
  | k, c :: cs => (k, c) :: envOf (k + 1) cs
theorem look_envOf : ∀ {cs : List AV} {k t : Nat} {c : AV}, look (envOf k cs) t = some c → k ≤ t ∧ cs[t - k]? = some c
  | d :: cs, k, t, c, h => by
    simp only [envOf, look] at h
    split at h
    · rename_i hk
      have : k = t := by simpa using hk
      subst this
      exact ⟨Nat.le_refl _, by simpa using h⟩
    · rename_i hk
      have hne : k ≠ t := by simpa using hk
      obtain ⟨h1, h2⟩ := look_envOf h
      refine ⟨by omega, ?_⟩
      rw [show t - k = (t - (k + 1)) + 1 by omega]
      simpa using h2
  | [], _, _, _, h => by simp [envOf, look] at h
/-- what is asked at a function's end -/
def Fin (T : Tab) (rs : List ResultVar) (k : Nat) (Q : AV → List AObj → Prop) : Exit → St → Prop := fun e st =>
  (e = .ret ∨ e = .normal) ∧ ∃ cs cs' L, resAV T st rs = some cs ∧ PackL st.objs k L 0 cs cs' L ∧ L.Nodup ∧
    (∀ ob, ob ∈ st.objs.take k → match ob with | .cells ds _ _ false _ => plainL ds = true | _ => True) ∧ Q (tupAV cs') (st.objs.take k ++ L.map fun o => (st.objs.getD o .dead).fresh)
theorem nodup_get {l : List Nat} (h : l.Nodup) {i j x : Nat} (hi : l[i]? = some x) (hj : l[j]? = some x) : i = j := by
  obtain ⟨h1, e1⟩ := List.getElem?_eq_some_iff.1 hi
  obtain ⟨h2, e2⟩ := List.getElem?_eq_some_iff.1 hj
  rcases Nat.lt_trichotomy i j with hlt | heq | hlt
  · exact absurd (e1.trans e2.symm) (List.pairwise_iff_getElem.1 h i j h1 h2 hlt)
  · exact heq
  · exact absurd (e2.trans e1.symm) (List.pairwise_iff_getElem.1 h j i h2 h1 hlt)
end Go.Lens

set_option linter.unusedVariables false
set_option linter.unusedSimpArgs false
namespace Go.Lens
open Go Go.RowKit
/-! ### what is handed over -/
inductive PassL (objs : List AObj) : Nat → List AV → List AV → List Nat → List (Nat × Nat) → List AObj → Prop
  | nil {j : Nat} : PassL objs j [] [] [] [] []
  | plain {j : Nat} {c : AV} {cs cs' : List AV} {L : List Nat} {B : List (Nat × Nat)} {O : List AObj} : c.plain = true → PassL objs j cs cs' L B O → PassL objs j (c :: cs) (c :: cs') L B O
  | lend {j o ver off n esz : Nat} {full : Bool} {ds : List AV} {own : Option TypeId} {cs cs' : List AV} {L : List Nat} {B : List (Nat × Nat)} {O : List AObj} : objs[o]? = some (.cells ds ver esz true own) → off + n * esz ≤ ds.length →
      PassL objs j cs cs' L B O → PassL objs j (.sl o ver off n full :: cs) (.row ((ds.drop off).take (n * esz)) n :: cs') (o :: L) B O
  | refS {j o ver off n esz : Nat} {full : Bool} {ds : List AV} {own : Option TypeId} {cs cs' : List AV} {L : List Nat} {B : List (Nat × Nat)} {O : List AObj} : objs[o]? = some (.cells ds ver esz true own) → off + n * esz ≤ ds.length →
      PassL objs (j + 1) cs cs' L B O → PassL objs j (.sl o ver off n full :: cs) (.sl j 0 0 n false :: cs') L ((o, off) :: B) (.cells ((ds.drop off).take (n * esz)) 0 esz true none :: O)
  | refP {j o ver i sz esz : Nat} {ds : List AV} {flat : Bool} {own : Option TypeId} {cs cs' : List AV} {L : List Nat} {B : List (Nat × Nat)} {O : List AObj} : objs[o]? = some (.cells ds ver esz flat own) → i + sz ≤ ds.length →
      (flat = false → plainL ((ds.drop i).take sz) = true) → PassL objs (j + 1) cs cs' L B O → PassL objs j (.ptr o ver i :: cs) (.ptr j 0 0 :: cs') L ((o, i) :: B) (.cells ((ds.drop i).take sz) 0 1 flat none :: O)
/-- the callee's view -/
def View.callee (H : View) (L : List Nat) (B : List (Nat × Nat)) : View :=
  { n := B.length, blk := fun j => H.blk (B.getD j (0, 0)).1, off := fun j => H.off (B.getD j (0, 0)).1 + (B.getD j (0, 0)).2, cap := fun _ => 0, ver := fun _ => 0,
    wr := fun b => H.wr b ∧ ∀ o, o ∈ L → b ≠ H.blk o }
theorem PassL.lent {objs : List AObj} : ∀ {j : Nat} {cs cs' : List AV} {L : List Nat} {B : List (Nat × Nat)} {O : List AObj}, PassL objs j cs cs' L B O → ∀ o ∈ L, ∃ (ds : List AV) (ver esz : Nat) (own : Option TypeId), objs[o]? = some (AObj.cells ds ver esz true own)
  | _, _, _, _, _, _, .nil, _, h => by simp at h
  | _, _, _, _, _, _, .plain _ hr, o, h => PassL.lent hr o h
  | _, _, _, _, _, _, .lend hob _ hr, o, h => by
    rcases List.mem_cons.1 h with rfl | h
    · exact ⟨_, _, _, _, hob⟩
    · exact PassL.lent hr o h
  | _, _, _, _, _, _, .refS _ _ hr, o, h => PassL.lent hr o h
  | _, _, _, _, _, _, .refP _ _ _ hr, o, h => PassL.lent hr o h
/-- each object that is handed over to be written -/
theorem PassL.refs {objs : List AObj} : ∀ {j : Nat} {cs cs' : List AV} {L : List Nat} {B : List (Nat × Nat)} {O : List AObj}, PassL objs j cs cs' L B O → B.length = O.length ∧
    ∀ (i o off : Nat), B[i]? = some (o, off) → ∃ (ds : List AV) (ver esz : Nat) (flat : Bool) (own : Option TypeId) (len esz' : Nat), objs[o]? = some (AObj.cells ds ver esz flat own) ∧ off + len ≤ ds.length ∧ O[i]? = some (.cells ((ds.drop off).take len) 0 esz' flat none) ∧ (flat = false → plainL ((ds.drop off).take len) = true)
  | _, _, _, _, _, _, .nil => ⟨rfl, fun i o off h => by simp at h⟩
  | _, _, _, _, _, _, .plain _ hr => PassL.refs hr
  | _, _, _, _, _, _, .lend _ _ hr => PassL.refs hr
  | _, _, _, _, _, _, .refS hob hb hr => by
    obtain ⟨h1, h2⟩ := PassL.refs hr
    refine ⟨by simp [h1], fun i o off h => ?_⟩
    cases i with
    | zero => simp at h; obtain ⟨rfl, rfl⟩ := h; exact ⟨_, _, _, _, _, _, _, hob, hb, rfl, fun h => by cases h⟩
    | succ i => simpa using h2 i o off (by simpa using h)
  | _, _, _, _, _, _, .refP hob hb hp hr => by
    obtain ⟨h1, h2⟩ := PassL.refs hr
    refine ⟨by simp [h1], fun i o off h => ?_⟩
    cases i with
    | zero => simp at h; obtain ⟨rfl, rfl⟩ := h; exact ⟨_, _, _, _, _, _, _, hob, hb, rfl, hp⟩
    | succ i => simpa using h2 i o off (by simpa using h)
theorem PassL.rel {w : World} {H Hc : View} {objs : List AObj} (ho : Objs w H objs) (hsub : ∀ b, b < w.heap.size → Hc.wr b → H.wr b) :
    ∀ {j : Nat} {cs cs' : List AV} {L : List Nat} {B : List (Nat × Nat)} {O : List AObj} (h : PassL objs j cs cs' L B O) (pre : List (Nat × Nat)) (hpre : pre.length = j) (hn : Hc.n = (pre ++ B).length)
      (hL : ∀ o, o ∈ L → ¬ Hc.wr (H.blk o))
      (hblk : ∀ (i o off : Nat), (pre ++ B)[i]? = some (o, off) → Hc.blk i = H.blk o ∧ Hc.off i = H.off o + off ∧ Hc.ver i = 0) {vs : List Value}, RelL w cs H vs → RelL w cs' Hc vs
  | _, _, _, _, _, _, .nil, _, _, _, _, _, _, h => h
  | _, _, _, _, _, _, .plain hc hr, pre, hpre, hn, hL, hblk, _, ⟨v, vs, e, h1, h2⟩ => ⟨v, vs, e, plain_to hsub hc h1, PassL.rel ho hsub hr pre hpre hn hL hblk h2⟩
  | _, _, _, _, _, _, .lend hob hb hr, pre, hpre, hn, hL, hblk, _, ⟨v, vs, e, h1, h2⟩ =>
    ⟨v, vs, e, sl_row ho hob hb (hL _ (by simp)) hsub h1, PassL.rel ho hsub hr pre hpre hn (fun o hm => hL o (by simp [hm])) hblk h2⟩
  | j, _, _, _, _, _, .refS (o := o) (off := off) (B := B) hob hb hr, pre, hpre, hn, hL, hblk, _, ⟨v, vs, e, h1, h2⟩ => by
    refine ⟨v, vs, e, ?_, PassL.rel ho hsub hr (pre ++ [(o, off)]) (by simp [hpre]) (by simpa using hn) hL (fun i x y hi => hblk i x y (by simpa using hi)) h2⟩
    obtain ⟨b1, b2, b3⟩ := hblk j o off (by simp [← hpre])
    obtain ⟨g1, _⟩ := ho.rel o _ hob
    obtain ⟨_, _, hp⟩ := h1
    obtain ⟨ad, c, e1, e2, e3, e4⟩ := hp g1
    refine ⟨by simp at hn; omega, by omega, fun _ => ⟨ad, c, e1, e2, fun hpos => ?_, fun h => by cases h⟩⟩
    rw [b1, b2, e3 hpos]; rfl
  | j, _, _, _, _, _, .refP (o := o) (i := off) (B := B) hob hb hp' hr, pre, hpre, hn, hL, hblk, _, ⟨v, vs, e, h1, h2⟩ => by
    refine ⟨v, vs, e, ?_, PassL.rel ho hsub hr (pre ++ [(o, off)]) (by simp [hpre]) (by simpa using hn) hL (fun i x y hi => hblk i x y (by simpa using hi)) h2⟩
    obtain ⟨b1, b2, b3⟩ := hblk j o off (by simp [← hpre])
    obtain ⟨g1, _⟩ := ho.rel o _ hob
    obtain ⟨_, _, hp⟩ := h1
    have e1 := hp g1
    refine ⟨by simp at hn; omega, by omega, fun _ => ?_⟩
    rw [b1, b2, e1]; rfl
theorem Objs.callee {w : World} {H : View} {objs : List AObj} (ho : Objs w H objs) {cs cs' : List AV} {L : List Nat} {B : List (Nat × Nat)} {O : List AObj} (h : PassL objs 0 cs cs' L B O)
    (hnd : (B.map (·.1)).Nodup) (hdis : ∀ o, o ∈ L → o ∉ B.map (·.1)) : Objs w (H.callee L B) O := by
  obtain ⟨hlen, href⟩ := h.refs
  have hsub : ∀ b, b < w.heap.size → (H.callee L B).wr b → H.wr b := fun b _ hb => hb.1
  have hget : ∀ (i : Nat) (ob : AObj), O[i]? = some ob → ∃ o off : Nat, B[i]? = some (o, off) ∧ B.getD i (0, 0) = (o, off) := by
    intro i ob hi
    have hlt : i < B.length := by rw [hlen]; exact (List.getElem?_eq_some_iff.1 hi).1
    exact ⟨(B[i]).1, (B[i]).2, by simp [hlt], by simp [hlt]⟩
  have hwr : ∀ (i o off : Nat), B[i]? = some (o, off) → (H.callee L B).wr (H.blk o) := by
    intro i o off hi
    obtain ⟨ds, ver, esz, flat, own, len, esz', h1, h2, h3, h4⟩ := href i o off hi
    refine ⟨ho.wr_blk h1 rfl, fun o' ho' he => ?_⟩
    obtain ⟨ds', ver', esz'', own', h1'⟩ := h.lent o' ho'
    have := ho.inj o o' _ _ h1 h1' rfl rfl he
    subst this
    exact hdis o ho' (List.mem_map.2 ⟨(o, off), List.mem_of_getElem? hi, rfl⟩)
  refine ⟨hlen, ?_, ?_, fun b hb => ho.lt b hb.1⟩
  · intro i ob hi
    obtain ⟨o, off, hb, hgd⟩ := hget i ob hi
    obtain ⟨ds, ver, esz, flat, own, len, esz', h1, h2, h3, h4⟩ := href i o off hb
    rw [h3] at hi
    injection hi with hi; subst hi
    obtain ⟨g1, g2, vs, c, e, g3, g4, g5, g6⟩ := ho.rel o _ h1
    refine ⟨rfl, by simp only [View.callee, hgd]; exact hwr i o off hb, (vs.drop off).take len, c, e, by simp only [View.callee, hgd]; exact g3, ?_, ?_, fun t ht => by cases ht⟩
    · cases flat
      · exact plainL_to hsub (h4 rfl) ((RelL.drop off g4).take len)
      · have hbare : Keeps w H.bare w (H.callee L B).bare := ⟨fun _ _ h _ => h, hsub, Nat.le_refl _, fun _ h => absurd h (Nat.not_lt_zero _), fun _ h => absurd h (Nat.not_lt_zero _)⟩
        exact ((RelL.drop off g4).take len).keeps _ hbare
    · intro j u hu
      simp only [View.callee, hgd]
      rw [List.getElem?_take] at hu
      split at hu
      · rw [List.getElem?_drop] at hu
        rw [Nat.add_assoc]
        exact g5 _ _ hu
      · cases hu
  · intro i i' ob ob' h1 h1' l1 l2 hbb
    obtain ⟨o, off, hb, hgd⟩ := hget i ob h1
    obtain ⟨o', off', hb', hgd'⟩ := hget i' ob' h1'
    simp only [View.callee, hgd, hgd'] at hbb
    obtain ⟨ds, ver, esz, flat, own, len, esz', q1, _⟩ := href i o off hb
    obtain ⟨ds', ver', esz'', flat', own', len', esz''', q1', _⟩ := href i' o' off' hb'
    have := ho.inj o o' _ _ q1 q1' rfl rfl hbb
    subst this
    exact nodup_get hnd (by rw [List.getElem?_map, hb]; rfl) (by rw [List.getElem?_map, hb']; rfl)
/-! ### what comes back -/
mutual
def AV.noRow : AV → Bool
  | .row .. | .clip .. | .radr .. => false
  | .agg cs => noRowL cs
  | .tup cs => noRowL cs
  | .func _ x y => noRowL x && noRowL y
  | _ => true
def noRowL : List AV → Bool
  | [] => true
  | c :: cs => c.noRow && noRowL cs
end
mutual
/-- it names no object below k -/
def AV.ge (k : Nat) : AV → Bool
  | .ptr o _ _ => decide (k ≤ o)
  | .sl o _ _ _ _ => decide (k ≤ o)
  | .mp o _ => decide (k ≤ o)
  | .agg cs => geL k cs
  | .tup cs => geL k cs
  | .func _ x y => geL k x && geL k y
  | _ => true
def geL (k : Nat) : List AV → Bool
  | [] => true
  | c :: cs => c.ge k && geL k cs
end
mutual
def AV.up (k m : Nat) : AV → AV
  | .ptr o ver i => .ptr (m + (o - k)) ver i
  | .sl o ver off n full => .sl (m + (o - k)) ver off n full
  | .mp o ver => .mp (m + (o - k)) ver
  | .agg cs => .agg (upL k m cs)
  | .tup cs => .tup (upL k m cs)
  | .func f x y => .func f (upL k m x) (upL k m y)
  | c => c
def upL (k m : Nat) : List AV → List AV
  | [] => []
  | c :: cs => c.up k m :: upL k m cs
end
structure Ups (k m : Nat) (w : World) (H' J : View) : Prop where
  id : ∀ i, k ≤ i → i < H'.n → m + (i - k) < J.n ∧ J.blk (m + (i - k)) = H'.blk i ∧ J.off (m + (i - k)) = H'.off i ∧ J.cap (m + (i - k)) = H'.cap i ∧ J.ver (m + (i - k)) = H'.ver i
mutual
theorem RelV.up {w : World} {k m : Nat} {H' J : View} (hu : Ups k m w H' J) : ∀ (c : AV) {v : Value}, c.ge k = true → (c.noRow = true ∨ ∀ b, b < w.heap.size → J.wr b → H'.wr b) → RelV w c H' v → RelV w (c.up k m) J v
  | .any, _, _, _, _ => trivial
  | .int .., _, _, _, h => h
  | .bool .., _, _, _, h => h
  | .str .., _, _, _, h => h
  | .nilp, _, _, _, h => h
  | .nils, _, _, _, h => h
  | .nilFunc, _, _, _, h => h
  | .nilm, _, _, _, h => h
  | .row .., _, _, hr, h => by
    rcases hr with hr | hr
    · cases hr
    · exact plain_to hr rfl h
  | .clip .., _, _, hr, h => by
    rcases hr with hr | hr
    · cases hr
    · exact plain_to hr rfl h
  | .radr .., _, _, hr, h => by
    rcases hr with hr | hr
    · cases hr
    · exact plain_to hr rfl h
  | .ptr o ver i, _, hg, _, ⟨h1, h2, h3⟩ => by
    have hg : k ≤ o := by simpa [AV.ge] using hg
    obtain ⟨q1, q2, q3, q4, q5⟩ := hu.id o hg h1
    refine ⟨q1, by rw [q5]; exact h2, fun he => ?_⟩
    rw [q2, q3]; exact h3 (q5 ▸ he)
  | .mp o ver, _, hg, _, ⟨h1, h2, h3⟩ => by
    have hg : k ≤ o := by simpa [AV.ge] using hg
    obtain ⟨q1, q2, q3, q4, q5⟩ := hu.id o hg h1
    refine ⟨q1, by rw [q5]; exact h2, fun he => ?_⟩
    rw [q2]; exact h3 (q5 ▸ he)
  | .sl o ver off n full, _, hg, _, ⟨h1, h2, h3⟩ => by
    have hg : k ≤ o := by simpa [AV.ge] using hg
    obtain ⟨q1, q2, q3, q4, q5⟩ := hu.id o hg h1
    refine ⟨q1, by rw [q5]; exact h2, fun he => ?_⟩
    rw [q2, q3, q4]; exact h3 (q5 ▸ he)
  | .agg cs, _, hg, hr, ⟨vs, e, h⟩ => ⟨vs, e, RelL.up hu cs (by simpa [AV.ge] using hg) (hr.imp_left (by simp [AV.noRow])) h⟩
  | .tup cs, _, hg, hr, ⟨vs, e, h⟩ => ⟨vs, e, RelL.up hu cs (by simpa [AV.ge] using hg) (hr.imp_left (by simp [AV.noRow])) h⟩
  | .func _ x y, _, hg, hr, ⟨xs, ys, e, h, h'⟩ => by
    simp only [AV.ge, Bool.and_eq_true] at hg
    exact ⟨xs, ys, e, RelL.up hu x hg.1 (hr.imp_left fun q => by simp only [AV.noRow, Bool.and_eq_true] at q; exact q.1) h, RelL.up hu y hg.2 (hr.imp_left fun q => by simp only [AV.noRow, Bool.and_eq_true] at q; exact q.2) h'⟩
theorem RelL.up {w : World} {k m : Nat} {H' J : View} (hu : Ups k m w H' J) : ∀ (cs : List AV) {vs : List Value}, geL k cs = true → (noRowL cs = true ∨ ∀ b, b < w.heap.size → J.wr b → H'.wr b) → RelL w cs H' vs → RelL w (upL k m cs) J vs
  | [], _, _, _, h => h
  | c :: cs, _, hg, hr, ⟨v, vs, e, h, h'⟩ => by
    simp only [geL, Bool.and_eq_true] at hg
    exact ⟨v, vs, e, RelV.up hu c hg.1 (hr.imp_left fun q => by simp only [noRowL, Bool.and_eq_true] at q; exact q.1) h, RelL.up hu cs hg.2 (hr.imp_left fun q => by simp only [noRowL, Bool.and_eq_true] at q; exact q.2) h'⟩
end
end Go.Lens

set_option linter.unusedVariables false
set_option linter.unusedSimpArgs false
namespace Go.Lens
open Go Go.RowKit
def mergeO : AObj → Nat → AObj → AObj
  | .cells ds ver esz flat own, off, .cells ds' _ _ _ _ => .cells (splice ds off ds') ver esz flat own
  | o, _, _ => o
def wb (objs : List AObj) : List (Nat × Nat) → List AObj → List AObj
  | (o, off) :: B, o' :: O => wb (objs.set o (mergeO (objs.getD o .dead) off o')) B O
  | _, _ => objs
def killL (objs : List AObj) : List Nat → List AObj
  | [] => objs
  | o :: L => killL (objs.set o .dead) L
theorem wb_length : ∀ (B : List (Nat × Nat)) (O : List AObj) (objs : List AObj), (wb objs B O).length = objs.length
  | [], _, _ => by simp [wb]
  | _ :: _, [], _ => by simp [wb]
  | (o, off) :: B, o' :: O, objs => by simp [wb, wb_length B O]
theorem killL_length : ∀ (L : List Nat) (objs : List AObj), (killL objs L).length = objs.length
  | [], _ => rfl
  | o :: L, objs => by simp [killL, killL_length L]
theorem killL_get : ∀ (L : List Nat) (objs : List AObj) (x : Nat), (killL objs L)[x]? = if x ∈ L ∧ x < objs.length then some .dead else objs[x]?
  | [], objs, x => by simp [killL]
  | o :: L, objs, x => by
    rw [killL, killL_get L]
    by_cases hx : x ∈ L ∧ x < objs.length
    · rw [if_pos (by simpa using hx), if_pos ⟨List.mem_cons_of_mem _ hx.1, hx.2⟩]
    · rw [if_neg (by simpa using hx)]
      by_cases e : x = o
      · subst e
        by_cases hl : x < objs.length
        · rw [if_pos ⟨by simp, hl⟩, List.getElem?_set_self hl]
        · rw [if_neg (fun h => hl h.2), List.getElem?_eq_none (by simpa using hl), List.getElem?_eq_none (by simpa using hl)]
      · rw [List.getElem?_set_ne (fun h => e h.symm), if_neg]
        rintro ⟨h1, h2⟩
        rcases List.mem_cons.1 h1 with h1 | h1
        · exact e h1
        · exact hx ⟨h1, h2⟩
theorem wb_ne : ∀ (B : List (Nat × Nat)) (O objs : List AObj) (x : Nat), x ∉ B.map (·.1) → (wb objs B O)[x]? = objs[x]?
  | [], _, _, _, _ => by simp [wb]
  | _ :: _, [], _, _, _ => by simp [wb]
  | (o, off) :: B, o' :: O, objs, x, h => by
    simp only [List.map_cons, List.mem_cons, not_or] at h
    rw [wb, wb_ne B O _ x h.2, List.getElem?_set_ne (fun e => h.1 e.symm)]
theorem wb_eq : ∀ (B : List (Nat × Nat)) (O objs : List AObj), (B.map (·.1)).Nodup → ∀ (i o off : Nat) (o' ob : AObj), B[i]? = some (o, off) → O[i]? = some o' → objs[o]? = some ob → (wb objs B O)[o]? = some (mergeO ob off o')
  | (x, off') :: B, y :: O, objs, hnd, 0, o, off, o', ob, hB, hO, hob => by
    simp at hB hO
    obtain ⟨rfl, rfl⟩ := hB
    subst hO
    simp only [List.map_cons, List.nodup_cons] at hnd
    have hlt := (List.getElem?_eq_some_iff.1 hob).1
    rw [wb, wb_ne B O _ x hnd.1, List.getElem?_set_self hlt]
    simp [hob]
  | (x, off') :: B, y :: O, objs, hnd, i + 1, o, off, o', ob, hB, hO, hob => by
    simp only [List.map_cons, List.nodup_cons] at hnd
    have hB' : B[i]? = some (o, off) := by simpa using hB
    have hne : o ≠ x := by
      rintro rfl
      exact hnd.1 (List.mem_map.2 ⟨(o, off), List.mem_of_getElem? hB', rfl⟩)
    rw [wb]
    refine wb_eq B O _ hnd.2 i o off o' ob hB' (by simpa using hO) ?_
    rw [List.getElem?_set_ne (fun e => hne e.symm)]; exact hob
  | [], _, _, _, _, _, _, _, _, hB, _, _ => by simp at hB
  | _ :: _, [], _, _, _, _, _, _, _, _, hO, _ => by simp at hO
theorem Outside.mono {w w' : World} {b off n off' n' : Nat} (h : Outside w w' b off n) (h1 : off' ≤ off) (h2 : off + n ≤ off' + n') : Outside w w' b off' n' := by
  intro c e hc
  obtain ⟨c0, g1, g2, g3⟩ := h c e hc
  exact ⟨c0, g1, g2, fun j hj => g3 j (by omega)⟩
def AObj.noRow : AObj → Bool
  | .cells cs _ _ _ _ => noRowL cs
  | .kv _ es => noRowL (es.map (·.2))
  | _ => true
def AObj.ge (k : Nat) : AObj → Bool
  | .cells cs _ _ false _ => geL k cs
  | _ => true
def AObj.up (k m : Nat) : AObj → AObj
  | .cells cs ver esz false own => .cells (upL k m cs) ver esz false own
  | o => o
/-- what came back of what was handed over to be written -/
def Same (O O' : List AObj) : Prop := ∀ (i : Nat) (ds : List AV) (ver esz : Nat) (flat : Bool) (own : Option TypeId), O[i]? = some (AObj.cells ds ver esz flat own) →
  ∃ (ds' : List AV) (ver' esz' : Nat) (own' : Option TypeId), O'[i]? = some (AObj.cells ds' ver' esz' flat own') ∧ (flat = false → plainL ds' = true)
mutual
theorem RelV.bb {w : World} {H J : View} : ∀ (c : AV) {v : Value}, (c.noRow = true ∨ ∀ b, b < w.heap.size → J.wr b → H.wr b) → RelV w c H.bare v → RelV w c J.bare v
  | .any, _, _, _ => trivial
  | .int .., _, _, h => h
  | .bool .., _, _, h => h
  | .str .., _, _, h => h
  | .nilp, _, _, h => h
  | .nils, _, _, h => h
  | .nilFunc, _, _, h => h
  | .nilm, _, _, h => h
  | .row .., _, hr, h => by
    rcases hr with hr | hr
    · cases hr
    · exact plain_to (H' := J.bare) hr rfl h
  | .clip .., _, hr, h => by
    rcases hr with hr | hr
    · cases hr
    · exact plain_to (H' := J.bare) hr rfl h
  | .radr .., _, hr, h => by
    rcases hr with hr | hr
    · cases hr
    · exact plain_to (H' := J.bare) hr rfl h
  | .ptr .., _, _, ⟨h, _⟩ => absurd h (Nat.not_lt_zero _)
  | .mp .., _, _, ⟨h, _⟩ => absurd h (Nat.not_lt_zero _)
  | .sl .., _, _, ⟨h, _⟩ => absurd h (Nat.not_lt_zero _)
  | .agg cs, _, hr, ⟨vs, e, h⟩ => ⟨vs, e, RelL.bb cs (hr.imp_left (by simp [AV.noRow])) h⟩
  | .tup cs, _, hr, ⟨vs, e, h⟩ => ⟨vs, e, RelL.bb cs (hr.imp_left (by simp [AV.noRow])) h⟩
  | .func _ x y, _, hr, ⟨xs, ys, e, h, h'⟩ =>
    ⟨xs, ys, e, RelL.bb x (hr.imp_left fun q => by simp only [AV.noRow, Bool.and_eq_true] at q; exact q.1) h, RelL.bb y (hr.imp_left fun q => by simp only [AV.noRow, Bool.and_eq_true] at q; exact q.2) h'⟩
theorem RelL.bb {w : World} {H J : View} : ∀ (cs : List AV) {vs : List Value}, (noRowL cs = true ∨ ∀ b, b < w.heap.size → J.wr b → H.wr b) → RelL w cs H.bare vs → RelL w cs J.bare vs
  | [], _, _, h => h
  | c :: cs, _, hr, ⟨v, vs, e, h, h'⟩ =>
    ⟨v, vs, e, RelV.bb c (hr.imp_left fun q => by simp only [noRowL, Bool.and_eq_true] at q; exact q.1) h, RelL.bb cs (hr.imp_left fun q => by simp only [noRowL, Bool.and_eq_true] at q; exact q.2) h'⟩
end
def View.after (H H' : View) (m k n : Nat) (kl : Bool) : View :=
  { n := m + (n - k), blk := fun o => if o < m then H.blk o else H'.blk (o - m + k), off := fun o => if o < m then H.off o else H'.off (o - m + k),
    cap := fun o => if o < m then H.cap o else H'.cap (o - m + k), ver := fun o => if o < m then H.ver o else H'.ver (o - m + k), wr := fun b => if kl then H'.wr b else H.wr b ∨ H'.wr b }
theorem after_call {C : Ctx} {H H' : View} {st : St} {a : Act} {w w' : World} {avs args : List AV} {L : List Nat} {B : List (Nat × Nat)} {O O' : List AObj} {r : AV} {v : Value} {kl : Bool}
    (hi : Inv C H st a w) (hp : PassL st.objs 0 avs args L B O) (hnd : (B.map (·.1)).Nodup) (hdis : ∀ o, o ∈ L → o ∉ B.map (·.1))
    (hmine : kl = true → ∀ o, o ∈ L → ∃ (ds : List AV) (ver esz : Nat) (e : TypeId), st.objs[o]? = some (AObj.cells ds ver esz true (some e)))
    (hl : Left w (H.callee L B) O w' H' O') (hsame : Same O O') (hr : RelV w' r H' v) (hge : r.ge B.length = true) (hgeO : ∀ i ob, B.length ≤ i → O'[i]? = some ob → ob.ge B.length = true)
    (hkl : kl = true ∨ (r.noRow = true ∧ ∀ ob ∈ O', ob.noRow = true)) :
    ∃ J, Inv C J ⟨st.env, wb (if kl then killL st.objs L else st.objs) B O' ++ (O'.drop B.length).map (AObj.up B.length st.objs.length)⟩ a w' ∧ RelV w' (r.up B.length st.objs.length) J v := by
  generalize hm : st.objs.length = m
  generalize hk : B.length = k at *
  obtain ⟨hBO, href⟩ := hp.refs
  have hnm : H.n = m := hi.objs.n.trans hm
  have hOO := hl.len
  let J := H.after H' m k O'.length kl
  have hc := hi.objs.callee hp hnd hdis
  have hsz := hl.size
  -- the writable blocks
  have hwc : ∀ b, b < w.heap.size → (H'.wr b ↔ (H.wr b ∧ ∀ o, o ∈ L → b ≠ H.blk o)) := hl.wr
  have hJold : ∀ b, b < w.heap.size → J.wr b → H.wr b := by
    intro b hb hw
    simp only [J, View.after] at hw
    split at hw
    · exact ((hwc b hb).1 hw).1
    · rcases hw with hw | hw
      · exact hw
      · exact ((hwc b hb).1 hw).1
  have hJH' : kl = true → ∀ b, b < w'.heap.size → J.wr b → H'.wr b := by
    intro he b _ hw
    simpa [J, View.after, he] using hw
  have hH'J : ∀ b, H'.wr b → J.wr b := by
    intro b hw
    simp only [J, View.after]
    split
    · exact hw
    · exact .inr hw
  -- the blocks of what was handed over
  have hOlive : ∀ (i : Nat) (ob : AObj), O[i]? = some ob → ∃ (o off : Nat) (ds : List AV) (ver esz : Nat) (flat : Bool) (own : Option TypeId), B[i]? = some (o, off) ∧ st.objs[o]? = some (AObj.cells ds ver esz flat own) ∧ (H.callee L B).blk i = H.blk o := by
    intro i ob hob
    have hlt : i < B.length := by rw [hBO]; exact (List.getElem?_eq_some_iff.1 hob).1
    have hB : B[i]? = some ((B[i]).1, (B[i]).2) := by simp [hlt]
    obtain ⟨ds, ver, esz, flat, own, len, esz', h1, _⟩ := href i _ _ hB
    exact ⟨_, _, ds, ver, esz, flat, own, hB, h1, by simp [View.callee, hlt]⟩
  have hkept : ∀ b, b < w.heap.size → (∀ o ob, o ∈ B.map (·.1) → st.objs[o]? = some ob → ob.live = true → b ≠ H.blk o) → w'.heap[b]? = w.heap[b]? := by
    intro b hb hne
    refine hl.frame b hb fun i ob hob hlv => ?_
    obtain ⟨o, off, ds, ver, esz, flat, own, h1, h2, h3⟩ := hOlive i ob hob
    rw [h3]
    exact hne o _ (List.mem_map.2 ⟨(o, off), List.mem_of_getElem? h1, rfl⟩) h2 rfl
  have hK : Keeps w H w' J := by
    refine ⟨fun ad u hcell hx => ?_, hJold, ?_, fun o ho => ?_, fun o ho hv => ?_⟩
    · rw [World.cell?_of_block (w := w) (hkept _ (World.block_lt_of_cell? w ad hcell) fun o ob ho hob hlv e => hx (e ▸ hi.objs.wr_blk hob hlv))]
      exact hcell
    · show H.n ≤ m + (O'.length - k); omega
    · have : o < m := by omega
      simp [J, View.after, this]
    · have : o < m := by omega
      simp [J, View.after, this]
  have hups : Ups k m w' H' J := by
    refine ⟨fun i h1 h2 => ?_⟩
    have hn' := hl.ok.n
    have e1 : ¬ (m + (i - k) < m) := by omega
    have e2 : m + (i - k) - m + k = i := by omega
    refine ⟨?_, ?_⟩
    · show m + (i - k) < m + (O'.length - k); omega
    · simp only [J, View.after, if_neg e1, e2, and_self]
  have hrow : r.noRow = true ∨ ∀ b, b < w'.heap.size → J.wr b → H'.wr b := by
    rcases hkl with h | h
    · exact .inr (hJH' h)
    · exact .inl h.1
  refine ⟨J, ?_, hr.up hups r hge hrow⟩
  -- the objects
  let X := if kl then killL st.objs L else st.objs
  have hXlen : X.length = m := by simp only [X]; split <;> simp [killL_length, hm]
  have hX : ∀ o ob, X[o]? = some ob → ob = .dead ∨ (st.objs[o]? = some ob ∧ (kl = true → o ∉ L)) := by
    intro o ob hob
    simp only [X] at hob
    split at hob
    · rw [killL_get] at hob
      split at hob
      · injection hob with hob; exact .inl hob.symm
      · rename_i hno
        refine .inr ⟨hob, fun _ hoL => hno ⟨hoL, (List.getElem?_eq_some_iff.1 hob).1⟩⟩
    · rename_i hkf
      exact .inr ⟨hob, fun h => absurd h hkf⟩
  have hXB : ∀ o ob, o ∈ B.map (·.1) → st.objs[o]? = some ob → X[o]? = some ob := by
    intro o ob hoB hob
    simp only [X]
    split
    · rw [killL_get, if_neg]
      · exact hob
      · exact fun h => hdis o h.1 hoB
    · exact hob
  -- each object of the new store
  have hget : ∀ (o : Nat) (ob : AObj), (wb X B O' ++ (O'.drop k).map (AObj.up k m))[o]? = some ob → ob = .dead ∨
      (o < m ∧ o ∉ B.map (·.1) ∧ st.objs[o]? = some ob ∧ (kl = true → o ∉ L)) ∨
      (o < m ∧ ∃ (i off : Nat) (ds : List AV) (ver esz : Nat) (flat : Bool) (own : Option TypeId) (len esz0 : Nat) (ds' : List AV) (ver' esz' : Nat) (own' : Option TypeId), B[i]? = some (o, off) ∧ st.objs[o]? = some (AObj.cells ds ver esz flat own) ∧ off + len ≤ ds.length ∧ ds'.length = len ∧
        O[i]? = some (AObj.cells ((ds.drop off).take len) 0 esz0 flat none) ∧ O'[i]? = some (AObj.cells ds' ver' esz' flat own') ∧ (flat = false → plainL ds' = true) ∧ ob = .cells (splice ds off ds') ver esz flat own) ∨
      (m ≤ o ∧ ∃ ob', O'[o - m + k]? = some ob' ∧ ob = ob'.up k m) := by
    intro o ob hob
    rw [List.getElem?_append] at hob
    rw [wb_length, hXlen] at hob
    split at hob
    · rename_i hlt
      by_cases hoB : o ∈ B.map (·.1)
      · obtain ⟨p, hpB, hpo⟩ := List.mem_map.1 hoB
        obtain ⟨i, hiB⟩ := List.getElem?_of_mem hpB
        obtain ⟨x, off⟩ := p
        simp only at hpo
        subst hpo
        obtain ⟨ds, ver, esz, flat, own, len, esz0, q1, q2, q3, q4⟩ := href i x off hiB
        obtain ⟨ds', ver', esz', own', q5, q6⟩ := hsame i _ _ _ _ _ q3
        have hlen := hl.lens i _ _ _ _ _ q3 _ _ _ _ _ q5
        have := wb_eq B O' X hnd i x off _ _ hiB q5 (hXB x _ hoB q1)
        rw [this] at hob
        injection hob with hob
        refine .inr (.inr (.inl ⟨hlt, i, off, ds, ver, esz, flat, own, len, esz0, ds', ver', esz', own', hiB, q1, q2, ?_, q3, q5, q6, hob.symm⟩))
        rw [hlen]; simp; omega
      · rw [wb_ne B O' X o hoB] at hob
        rcases hX o ob hob with h | ⟨h1, h2⟩
        · exact .inl h
        · exact .inr (.inl ⟨hlt, hoB, h1, h2⟩)
    · rename_i hge'
      rw [List.getElem?_map] at hob
      obtain ⟨ob', h1, h2⟩ := Option.map_eq_some_iff.1 hob
      rw [List.getElem?_drop] at h1
      exact .inr (.inr (.inr ⟨by omega, ob', by rw [Nat.add_comm]; exact h1, h2.symm⟩))
  have hJo : ∀ o, o < m → J.blk o = H.blk o ∧ J.off o = H.off o ∧ J.cap o = H.cap o ∧ J.ver o = H.ver o := by
    intro o ho
    simp [J, View.after, ho]
  have hJn : ∀ o, m ≤ o → J.blk o = H'.blk (o - m + k) ∧ J.off o = H'.off (o - m + k) ∧ J.cap o = H'.cap (o - m + k) ∧ J.ver o = H'.ver (o - m + k) := by
    intro o ho
    simp [J, View.after, show ¬ o < m by omega]
  have hup : ∀ (ob : AObj), (ob.up k m).live = ob.live := by
    intro ob
    cases ob with
    | dead => rfl
    | iter => rfl
    | kv => rfl
    | slot => rfl
    | cells cs ver esz flat own => cases flat <;> rfl
  -- an object that is still alive: where it lies
  have hwhere : ∀ o ob, (wb X B O' ++ (O'.drop k).map (AObj.up k m))[o]? = some ob → ob.live = true →
      (o < m ∧ J.blk o = H.blk o ∧ J.blk o < w.heap.size ∧ ∃ ob0, st.objs[o]? = some ob0 ∧ ob0.live = true ∧ (ob.mine = true → ob0.mine = true)) ∨
      (m ≤ o ∧ w.heap.size ≤ J.blk o ∧ ∃ ob', O'[o - m + k]? = some ob' ∧ ob'.live = true ∧ J.blk o = H'.blk (o - m + k)) := by
    intro o ob hob hlv
    rcases hget o ob hob with rfl | ⟨h1, _, h3, _⟩ | ⟨h1, i, off, ds, ver, esz, flat, own, len, esz0, ds', ver', esz', own', q1, q2, q3, q4, q5, q6, q7, rfl⟩ | ⟨h1, ob', h2, rfl⟩
    · cases hlv
    · refine .inl ⟨h1, (hJo o h1).1, ?_, ob, h3, hlv, id⟩
      rw [(hJo o h1).1]; exact hi.objs.lt _ (hi.objs.wr_blk h3 hlv)
    · refine .inl ⟨h1, (hJo o h1).1, ?_, _, q2, rfl, ?_⟩
      · rw [(hJo o h1).1]; exact hi.objs.lt _ (hi.objs.wr_blk q2 rfl)
      · cases own <;> simp [AObj.mine]
    · rw [hup] at hlv
      refine .inr ⟨h1, ?_, ob', h2, hlv, (hJn o h1).1⟩
      rw [(hJn o h1).1]
      exact hl.new _ ob' (by omega) h2 hlv
  have hkm : C.k ≤ m := by have := hi.klen; omega
  refine ⟨hi.size, hi.defers, fun t av ht => (hi.env t av ht).keeps av hK, ⟨?_, ?_, ?_, ?_⟩, ?_, ?_, ?_, ?_, ?_, ?_, ?_, Nat.le_trans hi.le hsz, hl.os.trans hi.os, hl.tape.trans hi.tape, hl.output.trans hi.output, fun p hp t av ht => (hi.saved p hp t av ht).keeps av hK⟩
  · show m + (O'.length - k) = (wb X B O' ++ (O'.drop k).map (AObj.up k m)).length
    simp [wb_length, hXlen]
  · -- what each says of the world
    intro o ob hob
    rcases hget o ob hob with rfl | ⟨h1, h2, h3, h4⟩ | ⟨h1, i, off, ds, ver, esz, flat, own, len, esz0, ds', ver', esz', own', q1, q2, q3, q4, q5, q6, q7, rfl⟩ | ⟨h1, ob', h2, rfl⟩
    · trivial
    · by_cases hlv : ob.live = true
      · obtain ⟨b1, b2, b3, b4⟩ := hJo o h1
        have hblt := hi.objs.lt _ (hi.objs.wr_blk h3 hlv)
        refine (hi.objs.rel o ob h3).keeps hK b1 b2 b3 b4 (fun hw => ?_) (hkept _ hblt fun o' ob' ho' hob' hlv' e => ?_)
        · cases hq : kl with
          | false => simp only [J, View.after, hq]; exact .inl hw
          | true =>
            simp only [J, View.after, hq, if_true]
            refine (hwc _ hblt).2 ⟨hw, fun o' ho' e => ?_⟩
            obtain ⟨ds', ver', esz', own', hob'⟩ := hp.lent o' ho'
            have := hi.objs.inj o o' _ _ h3 hob' hlv rfl e
            subst this
            exact h4 hq ho'
        · have := hi.objs.inj o o' _ _ h3 hob' hlv hlv' e
          subst this
          exact h2 ho'
      · cases ob <;> first | trivial | (simp [AObj.live] at hlv; done) | (have := hi.objs.rel o _ h3; simp only [RelO] at this ⊢; rw [(hJo o h1).2.2.2]; exact this)
    · obtain ⟨b1, b2, b3, b4⟩ := hJo o h1
      obtain ⟨g1, g2, vs, c, e, g3, g4, g5, g6⟩ := hi.objs.rel o _ q2
      obtain ⟨f1, f2, us, c', e', f3, f4, f5, f6⟩ := hl.ok.rel i _ q6
      have hilt : i < B.length := (List.getElem?_eq_some_iff.1 q1).1
      have hgd : B.getD i (0, 0) = (o, off) := by simp [q1]
      obtain ⟨d1, d2, d3⟩ := hl.old i _ q5 rfl
      have hb1 : H'.blk i = H.blk o := by rw [d1]; simp only [View.callee, hgd]
      have hb2 : H'.off i = H.off o + off := by rw [d2]; simp only [View.callee, hgd]
      rw [hb1] at f3
      have hout := hl.out i _ _ _ _ _ q5
      have hcb : (H.callee L B).blk i = H.blk o := by simp only [View.callee, hgd]
      have hco : (H.callee L B).off i = H.off o + off := by simp only [View.callee, hgd]
      rw [hcb, hco] at hout
      obtain ⟨c0, o1, o2, o3⟩ := hout c' e' f3
      rw [g3] at o1
      injection o1 with o1
      injection o1 with o1 o1e
      subst o1; subst o1e
      have hlen := f4.length
      have hlenv := g4.length
      have hdl : ((ds.drop off).take len).length = len := by simp; omega
      have hwo : J.wr (H.blk o) := hH'J _ (hb1 ▸ f2)
      refine ⟨b4.trans g1, by rw [b1]; exact hwo, splice vs off us, c', e, by rw [b1]; exact f3, ?_, ?_, ?_⟩
      · -- the cells
        have k1 : RelL w' ds (J.flatIf flat) vs := g4.keeps _ (hK.flatIf flat)
        have k2 : RelL w' ds' (J.flatIf flat) us := by
          have hrw : noRowL ds' = true ∨ ∀ b, b < w'.heap.size → J.wr b → H'.wr b := by
            rcases hkl with h | h
            · exact .inr (hJH' h)
            · exact .inl (h.2 _ (List.mem_of_getElem? q6))
          have hb : RelL w' ds' H'.bare us := by
            cases flat
            · exact f4.bare ds' (q7 rfl)
            · exact f4
          exact RelL.keeps ds' ⟨fun _ _ h _ => h, fun _ _ h => by cases flat <;> exact h, by cases flat <;> simp [View.flatIf], fun _ h => absurd h (Nat.not_lt_zero _), fun _ h => absurd h (Nat.not_lt_zero _)⟩ (RelL.bb ds' (J := J) hrw hb)
        exact k1.splice k2 off
      · intro j u hu
        rw [b2]
        rw [get_splice (by omega)] at hu
        split at hu
        · rename_i hj
          have := f5 (j - off) u hu
          rw [hb2] at this
          rw [show H.off o + j = H.off o + off + (j - off) by omega]; exact this
        · rename_i hj
          rw [o3 _ (by rw [hdl]; omega)]
          exact g5 j u hu
      · intro t ht
        rw [b2, b3]
        obtain ⟨p1, p2, p3, p4, N, p5, p6⟩ := g6 t ht
        refine ⟨p1, p2, by rw [o2]; exact p3, p4, N, ?_, p6⟩
        rw [← p5]
        simp only [Lens.splice, List.length_append, List.length_take, List.length_drop]
        omega
    · obtain ⟨b1, b2, b3, b4⟩ := hJn o h1
      have hr' := hl.ok.rel _ _ h2
      have hgo := hgeO _ _ (by omega) h2
      have hrw : ob'.noRow = true ∨ ∀ b, b < w'.heap.size → J.wr b → H'.wr b := by
        rcases hkl with h | h
        · exact .inr (hJH' h)
        · exact .inl (h.2 _ (List.mem_of_getElem? h2))
      cases ob' with
      | dead => trivial
      | slot => show J.ver o = 0; rw [b4]; exact hr'
      | iter s pos =>
        obtain ⟨g0, g1, g2, g3⟩ := hr'
        exact ⟨by rw [b4]; exact g0, by rw [b1]; exact hH'J _ g1, by rw [b2]; exact g2, by rw [b1]; exact g3⟩
      | kv k0 es =>
        obtain ⟨g0, g1, es', cl, g3, g4, g5⟩ := hr'
        exact ⟨by rw [b4]; exact g0, by rw [b1]; exact hH'J _ g1, es', cl, by rw [b1]; exact g3, g4, RelL.bb _ hrw g5⟩
      | cells cs ver esz flat own =>
        obtain ⟨g1, g2, vs, c, e, g3, g4, g5, g6⟩ := hr'
        cases flat with
        | false => exact ⟨by rw [b4]; exact g1, by rw [b1]; exact hH'J _ g2, vs, c, e, by rw [b1]; exact g3, g4.up hups cs hgo hrw, by rw [b2]; exact g5, by rw [b2, b3]; exact g6⟩
        | true =>
          refine ⟨by rw [b4]; exact g1, by rw [b1]; exact hH'J _ g2, vs, c, e, by rw [b1]; exact g3, ?_, by rw [b2]; exact g5, by rw [b2, b3]; exact g6⟩
          exact RelL.bb cs hrw g4
  · intro o o' ob ob' h1 h2 l1 l2 hbb
    rcases hwhere o ob h1 l1 with ⟨a1, a2, a3, ob0, a4, a5, _⟩ | ⟨a1, a2, ob0, a4, a5, a6⟩ <;> rcases hwhere o' ob' h2 l2 with ⟨c1, c2, c3, ob1, c4, c5, _⟩ | ⟨c1, c2, ob1, c4, c5, c6⟩
    · rw [a2, c2] at hbb
      exact hi.objs.inj o o' _ _ a4 c4 a5 c5 hbb
    · omega
    · omega
    · rw [a6, c6] at hbb
      have := hl.ok.inj _ _ _ _ a4 c4 a5 c5 hbb
      omega
  · intro b hb
    simp only [J, View.after] at hb
    split at hb
    · exact hl.ok.lt b hb
    · rcases hb with hb | hb
      · have := hi.objs.lt b hb; omega
      · exact hl.ok.lt b hb
  · intro b hb
    have hbw : b < w.heap.size := Nat.lt_of_lt_of_le hb hi.le
    rw [← hi.wr0 b hb]
    refine ⟨hJold b hbw, fun hw => ?_⟩
    cases hq : kl with
    | false => simp only [J, View.after, hq]; exact .inl hw
    | true =>
      simp only [J, View.after, hq, if_true]
      refine (hwc _ hbw).2 ⟨hw, fun o' ho' e => ?_⟩
      obtain ⟨ds', ver', esz', e', hob'⟩ := hmine hq o' ho'
      rcases hi.own o' _ hob' rfl with ⟨_, hm'⟩ | hge'
      · cases hm'
      · omega
  · show C.k ≤ (wb X B O' ++ (O'.drop k).map (AObj.up k m)).length
    rw [List.length_append, wb_length, hXlen]; omega
  · intro o ho
    obtain ⟨b1, b2, b3, _⟩ := hJo o (by omega)
    rw [b1, b2, b3]; exact hi.byref o ho
  · intro o cs ver esz flat own ho hob
    rcases hget o _ hob with h | ⟨h1, h2, h3, h4⟩ | ⟨h1, i, off, ds, ver0, esz1, flat0, own0, len, esz0, ds', ver', esz', own', q1, q2, q3, q4, q5, q6, q7, h⟩ | ⟨h1, _⟩
    · cases h
    · exact hi.lens o cs ver esz flat own ho h3
    · injection h with h
      rw [h, ← hi.lens o _ _ _ _ _ ho q2]
      simp only [Lens.splice, List.length_append, List.length_take, List.length_drop]
      omega
    · omega
  · intro o ho
    refine (hi.out o ho).trans ?_
    obtain ⟨p1, p2, _⟩ := hi.byref o ho
    by_cases hoB : o ∈ B.map (·.1)
    · obtain ⟨p, hpB, hpo⟩ := List.mem_map.1 hoB
      obtain ⟨i, hiB⟩ := List.getElem?_of_mem hpB
      obtain ⟨x, off⟩ := p
      simp only at hpo
      subst hpo
      obtain ⟨ds, ver, esz, flat, own, len, esz0, q1, q2, q3, q4⟩ := href i x off hiB
      have hgd : B.getD i (0, 0) = (x, off) := by simp [hiB]
      have hout := hl.out i _ _ _ _ _ q3
      have hcb : (H.callee L B).blk i = H.blk x := by simp only [View.callee, hgd]
      have hco : (H.callee L B).off i = H.off x + off := by simp only [View.callee, hgd]
      rw [hcb, hco] at hout
      rw [← p1, ← p2]
      refine hout.mono (by omega) ?_
      rw [← hi.lens x _ _ _ _ _ ho q1]
      simp; omega
    · refine Outside.of_eq (hkept _ (Nat.lt_of_lt_of_le (C.hk o ho) hi.le) fun o' ob' ho' hob' hlv' e => ?_) _ _
      rcases hi.own o' ob' hob' hlv' with ⟨h1, _⟩ | h1
      · rw [(hi.byref o' h1).1] at e
        have := C.hj o o' ho h1 e
        subst this
        exact hoB ho'
      · have := C.hk o ho; omega
  · intro o ob hob hlv
    rcases hwhere o ob hob hlv with ⟨a1, a2, a3, ob0, a4, a5, a6⟩ | ⟨a1, a2, _⟩
    · rcases hi.own o ob0 a4 a5 with ⟨h1, h2⟩ | h1
      · left
        refine ⟨h1, ?_⟩
        cases hq : ob.mine
        · rfl
        · rw [a6 hq] at h2; cases h2
      · right; rw [a2]; exact h1
    · right; exact Nat.le_trans hi.le a2
  · intro b hb hM
    have hbw : b < w.heap.size := Nat.lt_of_lt_of_le hb hi.le
    rw [hkept b hbw fun o' ob' ho' hob' hlv' e => ?_]
    · exact hi.frame b hb hM
    · rcases hi.own o' ob' hob' hlv' with ⟨h1, _⟩ | h1
      · exact hM ⟨o', h1, by rw [e]; exact (hi.byref o' h1).1⟩
      · omega
end Go.Lens

set_option linter.unusedVariables false
set_option linter.unusedSimpArgs false
namespace Go.Lens
open Go Go.RowKit
def evL (st : St) : List Operand → Option (List AV)
  | [] => some []
  | x :: xs => match ev st x, evL st xs with | some c, some cs => some (c :: cs) | _, _ => none
theorem evL_rel {C : Ctx} {H : View} {st : St} {a : Act} {w : World} (h : Inv C H st a w) : ∀ {xs : List Operand} {cs : List AV}, evL st xs = some cs → RelL w cs H (xs.map a.eval)
  | [], _, hx => by simp only [evL, Option.some.injEq] at hx; subst hx; rfl
  | x :: xs, cs, hx => by
    simp only [evL] at hx
    split at hx
    · rename_i c cs' h1 h2
      injection hx with hx; subst hx
      exact RelL_cons (ev_rel h h1) (evL_rel h h2)
    · cases hx
mutual
theorem AV.up_plain (k m : Nat) : ∀ (c : AV), c.plain = true → c.up k m = c
  | .any, _ => rfl
  | .int .., _ => rfl
  | .bool .., _ => rfl
  | .str .., _ => rfl
  | .nilp, _ => rfl
  | .nils, _ => rfl
  | .nilFunc, _ => rfl
  | .nilm, _ => rfl
  | .row .., _ => rfl
  | .clip .., _ => rfl
  | .radr .., _ => rfl
  | .ptr .., h => by cases h
  | .sl .., h => by cases h
  | .mp .., h => by cases h
  | .agg cs, h => by simp only [AV.up, upL_plain k m cs (by simpa [AV.plain] using h)]
  | .tup cs, h => by simp only [AV.up, upL_plain k m cs (by simpa [AV.plain] using h)]
  | .func _ x y, h => by
    simp only [AV.plain, Bool.and_eq_true] at h
    simp only [AV.up, upL_plain k m x h.1, upL_plain k m y h.2]
theorem upL_plain (k m : Nat) : ∀ (cs : List AV), plainL cs = true → upL k m cs = cs
  | [], _ => rfl
  | c :: cs, h => by
    simp only [plainL, Bool.and_eq_true] at h
    simp only [upL, AV.up_plain k m c h.1, upL_plain k m cs h.2]
end
mutual
theorem AV.ge_plain (k : Nat) : ∀ (c : AV), c.plain = true → c.ge k = true
  | .any, _ => rfl
  | .int .., _ => rfl
  | .bool .., _ => rfl
  | .str .., _ => rfl
  | .nilp, _ => rfl
  | .nils, _ => rfl
  | .nilFunc, _ => rfl
  | .nilm, _ => rfl
  | .row .., _ => rfl
  | .clip .., _ => rfl
  | .radr .., _ => rfl
  | .ptr .., h => by cases h
  | .sl .., h => by cases h
  | .mp .., h => by cases h
  | .agg cs, h => by simpa [AV.ge] using geL_plain k cs (by simpa [AV.plain] using h)
  | .tup cs, h => by simpa [AV.ge] using geL_plain k cs (by simpa [AV.plain] using h)
  | .func _ x y, h => by
    simp only [AV.plain, Bool.and_eq_true] at h
    simp only [AV.ge, geL_plain k x h.1, geL_plain k y h.2, Bool.and_self]
theorem geL_plain (k : Nat) : ∀ (cs : List AV), plainL cs = true → geL k cs = true
  | [], _ => rfl
  | c :: cs, h => by
    simp only [plainL, Bool.and_eq_true] at h
    simp only [geL, AV.ge_plain k c h.1, geL_plain k cs h.2, Bool.and_self]
end
theorem plainL_append {cs ds : List AV} : plainL (cs ++ ds) = (plainL cs && plainL ds) := by
  induction cs with
  | nil => rfl
  | cons c cs ih => simp [plainL, ih, Bool.and_assoc]
theorem Callable.run {P : Program} {f : FuncId} (h : Callable P f) (args : Array Value) (w : World) : (callFunc f args).run P w = .ok (.enter f args) w := by
  obtain ⟨fn, h1, h2, h3⟩ := h
  have h3' : ¬ (fn.name == "runtime.NumGoroutine") = true := by rw [h3]; simp
  unfold callFunc
  simp only [Sem.run_bind, run_program, Result.andThen_ok, h1, h2, if_neg h3', Bool.false_eq_true, if_false, Sem.run_pure]
theorem run_call {C : Ctx} {H : View} {st : St} {a : Act} {w : World} (hi : Inv C H st a w) {o : Oper} {x : Operand} {xs : Array Operand} {ts : Array TypeId} {f : FuncId} {fs cs avs : List AV}
    (hop : o.op = .call { callee := .value x, args := xs, argTypes := ts }) (hx : ev st x = some (.func (.func f) fs cs)) (hxs : evL st xs.toList = some avs) (hf : Callable C.P f) :
    ∃ vs, (execOp a.eval o).run C.P w = .ok (.enter f (List.toArray vs)) w ∧ RelL w (fs ++ avs ++ cs) H vs := by
  obtain ⟨us, us', e, h1, h2⟩ := ev_rel hi hx
  have h3 := evL_rel hi hxs
  refine ⟨us ++ xs.toList.map a.eval ++ us', ?_, (h1.append h3).append h2⟩
  simp only [execOp, hop, resolve, e, Deferred.ofValue, invoke, Sem.run_bind, Sem.run_pure, Result.andThen_ok]
  rw [hf.run]
  congr 2
  apply Array.ext'
  simp
theorem WL.call {C : Ctx} {ops : Array Oper} {o : Oper} {rest : List Oper} {st : St} {Q : Exit → St → Prop} {x : Operand} {xs : Array Operand} {ts : Array TypeId} {f : FuncId} {fs cs avs args : List AV}
    {L : List Nat} {B : List (Nat × Nat)} {O : List AObj} {Q' : AV → List AObj → Prop} (kl : Bool)
    (hs : Spec C.P f args O Q')
    (hop : o.op = .call { callee := .value x, args := xs, argTypes := ts }) (hx : ev st x = some (.func (.func f) fs cs)) (hxs : evL st xs.toList = some avs)
    (hp : PassL st.objs 0 (fs ++ avs ++ cs) args L B O) (hnd : (B.map (·.1)).Nodup) (hdis : ∀ o, o ∈ L → o ∉ B.map (·.1))
    (hmine : kl = true → ∀ o, o ∈ L → ∃ (ds : List AV) (ver esz : Nat) (e : TypeId), st.objs[o]? = some (AObj.cells ds ver esz true (some e)))
    (hg : gd ops st o = some true) (hd : ∀ t, o.dst = some t → t < C.nt)
    (h : ∀ r O', Q' r O' → Same O O' ∧ r.ge B.length = true ∧ (∀ i ob, B.length ≤ i → O'[i]? = some ob → ob.ge B.length = true) ∧ (kl = true ∨ (r.noRow = true ∧ ∀ ob ∈ O', ob.noRow = true)) ∧
      WL C ops rest ((⟨st.env, wb (if kl then killL st.objs L else st.objs) B O' ++ (O'.drop B.length).map (AObj.up B.length st.objs.length)⟩ : St).put o.dst (r.up B.length st.objs.length)) Q) :
    WL C ops (o :: rest) st Q := by
  intro a w ⟨H, hi⟩
  obtain ⟨vs, hrun, hrel⟩ := run_call hi hop hx hxs hs.1
  unfold wpList
  rw [gd_rel hg hi, if_pos rfl]
  refine .inl ?_
  unfold Oper.wp
  rw [hrun]
  simp only [Oper.upon]
  have hO := hi.objs.callee hp hnd hdis
  have hra : RelL w args (H.callee L B) vs := by
    refine hp.rel (Hc := H.callee L B) hi.objs (fun b _ hb => hb.1) [] rfl rfl (fun o ho hw => hw.2 o ho rfl) (fun i o off hio => ?_) hrel
    simp only [List.nil_append] at hio
    have hgd : B.getD i (0, 0) = (o, off) := by simp [hio]
    simp only [View.callee, hgd, and_self]
  refine (hs.2 _ w vs hO hra).mono fun e w' ⟨r, O', H', v, he, hq, hrv, hl⟩ => ?_
  subst he
  obtain ⟨g1, g2, g3, g4, g5⟩ := h r O' hq
  obtain ⟨J, k1, k2⟩ := after_call hi hp hnd hdis hmine hl g1 hrv g2 g3 g4
  exact g5 _ _ ⟨J, k1.put o.dst hd k2⟩
/-- a call whose body is walked where it stands, over the caller's own objects -/
theorem WL.inl {C : Ctx} {ops : Array Oper} {o : Oper} {rest : List Oper} {env : List (Nat × AV)} {objs : List AObj} {Q : Exit → St → Prop} {x : Operand} {xs : Array Operand} {ts : Array TypeId} {f : FuncId} {fs cs avs args : List AV} {fn : Func} {c : Code}
    (hf : C.P.funcs[f]? = some fn) (hb : fn.body = some c) (hname : (fn.name == "runtime.NumGoroutine") = false) {nt : Nat} (hnt : fn.ntmps = nt) {rs : List ResultVar} (hrs : fn.results.toList = rs)
    (hop : o.op = .call { callee := .value x, args := xs, argTypes := ts }) (hx : ev ⟨env, objs⟩ x = some (.func (.func f) fs cs)) (hxs : evL ⟨env, objs⟩ xs.toList = some avs) (ha : fs ++ avs ++ cs = args) (hlen : Nat.ble args.length nt = true)
    (hg : gd ops ⟨env, objs⟩ o = some true) (hd : ∀ t, o.dst = some t → t < C.nt)
    (h : ∀ tm, W { C with nt := nt, sv := (tm, env) :: C.sv } c ⟨envOf 0 args, objs⟩ (fun e st' => (e = .ret ∨ e = .normal) ∧ ∃ cs', resAV C.T st' rs = some cs' ∧ WL C ops rest ((⟨env, st'.objs⟩ : St).put o.dst (tupAV cs')) Q)) :
    WL C ops (o :: rest) ⟨env, objs⟩ Q := by
  subst hnt; subst hrs; subst ha
  intro a w ⟨H, hi⟩
  obtain ⟨vs, hrun, hrel⟩ := run_call hi hop hx hxs ⟨fn, hf, by simp [hb], hname⟩
  unfold wpList
  rw [gd_rel hg hi, if_pos rfl]
  refine .inl ?_
  unfold Oper.wp
  rw [hrun]
  simp only [Oper.upon]
  have hl := hrel.length
  have hlen' := Nat.le_of_ble_eq_true hlen
  have hinv : Inv { C with nt := fn.ntmps, sv := (a.tmps, env) :: C.sv } H ⟨envOf 0 (fs ++ avs ++ cs), objs⟩ { tmps := vs.toArray ++ Array.replicate (fn.ntmps - vs.toArray.size) undef, defers := [] } w := by
    refine ⟨?_, rfl, ?_, hi.objs, hi.wr0, hi.klen, hi.byref, hi.lens, hi.out, hi.own, hi.frame, hi.le, hi.os, hi.tape, hi.output, ?_⟩
    · simp; omega
    · intro t av ht
      obtain ⟨_, h2⟩ := look_envOf ht
      obtain ⟨v, hv, hrv⟩ := hrel.get t av (by simpa using h2)
      have hlt : t < vs.length := (List.getElem?_eq_some_iff.1 hv).1
      have : (vs.toArray ++ Array.replicate (fn.ntmps - vs.toArray.size) undef).getD t undef = v := by
        rw [Array.getD_eq_getD_getElem?, Array.getElem?_append_left (by simpa using hlt)]
        simp [hv]
      show RelV w av H ((vs.toArray ++ Array.replicate (fn.ntmps - vs.toArray.size) undef).getD t undef)
      rw [this]; exact hrv
    · intro p hp t av ht
      rcases List.mem_cons.1 hp with rfl | hp
      · exact hi.env t av ht
      · exact hi.saved p hp t av ht
  refine (calls_of_wp hf hb (R := fun e w' => ∃ (st' : St) (H' : View) (cs' : List AV) (v : Value), e = .returned v ∧ RelV w' (tupAV cs') H' v ∧ Inv C H' ⟨env, st'.objs⟩ a w' ∧ WL C ops rest ((⟨env, st'.objs⟩ : St).put o.dst (tupAV cs')) Q) ?_).mono fun e w' ⟨st', H', cs', v, he, hv, hi', hw⟩ => ?_
  · refine wp_mono (h a.tmps _ w ⟨H, hinv⟩) fun e a' w' ⟨st, ⟨he, cs', h1, h2⟩, H1, hi1⟩ => ?_
    obtain ⟨v, us, r1, r2, r3⟩ := results_run hi1 h1
    have hback : Inv C H1 ⟨env, st.objs⟩ a w' :=
      ⟨hi.size, hi.defers, fun t av ht => hi1.saved (a.tmps, env) (List.mem_cons_self ..) t av ht, hi1.objs, hi1.wr0, hi1.klen, hi1.byref, hi1.lens, hi1.out, hi1.own, hi1.frame, hi1.le, hi1.os, hi1.tape, hi1.output, fun p hp t av ht => hi1.saved p (List.mem_cons_of_mem _ hp) t av ht⟩
    have key : a'.defers = [] ∧ ∃ v, (results fn a'.tmps).run C.P w' = .ok v w' ∧ (∃ (st' : St) (H' : View) (cs' : List AV) (v' : Value), (Ending.returned v) = .returned v' ∧ RelV w' (tupAV cs') H' v' ∧ Inv C H' ⟨env, st'.objs⟩ a w' ∧ WL C ops rest ((⟨env, st'.objs⟩ : St).put o.dst (tupAV cs')) Q) :=
      ⟨hi1.defers, v, r1, st, H1, cs', v, rfl, by rw [r3]; exact tup_rel r2, hback, h2⟩
    rcases he with rfl | rfl
    · exact key
    · exact key
  · subst he
    exact hw _ _ ⟨H', hi'.put o.dst hd hv⟩
/-- a function of plain values that hands back a plain value -/
def Does (P : Program) (f : FuncId) (args : List AV) (r : AV) : Prop := Spec P f args [] fun r' os => r' = r ∧ os = []
theorem PassL.of_plain {objs : List AObj} : ∀ {cs : List AV}, plainL cs = true → PassL objs 0 cs cs [] [] []
  | [], _ => .nil
  | c :: cs, h => by
    simp only [plainL, Bool.and_eq_true] at h
    exact .plain h.1 (PassL.of_plain h.2)
theorem WL.fn {C : Ctx} {ops : Array Oper} {o : Oper} {rest : List Oper} {st : St} {Q : Exit → St → Prop} {x : Operand} {xs : Array Operand} {ts : Array TypeId} {f : FuncId} {fs cs avs : List AV} {r : AV}
    (hs : Does C.P f (fs ++ avs ++ cs) r)
    (hop : o.op = .call { callee := .value x, args := xs, argTypes := ts }) (hx : ev st x = some (.func (.func f) fs cs)) (hxs : evL st xs.toList = some avs)
    (hp : plainL (fs ++ avs ++ cs) = true) (hr : r.plain = true)
    (hg : gd ops st o = some true) (hd : ∀ t, o.dst = some t → t < C.nt)
    (h : WL C ops rest (st.put o.dst r) Q) : WL C ops (o :: rest) st Q := by
  refine WL.call true hs hop hx hxs (PassL.of_plain hp) (by simp) (by simp) (by simp) hg hd ?_
  rintro r' O' ⟨rfl, rfl⟩
  refine ⟨fun i _ _ _ _ _ hi => by simp at hi, AV.ge_plain _ _ hr, fun i ob _ hi => by simp at hi, .inl rfl, ?_⟩
  simp only [wb, killL, if_true, List.drop_nil, List.map_nil, List.append_nil, AV.up_plain _ _ _ hr]
  exact h
/-- arguments that are lent: they stay as they are, if what comes back cannot lead to them -/
theorem WL.fnL {C : Ctx} {ops : Array Oper} {o : Oper} {rest : List Oper} {st : St} {Q : Exit → St → Prop} {x : Operand} {xs : Array Operand} {ts : Array TypeId} {f : FuncId} {fs cs avs args : List AV} {r : AV} {L : List Nat}
    (hs : Does C.P f args r)
    (hop : o.op = .call { callee := .value x, args := xs, argTypes := ts }) (hx : ev st x = some (.func (.func f) fs cs)) (hxs : evL st xs.toList = some avs)
    (hp : PassL st.objs 0 (fs ++ avs ++ cs) args L [] []) (hr : r.plain = true) (hr' : r.noRow = true)
    (hg : gd ops st o = some true) (hd : ∀ t, o.dst = some t → t < C.nt)
    (h : WL C ops rest (st.put o.dst r) Q) : WL C ops (o :: rest) st Q := by
  refine WL.call false hs hop hx hxs hp (by simp) (by simp) (by simp) hg hd ?_
  rintro r' O' ⟨rfl, rfl⟩
  refine ⟨fun i _ _ _ _ _ hi => by simp at hi, AV.ge_plain _ _ hr, fun i ob _ hi => by simp at hi, .inr ⟨hr', by simp⟩, ?_⟩
  simp only [wb, Bool.false_eq_true, if_false, List.drop_nil, List.map_nil, List.append_nil, AV.up_plain _ _ _ hr]
  exact h
end Go.Lens

set_option linter.unusedVariables false
set_option linter.unusedSimpArgs false
namespace Go.Lens
open Go Go.RowKit
/-! ### conversions -/
/-! ### make -/
/-! ### append -/
end Go.Lens

set_option linter.unusedVariables false
set_option linter.unusedSimpArgs false
namespace Go.Lens
open Go Go.RowKit
/-- the operations that an operation waits for -/
def depsOf (o : Oper) : List Nat := (o.after.toList.filter fun e => Region.binds .any e).map (·.on)
def depEnv (ds : List Nat) (E : List AV) : List Nat → List (Nat × AV)
  | [] => []
  | j :: l => match ds[j]?, E[j]? with | some d, some c => (d, c) :: depEnv ds E l | _, _ => depEnv ds E l
def clean (ds : List Nat) : List (Nat × AV) → List (Nat × AV)
  | [] => []
  | p :: l => if ds.contains p.1 then clean ds l else p :: clean ds l
/-- does an operation come behind another one, at one or more removes? -/
def behind (ops : Array Oper) : Nat → Nat → Nat → Bool
  | 0, _, _ => false
  | f + 1, i, j => match ops[i]? with
    | none => false
    | some o => (depsOf o).contains j || (depsOf o).any fun k => behind ops f k j
/-- with each operation all that it waits for is listed -/
def Closed (ops : Array Oper) (listed : Array Bool) : Prop := ∀ (i : Nat) (o : Oper), ops[i]? = some o → listed.getD i false = true → ∀ j ∈ depsOf o, listed.getD j false = true
theorem Closed.behind {ops : Array Oper} {listed : Array Bool} (hc : Closed ops listed) {j : Nat} : ∀ (f i : Nat) (o : Oper), ops[i]? = some o → (∀ k ∈ depsOf o, listed.getD k false = true) → Lens.behind ops f i j = true → listed.getD j false = true
  | 0, _, _, _, _, h => by cases h
  | f + 1, i, o, ho, hd, h => by
    simp only [Lens.behind, ho, Bool.or_eq_true, List.any_eq_true, List.contains_iff_mem] at h
    rcases h with h | ⟨k, hk, h⟩
    · exact hd j h
    · cases f with
      | zero => cases h
      | succ f =>
        cases hk' : ops[k]? with
        | none => simp only [Lens.behind, hk'] at h; cases h
        | some o' => exact Closed.behind hc (f + 1) k o' hk' (hc k o' hk' (hd k hk)) h
theorem Closed.set {ops : Array Oper} {listed : Array Bool} (hc : Closed ops listed) {i : Nat} {o : Oper} (ho : ops[i]? = some o) (hd : ∀ k ∈ depsOf o, listed.getD k false = true) : Closed ops (listed.setIfInBounds i true) := by
  have hmono : ∀ k, listed.getD k false = true → (listed.setIfInBounds i true).getD k false = true := by
    intro k hk
    simp only [Array.getD_eq_getD_getElem?, Array.getElem?_setIfInBounds] at hk ⊢
    split
    · split
      · rfl
      · rename_i h1 h2; subst h1; simp [show ¬ i < listed.size from h2] at hk
    · exact hk
  intro x o' hx hl k hk
  by_cases e : x = i
  · subst e; rw [ho] at hx; injection hx with hx; subst hx
    exact hmono k (hd k hk)
  · refine hmono k (hc x o' hx ?_ k hk)
    simp only [Array.getD_eq_getD_getElem?, Array.getElem?_setIfInBounds] at hl ⊢
    rwa [if_neg (fun h => e h.symm)] at hl
theorem look_append {l r : List (Nat × AV)} {t : Nat} : look (l ++ r) t = (look l t).or (look r t) := by
  induction l with
  | nil => rfl
  | cons p l ih =>
    obtain ⟨k, v⟩ := p
    simp only [List.cons_append, look]
    split
    · rfl
    · exact ih
theorem look_clean {ds : List Nat} {env : List (Nat × AV)} {t : Nat} {v : AV} (h : look (clean ds env) t = some v) : t ∉ ds ∧ look env t = some v := by
  induction env with
  | nil => cases h
  | cons p l ih =>
    obtain ⟨k, c⟩ := p
    simp only [clean] at h
    split at h
    · rename_i hk
      obtain ⟨h1, h2⟩ := ih h
      refine ⟨h1, ?_⟩
      have : k ≠ t := fun e => h1 (by subst e; simpa using hk)
      simp [look, this, h2]
    · rename_i hk
      simp only [look] at h ⊢
      split at h
      · rename_i he
        have : k = t := by simpa using he
        subst this
        rw [if_pos (by simp)]
        exact ⟨by simpa using hk, h⟩
      · rename_i he
        obtain ⟨h1, h2⟩ := ih h
        rw [if_neg he]
        exact ⟨h1, h2⟩
/-- An operation alone, whatever else the frame holds. -/
def DrawStep (C : Ctx) (ops : Array Oper) (o : Oper) (env : List (Nat × AV)) (objs : List AObj) (c : AV) : Prop :=
  ∀ more, WL C ops [o] ⟨env ++ more, objs⟩ (fun e st' => e = .normal ∧ st' = St.put ⟨env ++ more, objs⟩ o.dst c)
def DrawSteps (C : Ctx) (ops : Array Oper) (ds : List Nat) (E : List AV) (env : List (Nat × AV)) (objs : List AObj) : List Oper → List AV → Prop
  | _, [] => True
  | [], _ :: _ => False
  | o :: os, c :: cs => DrawStep C ops o (depEnv ds E (depsOf o) ++ clean ds env) objs c ∧ DrawSteps C ops ds E env objs os cs
theorem DrawSteps.get {C : Ctx} {ops : Array Oper} {ds : List Nat} {E : List AV} {env : List (Nat × AV)} {objs : List AObj} : ∀ {os : List Oper} {cs : List AV}, DrawSteps C ops ds E env objs os cs →
    ∀ {i : Nat} {c : AV}, cs[i]? = some c → ∃ o, os[i]? = some o ∧ DrawStep C ops o (depEnv ds E (depsOf o) ++ clean ds env) objs c
  | o :: os, c :: cs, ⟨h, _⟩, 0, c', hc => by simp at hc; subst hc; exact ⟨o, rfl, h⟩
  | o :: os, c :: cs, ⟨_, h⟩, i + 1, c', hc => by simpa using DrawSteps.get h (i := i) (by simpa using hc)
  | [], _ :: _, h, _, _, _ => h.elim
  | _, [], _, _, _, hc => by simp at hc
theorem Rel.drew {C : Ctx} {st : St} {a : Act} {w : World} (h : Rel C st a w) : Rel C st a w.drew := by
  obtain ⟨H, h⟩ := h
  have hk := Keeps.drew w H
  refine ⟨H, h.move hk ⟨h.objs.n, fun o ob ho => ?_, h.objs.inj, h.objs.lt⟩ (fun _ _ => Iff.rfl) h.klen (fun _ _ => ⟨rfl, rfl, rfl⟩) h.lens (fun o ho => Outside.of_eq rfl _ _) h.own (fun _ _ _ => rfl) (Nat.le_refl _) rfl rfl rfl⟩
  have := h.objs.rel o ob ho
  cases ob with
  | dead => trivial
  | iter => exact this
  | kv k es =>
    obtain ⟨g1, g2, es', cl, g3, g4, g5⟩ := this
    exact ⟨g1, g2, es', cl, g3, g4, RelL.keeps _ hk.bare g5⟩
  | slot => exact this
  | cells cs ver esz flat own =>
    obtain ⟨g1, g2, vs, c, e, g3, g4, g5, g6⟩ := this
    exact ⟨g1, g2, vs, c, e, g3, g4.keeps cs (hk.flatIf flat), g5, g6⟩
/-- a frame that is known better -/
theorem Rel.env {C : Ctx} {st : St} {a : Act} {w : World} (h : Rel C st a w) {env : List (Nat × AV)} (he : ∀ t v, look env t = some v → look st.env t = some v) : Rel C ⟨env, st.objs⟩ a w := by
  obtain ⟨H, h⟩ := h
  exact ⟨H, h.size, h.defers, fun t av ht => h.env t av (he t av ht), h.objs, h.wr0, h.klen, h.byref, h.lens, h.out, h.own, h.frame, h.le, h.os, h.tape, h.output, h.saved⟩
theorem wpOp_of_WL {C : Ctx} {ops : Array Oper} {o : Oper} {st st' : St} {i : Nat} {a : Act} {w : World} {K : Act → World → Prop} {Q : Exit → Act → World → Prop} (hi : ops[i]? = some o)
    (h : WL C ops [o] st (fun e s => e = .normal ∧ s = st')) (hr : Rel C st a w) (hK : ∀ a w, Rel C st' a w → K a w) : wpOp C.P ops Q i K a w := by
  have h1 := h a w hr
  unfold wpList at h1
  unfold wpOp
  simp only [hi]
  have hno : ¬ LetsOut (Post C (fun e s => e = Exit.normal ∧ s = st')) := fun ⟨_, _, _, ⟨he, _⟩, _⟩ => by cases he
  have hnext : ∀ a w, wpList C.P ops (Post C (fun e s => e = Exit.normal ∧ s = st')) [] a w → K a w := fun a w ⟨s, ⟨_, hs⟩, hr⟩ => hK a w (hs ▸ hr)
  split
  · rename_i hw
    rw [if_pos hw] at h1
    rcases h1 with h1 | ⟨_, h1⟩
    · left
      unfold Oper.wp at h1 ⊢
      generalize (execOp a.eval o).run C.P w = r at h1 ⊢
      cases r with
      | ok n w' =>
        cases n <;> simp only [Oper.upon] at h1 ⊢ <;>
          first
            | exact hnext _ _ h1
            | exact Calls.mono h1 (fun e w'' he => by cases e <;> first | exact hnext _ _ he | exact absurd he hno | (obtain ⟨_, ⟨he, _⟩, _⟩ := he; cases he))
            | exact Rows.mono h1 (fun _ _ he => hnext _ _ he)
      | halt x w' => cases x <;> simp only [Oper.upon] at h1 ⊢ <;> (obtain ⟨_, ⟨he, _⟩, _⟩ := h1; cases he)
    · exact absurd h1 hno
  · rename_i hw
    rw [if_neg hw] at h1
    exact hnext _ _ h1
theorem mem_ready {md : Region.Mode} {ops : Array Oper} {listed : Array Bool} {i : Nat} (h : i ∈ Region.ready md ops listed) : i < ops.size ∧ listed.getD i true = false ∧ ∃ o, ops[i]? = some o ∧ ∀ e ∈ o.after.toList, Region.binds md e = true → listed.getD e.on false = true := by
  unfold Region.ready at h
  rw [List.mem_filter] at h
  obtain ⟨h1, h2⟩ := h
  rw [List.mem_range] at h1
  simp only [Bool.and_eq_true, Bool.not_eq_true'] at h2
  refine ⟨h1, h2.1, ops[i], by simp [h1], fun e he hb => ?_⟩
  have h3 := h2.2
  rw [Array.getElem?_eq_getElem h1] at h3
  simp only [Option.map_some, Option.getD_some, Array.all_eq_true'] at h3
  have := h3 e (by simpa using he)
  simp only [hb, Bool.not_true, Bool.false_or] at this
  exact this
theorem getD_set (l : Array Bool) (i j : Nat) (b d : Bool) : (l.setIfInBounds i b).getD j d = if i = j ∧ j < l.size then b else l.getD j d := by
  simp only [Array.getD_eq_getD_getElem?, Array.getElem?_setIfInBounds]
  by_cases h : i = j
  · subst h
    by_cases h2 : i < l.size
    · simp [h2]
    · simp [h2]
  · simp [h]
theorem W.draw_tail {C : Ctx} {ops : Array Oper} {Q : Exit → Act → World → Prop} {m0 : Nat} (hback : ∀ (i : Nat) (o : Oper), ops[i]? = some o → ∀ e ∈ o.after.toList, Region.binds .any e = true → e.on < i) (htail : ∀ i, i < ops.size → m0 ≤ i → ∀ j, j < i → behind ops 24 i j = true) : ∀ (fuel m : Nat) (listed : Array Bool) (a : Act) (w : World), m0 ≤ m → m ≤ ops.size → fuel = ops.size - m → listed.size = ops.size →
    (∀ j, j < ops.size → (listed.getD j true = true ↔ j < m)) → wpList C.P ops Q (ops.toList.drop m) a w → wpAny C.P .any ops Q fuel listed a w := by
  intro fuel
  have hready : ∀ m (listed : Array Bool), listed.size = ops.size → m0 ≤ m → (∀ j, j < ops.size → (listed.getD j true = true ↔ j < m)) → ∀ i ∈ Region.ready .any ops listed, i = m ∧ m < ops.size := by
    intro m listed hsz0 hm hl i hi
    obtain ⟨h1, h2, o, ho, h3⟩ := mem_ready hi
    have hge : m ≤ i := by
      rcases Nat.lt_or_ge i m with h | h
      · have := (hl i h1).2 h; rw [h2] at this; cases this
      · exact h
    refine ⟨?_, by omega⟩
    rcases Nat.lt_or_ge m i with hlt | h
    · have hcl : Closed ops listed := by
        intro x o' hx hlx k hk
        have hxs := (Array.getElem?_eq_some_iff.1 hx).1
        have hxm : x < m := (hl x hxs).1 (by
          by_cases hsz : x < listed.size
          · simpa [Array.getD, hsz] using hlx
          · simp [Array.getD, hsz])
        simp only [depsOf, List.mem_map, List.mem_filter] at hk
        obtain ⟨e, ⟨he1, he2⟩, rfl⟩ := hk
        have hb := hback x o' hx e he1 he2
        have h5 := (hl e.on (by omega)).2 (by omega)
        have : e.on < listed.size := by omega
        simpa [Array.getD, this] using h5
      have h4 := hcl.behind 24 i o ho (fun k hk => by
        simp only [depsOf, List.mem_map, List.mem_filter] at hk
        obtain ⟨e, ⟨he1, he2⟩, rfl⟩ := hk
        exact h3 e he1 he2) (htail i h1 (by omega) m hlt)
      have hms : m < ops.size := by omega
      have h5 : listed.getD m true = true := by
        by_cases hsz : m < listed.size
        · simpa [Array.getD, hsz] using h4
        · simp [Array.getD, hsz]
      have := (hl m hms).1 h5
      omega
    · omega
  induction fuel with
  | zero =>
    intro m listed a w hm hle hf hsz hl h
    have : m = ops.size := by omega
    subst this
    refine ⟨?_, ?_⟩
    · rw [List.eq_nil_iff_forall_not_mem]
      intro i hi
      have := hready _ listed hsz hm hl i hi
      omega
    · rw [List.drop_eq_nil_of_le (by simp)] at h
      exact h
  | succ fuel ih =>
    intro m listed a w hm hle hf hsz hl h
    have hlt : m < ops.size := by omega
    have hmem : m ∈ Region.ready .any ops listed ∨ m ∉ Region.ready .any ops listed := Classical.em _
    have hdrop : ops.toList.drop m = ops[m] :: ops.toList.drop (m + 1) := by
      rw [List.drop_eq_getElem_cons (by simpa using hlt)]; simp
    have hlm : listed.getD m true = false := by
      cases h1 : listed.getD m true with
      | false => rfl
      | true => have := (hl m hlt).1 h1; omega
    refine ⟨fun h0 => ?_, fun i hi => ?_⟩
    · -- m is ready
      exfalso
      have : m ∈ Region.ready .any ops listed := by
        unfold Region.ready
        rw [List.mem_filter, List.mem_range]
        refine ⟨hlt, ?_⟩
        simp only [hlm, Bool.not_false, Bool.true_and, Array.getElem?_eq_getElem hlt, Option.map_some, Option.getD_some, Array.all_eq_true']
        intro e he
        by_cases hb : Region.binds .any e = true
        · simp only [hb, Bool.not_true, Bool.false_or]
          have hback := hback m _ (Array.getElem?_eq_getElem hlt) e (by simpa using he) hb
          have h5 := (hl e.on (by omega)).2 hback
          have : e.on < listed.size := by omega
          simpa [Array.getD, this] using h5
        · simp [hb]
      rw [h0] at this; cases this
    · obtain ⟨rfl, _⟩ := hready m listed hsz hm hl i hi
      rw [hdrop] at h
      unfold wpList at h
      unfold wpOp
      simp only [Array.getElem?_eq_getElem hlt]
      have hnext : ∀ a w, wpList C.P ops Q (ops.toList.drop (i + 1)) a w → wpAny C.P .any ops Q fuel (listed.setIfInBounds i true) a w := fun a w hw =>
        ih (i + 1) _ a w (by omega) (by omega) (by omega) (by simp [hsz]) (fun j hj => by
          rw [getD_set]
          by_cases e : i = j
          · subst e; simp [hsz, hlt]
          · have := hl j hj
            simp only [e, false_and, if_false, this]; omega) hw
      split
      · rename_i hw
        rw [if_pos hw] at h
        exact h.imp (Oper.wp_mono hnext) id
      · rename_i hw
        rw [if_neg hw] at h
        exact hnext _ _ h
/-- the walk through a region that draws its order -/
def DrawFrom (C : Ctx) (ops : Array Oper) (ds : List Nat) (env : List (Nat × AV)) (objs : List AObj) (Q : Exit → St → Prop) : List Oper → List Nat → List AV → Prop
  | o :: os, _ :: dr, E => ∃ c, DrawStep C ops o (depEnv ds E (depsOf o) ++ clean ds env) objs c ∧ DrawFrom C ops ds env objs Q os dr (E ++ [c])
  | [], _ :: _, _ => False
  | l, [], E => WL C ops l ⟨ds.zip E ++ env, objs⟩ Q
theorem DrawFrom.step {C : Ctx} {ops : Array Oper} {ds : List Nat} {env : List (Nat × AV)} {objs : List AObj} {Q : Exit → St → Prop} {o : Oper} {os : List Oper} {d : Nat} {dr : List Nat} {E : List AV} {c : AV}
    (h : DrawStep C ops o (depEnv ds E (depsOf o) ++ clean ds env) objs c) (h' : DrawFrom C ops ds env objs Q os dr (E ++ [c])) : DrawFrom C ops ds env objs Q (o :: os) (d :: dr) E := ⟨c, h, h'⟩
theorem DrawFrom.done {C : Ctx} {ops : Array Oper} {ds : List Nat} {env : List (Nat × AV)} {objs : List AObj} {Q : Exit → St → Prop} {l : List Oper} {E : List AV}
    (h : WL C ops l ⟨ds.zip E ++ env, objs⟩ Q) : DrawFrom C ops ds env objs Q l [] E := by cases l <;> exact h
end Go.Lens

set_option linter.unusedVariables false
set_option linter.unusedSimpArgs false
namespace Go.Lens
open Go Go.RowKit
/-! ### weaker values -/
def Sub (c c' : AV) : Prop := ∀ (w : World) (H : View) (v : Value), RelV w c H v → RelV w c' H v
theorem Sub.nils : Sub .nils (.row [] 0) := by
  intro w H v h
  simp only [RelV] at h
  exact ⟨none, 0, [], h, Nat.le_refl _, rfl, fun hn => absurd rfl hn⟩
theorem Sub.any (c : AV) : Sub c .any := fun _ _ _ _ => trivial
/-! ### literals -/
/-! ### ranges over strings -/
/-! ### functions without a body -/
def Ext (P : Program) (f : FuncId) (args : List AV) (r : AV) : Prop :=
  ∀ (H : View) (w : World) (vs : List Value), RelL w args H vs → ∃ v, (callFunc f vs.toArray).run P w = .ok (.value v) w ∧ RelV w r H v
/-! ### equality -/
end Go.Lens

set_option linter.unusedVariables false
set_option linter.unusedSimpArgs false
namespace Go.Lens
open Go Go.RowKit
/-- the end of a function that hands back plain values -/
theorem fin {T : Tab} {rs : List ResultVar} {st : St} {cs cs' : List AV} {r : AV} (h : resAV T st rs = some cs) (hp : PackL st.objs 0 [] 0 cs cs' []) (hr : tupAV cs' = r) : Fin T rs 0 (fun r' os => r' = r ∧ os = []) .ret st :=
  ⟨.inl rfl, cs, cs', [], h, hp, List.nodup_nil, fun ob hob => by simp at hob, hr, by simp⟩
theorem Ext.of {P : Program} {f : FuncId} {fn : Func} {e : Array Value → Sem Value} (hf : P.funcs[f]? = some fn) (hb : fn.body.isNone = true) (hn : (fn.name == "runtime.NumGoroutine") = false) (hx : Extern.findNext fn = none) (he : Extern.find fn = some e)
    {args : List AV} {r : AV} (h : ∀ (H : View) (w : World) (vs : List Value), RelL w args H vs → ∃ v, (e vs.toArray).run P w = .ok v w ∧ RelV w r H v) : Ext P f args r := by
  intro H w vs hr
  obtain ⟨v, h1, h2⟩ := h H w vs hr
  refine ⟨v, ?_, h2⟩
  have hn' : ¬ (fn.name == "runtime.NumGoroutine") = true := by rw [hn]; simp
  unfold callFunc
  simp only [Sem.run_bind, run_program, Result.andThen_ok, hf, if_neg hn', hb, if_true, run_mark, hx, he, Sem.run_pure, h1]
/-- a call that is lent slices, which are kept -/
theorem sl {C : Ctx} {ops : Array Oper} {o : Oper} {rest : List Oper} {env : List (Nat × AV)} {objs : List AObj} {Q : Exit → St → Prop} {x : Operand} {xs : Array Operand} {ts : Array TypeId} {f : FuncId} {fs cs avs avs' args args' : List AV} {r : AV} {L : List Nat} {d : Nat}
    (hs : Does C.P f args' r)
    (hop : o.op = .call { callee := .value x, args := xs, argTypes := ts }) (hx : ev ⟨env, objs⟩ x = some (.func (.func f) fs cs)) (hxs : evL ⟨env, objs⟩ xs.toList = some avs) (ha : fs ++ avs ++ cs = avs')
    (hp : PassL objs 0 avs' args L [] []) (he : args = args') (hr : r.plain = true) (hr' : r.noRow = true)
    (hg : gd ops ⟨env, objs⟩ o = some true) (hd : o.dst = some d) (hlt : Nat.blt d C.nt = true)
    (h : WL C ops rest ⟨(d, r) :: env, objs⟩ Q) : WL C ops (o :: rest) ⟨env, objs⟩ Q := by
  subst ha; subst he
  exact WL.fnL hs hop hx hxs hp hr hr' hg (fun t ht => by rw [hd] at ht; injection ht with ht; subst ht; exact Nat.le_of_ble_eq_true hlt) (by rw [hd]; exact h)
/-! ### numbers from 0 on -/
/-! ### functions that write what they are handed -/
/-! ### short forms -/
set_option linter.unusedVariables false
variable {C : Ctx} {ops : Array Oper} {o : Oper} {rest : List Oper} {env : List (Nat × AV)} {objs : List AObj} {Q : Exit → St → Prop} {av : AV} {d : Nat}
end Go.Lens
