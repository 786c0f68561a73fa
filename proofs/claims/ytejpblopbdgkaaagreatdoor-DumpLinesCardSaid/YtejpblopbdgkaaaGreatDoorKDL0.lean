/- Lens, part 0: abstract values and what they say of a Go value in a world. The seat's types as a table, by program (wip/seat.py). Lens, part 1: the call's own store, and what an abstract state says of a frame and a world. Lens, part 2: constants; arithmetic on abstract values. Lens, part 3: one operation at a time: what it yields, what it does to the store. Lens, part 4: addresses, indexes, slices. Lens, part 5: new objects, stores. Lens, part 6: code. -/
import Derived.WalkKit
import Derived.Below
import Derived.Orders
import Derived.Test.YtejpblopbdgkaaaGreatDoorProg
import Derived.Laws.CopyRow
import Derived.Laws.AppendOwn
import Derived.Lib.Strings
import Derived.WalkLawsBesides
import Derived.Scope

namespace Go.Lens
open Go Go.RowKit
/-- An abstract value: what is known of a Go value, without addresses. `sl` and `ptr` name an object of the call's own store. -/
inductive AV where
  | any
  | int (k : IntKind) (n : Int)
  | bool (b : Bool)
  | str (s : List UInt8)
  | nilp
  | ptr (o ver i : Nat)
  | radr (cs : List AV)
  | nils
  | sl (o ver off n : Nat) (full : Bool)
  | row (cs : List AV) (n : Nat)
  | clip (cs : List AV) (n : Nat)
  | agg (cs : List AV)
  | tup (cs : List AV)
  | func (f : Fn) (x y : List AV)
  | nilFunc
  | nilm
  | mp (o ver : Nat)
  deriving Inhabited
/-- Where the objects lie. -/
structure View where
  n : Nat
  blk : Nat → Nat
  off : Nat → Nat
  cap : Nat → Nat
  ver : Nat → Nat
  wr : Nat → Prop
def View.bare (H : View) : View := { H with n := 0 }
@[simp] theorem View.bare_wr (H : View) : H.bare.wr = H.wr := rfl
@[simp] theorem View.bare_n (H : View) : H.bare.n = 0 := rfl
/-- the cells `vs` stand at address `a` -/
def At (w : World) (a : Addr) (vs : List Value) : Prop := ∀ j u, vs[j]? = some u → w.cell? (a.add j) = some u
mutual
def RelV (w : World) : AV → View → Value → Prop
  | .any, _, _ => True
  | .int k n, _, v => v = .int k n
  | .bool b, _, v => v = .bool b
  | .str s, _, v => v = .string ⟨s.toArray⟩
  | .nilp, _, v => v = .pointer none
  | .ptr o ver i, H, v => o < H.n ∧ ver ≤ H.ver o ∧ (H.ver o = ver → v = .pointer (some ⟨H.blk o, H.off o + i, none⟩))
  | .radr cs, H, v => ∃ a vs, v = .pointer (some a) ∧ RelL w cs H.bare vs ∧ (vs ≠ [] → At w a vs ∧ ¬ H.wr a.block)
  | .nils, _, v => v = .slice none 0 0
  | .sl o ver off n full, H, v => o < H.n ∧ ver ≤ H.ver o ∧ (H.ver o = ver → ∃ a c, v = .slice (some a) n c ∧ n ≤ c ∧
      (0 < n → a = ⟨H.blk o, H.off o + off, none⟩) ∧ (full = true → a = ⟨H.blk o, 0, none⟩ ∧ off = 0 ∧ c = H.cap o))
  | .row cs n, H, v => ∃ A c vs, v = .slice A n c ∧ n ≤ c ∧ RelL w cs H.bare vs ∧ (vs ≠ [] → ∃ a, A = some a ∧ At w a vs ∧ ¬ H.wr a.block)
  | .clip cs n, H, v => ∃ A vs, v = .slice A n n ∧ RelL w cs H.bare vs ∧ (vs ≠ [] → ∃ a, A = some a ∧ At w a vs ∧ ¬ H.wr a.block)
  | .agg cs, H, v => ∃ vs, v = .agg (List.toArray vs) ∧ RelL w cs H vs
  | .tup cs, H, v => ∃ vs, v = .tuple (List.toArray vs) ∧ RelL w cs H vs
  | .func f x y, H, v => ∃ xs ys, v = .func f (List.toArray xs) (List.toArray ys) ∧ RelL w x H xs ∧ RelL w y H ys
  | .nilFunc, _, v => v = .nilFunc
  | .nilm, _, v => v = .map none
  | .mp o ver, H, v => o < H.n ∧ ver ≤ H.ver o ∧ (H.ver o = ver → v = .map (some (H.blk o)))
def RelL (w : World) : List AV → View → List Value → Prop
  | [], _, vs => vs = []
  | c :: cs, H, vs => ∃ v vs', vs = v :: vs' ∧ RelV w c H v ∧ RelL w cs H vs'
end
theorem RelL_nil {w : World} {H : View} : RelL w [] H [] := rfl
theorem RelL_cons {w : World} {H : View} {c : AV} {cs : List AV} {v : Value} {vs : List Value} (h : RelV w c H v) (h' : RelL w cs H vs) : RelL w (c :: cs) H (v :: vs) := ⟨v, vs, rfl, h, h'⟩
theorem RelL.length {w : World} {H : View} : ∀ {cs : List AV} {vs : List Value}, RelL w cs H vs → cs.length = vs.length
 | [], _, h => by cases h; rfl
 | _ :: _, _, ⟨_, _, e, _, h⟩ => by subst e; simp [RelL.length h]
theorem RelL.get {w : World} {H : View} : ∀ {cs : List AV} {vs : List Value}, RelL w cs H vs → ∀ (j : Nat) (c : AV), cs[j]? = some c → ∃ v, vs[j]? = some v ∧ RelV w c H v
 | _ :: _, _, ⟨v, _, e, hv, _⟩, 0, c, hc => by subst e; simp at hc; subst hc; exact ⟨v, rfl, hv⟩
 | _ :: _, _, ⟨_, _, e, _, h⟩, j + 1, c, hc => by subst e; simpa using RelL.get h j c (by simpa using hc)
 | [], _, _, j, c, hc => by simp at hc
theorem RelL.of_get {w : World} {H : View} : ∀ {cs : List AV} {vs : List Value}, cs.length = vs.length → (∀ (j : Nat) (c : AV) (v : Value), cs[j]? = some c → vs[j]? = some v → RelV w c H v) → RelL w cs H vs
 | [], [], _, _ => rfl
 | c :: cs, v :: vs, hl, h => ⟨v, vs, rfl, h 0 c v rfl rfl, RelL.of_get (by simpa using hl) fun j c' v' hc hv => h (j + 1) c' v' (by simpa using hc) (by simpa using hv)⟩
 | [], _ :: _, hl, _ => by simp at hl
 | _ :: _, [], hl, _ => by simp at hl
theorem RelL.append {w : World} {H : View} : ∀ {cs ds : List AV} {vs us : List Value}, RelL w cs H vs → RelL w ds H us → RelL w (cs ++ ds) H (vs ++ us)
 | [], _, _, _, h, h' => by cases h; exact h'
 | _ :: _, _, _, _, ⟨v, vs, e, hv, h⟩, h' => by subst e; exact ⟨v, _, rfl, hv, RelL.append h h'⟩
theorem RelL.take {w : World} {H : View} (k : Nat) : ∀ {cs : List AV} {vs : List Value}, RelL w cs H vs → RelL w (cs.take k) H (vs.take k) := by
 induction k with
 | zero => intro cs vs _; simp [RelL]
 | succ k ih =>
  intro cs vs h
  cases cs with
  | nil => cases h; simp [RelL]
  | cons c cs => obtain ⟨v, vs, rfl, hv, h⟩ := h; exact ⟨v, _, rfl, hv, ih h⟩
theorem RelL.drop {w : World} {H : View} (k : Nat) : ∀ {cs : List AV} {vs : List Value}, RelL w cs H vs → RelL w (cs.drop k) H (vs.drop k) := by
 induction k with
 | zero => intro cs vs h; exact h
 | succ k ih =>
  intro cs vs h
  cases cs with
  | nil => cases h; simp [RelL]
  | cons c cs => obtain ⟨v, vs, rfl, hv, h⟩ := h; simpa using ih h
theorem RelL.set {w : World} {H : View} {c : AV} {v : Value} (hv : RelV w c H v) (k : Nat) : ∀ {cs : List AV} {vs : List Value}, RelL w cs H vs → RelL w (cs.set k c) H (vs.set k v) := by
 induction k with
 | zero =>
  intro cs vs h
  cases cs with
  | nil => cases h; simp [RelL]
  | cons c cs => obtain ⟨u, us, rfl, _, h⟩ := h; exact ⟨v, us, rfl, hv, h⟩
 | succ k ih =>
  intro cs vs h
  cases cs with
  | nil => cases h; simp [RelL]
  | cons c cs => obtain ⟨u, us, rfl, hu, h⟩ := h; exact ⟨u, _, rfl, hu, ih h⟩
theorem RelL.replicate {w : World} {H : View} {c : AV} {v : Value} (hv : RelV w c H v) : ∀ n, RelL w (List.replicate n c) H (List.replicate n v)
 | 0 => rfl
 | n + 1 => ⟨v, _, rfl, hv, RelL.replicate hv n⟩
/-- A step of the world and of the view that keeps what is known. -/
structure Keeps (w : World) (H : View) (w' : World) (H' : View) : Prop where
  cell : ∀ a v, w.cell? a = some v → ¬ H.wr a.block → w'.cell? a = some v
  wr : ∀ b, b < w.heap.size → H'.wr b → H.wr b
  n : H.n ≤ H'.n
  ver : ∀ o, o < H.n → H.ver o ≤ H'.ver o
  at_ : ∀ o, o < H.n → H'.ver o = H.ver o → H'.blk o = H.blk o ∧ H'.off o = H.off o ∧ H'.cap o = H.cap o
theorem Keeps.refl (w : World) (H : View) : Keeps w H w H := ⟨fun _ _ h _ => h, fun _ _ h => h, Nat.le_refl _, fun _ _ => Nat.le_refl _, fun _ _ _ => ⟨rfl, rfl, rfl⟩⟩
theorem At.keeps {w w' : World} {H H' : View} (hk : Keeps w H w' H') {a : Addr} {vs : List Value} (h : At w a vs) (hm : ¬ H.wr a.block) : At w' a vs := by
 intro j u hu
 refine hk.cell _ _ (h j u hu) ?_
 unfold Addr.add
 split <;> exact hm
theorem At.block_lt {w : World} {a : Addr} {vs : List Value} (h : At w a vs) (hne : vs ≠ []) : a.block < w.heap.size := by
 cases vs with
 | nil => exact absurd rfl hne
 | cons v vs => have := h 0 v rfl; simp [Addr.add] at this; exact World.block_lt_of_cell? w a this
theorem Keeps.bare {w w' : World} {H H' : View} (hk : Keeps w H w' H') : Keeps w H.bare w' H'.bare :=
 ⟨hk.cell, hk.wr, Nat.le_refl _, fun _ h => absurd h (Nat.not_lt_zero _), fun _ h => absurd h (Nat.not_lt_zero _)⟩
mutual
theorem RelV.keeps {w w' : World} : ∀ (c : AV) {H H' : View} {v : Value}, Keeps w H w' H' → RelV w c H v → RelV w' c H' v
  | .any, _, _, _, _, _ => trivial
  | .int _ _, _, _, _, _, h => h
  | .bool _, _, _, _, _, h => h
  | .str _, _, _, _, _, h => h
  | .nilp, _, _, _, _, h => h
  | .nils, _, _, _, _, h => h
  | .nilFunc, _, _, _, _, h => h
  | .nilm, _, _, _, _, h => h
  | .ptr o ver i, H, H', v, hk, h => by
    obtain ⟨h1, h2, h3⟩ := h
    refine ⟨Nat.lt_of_lt_of_le h1 hk.n, Nat.le_trans h2 (hk.ver o h1), fun e => ?_⟩
    have e2 : H.ver o = ver := Nat.le_antisymm (e ▸ hk.ver o h1) h2
    obtain ⟨b1, b2, _⟩ := hk.at_ o h1 (e.trans e2.symm)
    rw [b1, b2]; exact h3 e2
  | .mp o ver, H, H', v, hk, h => by
    obtain ⟨h1, h2, h3⟩ := h
    refine ⟨Nat.lt_of_lt_of_le h1 hk.n, Nat.le_trans h2 (hk.ver o h1), fun e => ?_⟩
    have e2 : H.ver o = ver := Nat.le_antisymm (e ▸ hk.ver o h1) h2
    obtain ⟨b1, _, _⟩ := hk.at_ o h1 (e.trans e2.symm)
    rw [b1]; exact h3 e2
  | .sl o ver off n full, H, H', v, hk, h => by
    obtain ⟨h1, h2, h3⟩ := h
    refine ⟨Nat.lt_of_lt_of_le h1 hk.n, Nat.le_trans h2 (hk.ver o h1), fun e => ?_⟩
    have e2 : H.ver o = ver := Nat.le_antisymm (e ▸ hk.ver o h1) h2
    obtain ⟨b1, b2, b3⟩ := hk.at_ o h1 (e.trans e2.symm)
    rw [b1, b2, b3]; exact h3 e2
  | .radr cs, H, H', v, hk, h => by
    obtain ⟨a, vs, e, h1, h2⟩ := h
    refine ⟨a, vs, e, RelL.keeps cs hk.bare h1, fun hne => ?_⟩
    obtain ⟨h3, h4⟩ := h2 hne
    exact ⟨h3.keeps hk h4, fun hw => h4 (hk.wr _ (h3.block_lt hne) hw)⟩
  | .row cs n, H, H', v, hk, h => by
    obtain ⟨A, c, vs, e, hn, h1, h2⟩ := h
    refine ⟨A, c, vs, e, hn, RelL.keeps cs hk.bare h1, fun hne => ?_⟩
    obtain ⟨a, e1, h3, h4⟩ := h2 hne
    exact ⟨a, e1, h3.keeps hk h4, fun hw => h4 (hk.wr _ (h3.block_lt hne) hw)⟩
  | .clip cs n, H, H', v, hk, h => by
    obtain ⟨A, vs, e, h1, h2⟩ := h
    refine ⟨A, vs, e, RelL.keeps cs hk.bare h1, fun hne => ?_⟩
    obtain ⟨a, e1, h3, h4⟩ := h2 hne
    exact ⟨a, e1, h3.keeps hk h4, fun hw => h4 (hk.wr _ (h3.block_lt hne) hw)⟩
  | .agg cs, _, _, _, hk, ⟨vs, e, h⟩ => ⟨vs, e, RelL.keeps cs hk h⟩
  | .tup cs, _, _, _, hk, ⟨vs, e, h⟩ => ⟨vs, e, RelL.keeps cs hk h⟩
  | .func _ x y, _, _, _, hk, ⟨xs, ys, e, h, h'⟩ => ⟨xs, ys, e, RelL.keeps x hk h, RelL.keeps y hk h'⟩
theorem RelL.keeps {w w' : World} : ∀ (cs : List AV) {H H' : View} {vs : List Value}, Keeps w H w' H' → RelL w cs H vs → RelL w' cs H' vs
  | [], _, _, _, _, h => h
  | c :: cs, _, _, _, hk, ⟨v, vs, e, h, h'⟩ => ⟨v, vs, e, RelV.keeps c hk h, RelL.keeps cs hk h'⟩
end
inductive TyK where
  | bool | int (k : IntKind) | string
  | pointer (e : TypeId) | slice (e : TypeId) | array (n : Nat) (e : TypeId)
  | struct (fs : List (Nat × TypeId))
  | func | map (k e : TypeId) | other
  deriving Inhabited
structure Ty where
  k : TyK
  size : Nat
  bytes : Nat
  zero : Option (List Value)
  deriving Inhabited
def kOf : TypeDesc → TyK
  | .bool => .bool
  | .int k => .int k
  | .string => .string
  | .pointer e => .pointer e
  | .slice e => .slice e
  | .array n e => .array n e
  | .struct fs => .struct (fs.toList.map fun f => (f.offset, f.type))
  | .func .. => .func
  | .map k e => .map k e
  | _ => .other
/-- what the program's tables say of a type -/
def tyOf (P : Program) (t : TypeId) : Option Ty :=
  match P.underlying t, P.info? t with
  | some d, some i => some { k := kOf d, size := i.size, bytes := i.bytes, zero := i.zero.map fun z => z.cells.toList }
  | _, _ => none
abbrev Tab := List (Option Ty)
def Tab.at (T : Tab) (t : TypeId) : Option Ty := match T[t]? with | some r => r | none => none
def TabOK (P : Program) (T : Tab) : Prop := ∀ t y, T.at t = some y → tyOf P t = some y
/-- the types that the logic speaks of -/
def tyOfK (P : Program) (t : TypeId) : Option Ty := match tyOf P t with
  | some y => match y.k with | .other => none | _ => some y
  | none => none
theorem TabOK.of_map {P : Program} {T : Tab} {n : Nat} (h : (List.range n).map (tyOfK P) = T) : TabOK P T := by
 subst h
 intro t y hy
 unfold Tab.at at hy
 by_cases hlt : t < n
 ·simp [hlt] at hy
  unfold tyOfK at hy
  split at hy
  ·rename_i y' hy'
   split at hy
   ·cases hy
   ·injection hy with hy; subst hy; exact hy'
  ·cases hy
 ·simp [hlt] at hy
theorem tyOf_spec {P : Program} {t : TypeId} {y : Ty} (h : tyOf P t = some y) : ∃ d i, P.underlying t = some d ∧ P.info? t = some i ∧ y.k = kOf d ∧ y.size = i.size ∧ y.bytes = i.bytes ∧ y.zero = i.zero.map fun z => z.cells.toList := by
 unfold tyOf at h
 split at h
 ·rename_i d i hd hi
  injection h with h; subst h
  exact ⟨d, i, hd, hi, rfl, rfl, rfl, rfl⟩
 ·cases h
end Go.Lens

namespace Go.Proofs.YtejpblopbdgkaaaGreatDoor
open Go Go.Lens
set_option maxRecDepth 100000
def tab : Tab := [
  none,
  some ⟨.func, 1, 8, some [.nilFunc]⟩,
  some ⟨.int .i64, 1, 8, some [.int .i64 0]⟩,
  some ⟨.int .i64, 1, 8, some [.int .i64 0]⟩,
  some ⟨.bool, 1, 1, some [.bool false]⟩,
  some ⟨.int .u8, 1, 1, some [.int .u8 0]⟩,
  some ⟨.int .u8, 1, 1, some [.int .u8 0]⟩,
  some ⟨.struct [(0, 2), (1, 3), (2, 4), (3, 6)], 4, 24, some [.int .i64 0, .int .i64 0, .bool false, .int .u8 0]⟩,
  some ⟨.struct [(0, 2), (1, 3), (2, 4), (3, 6)], 4, 24, some [.int .i64 0, .int .i64 0, .bool false, .int .u8 0]⟩,
  some ⟨.string, 1, 16, some [.string ⟨#[]⟩]⟩,
  some ⟨.string, 1, 16, some [.string ⟨#[]⟩]⟩,
  some ⟨.string, 1, 16, some [.string ⟨#[]⟩]⟩,
  some ⟨.int .u64, 1, 8, some [.int .u64 0]⟩,
  some ⟨.struct [(0, 9), (1, 12)], 2, 24, some [.string ⟨#[]⟩, .int .u64 0]⟩,
  some ⟨.struct [(0, 9), (1, 12)], 2, 24, some [.string ⟨#[]⟩, .int .u64 0]⟩,
  some ⟨.pointer 223, 1, 8, some [.pointer none]⟩,
  some ⟨.pointer 226, 1, 8, some [.pointer none]⟩,
  some ⟨.pointer 233, 1, 8, some [.pointer none]⟩,
  some ⟨.struct [(0, 17)], 1, 8, some [.pointer none]⟩,
  some ⟨.struct [(0, 17)], 1, 8, some [.pointer none]⟩,
  none,
  some ⟨.int .i32, 1, 4, some [.int .i32 0]⟩,
  some ⟨.slice 74, 1, 24, some [.slice none 0 0]⟩,
  some ⟨.struct [(0, 22)], 1, 24, some [.slice none 0 0]⟩,
  some ⟨.struct [(0, 22)], 1, 24, some [.slice none 0 0]⟩,
  some ⟨.struct [(0, 24), (1, 4)], 2, 32, some [.slice none 0 0, .bool false]⟩,
  some ⟨.struct [(0, 24), (1, 4)], 2, 32, some [.slice none 0 0, .bool false]⟩,
  some ⟨.func, 1, 8, some [.nilFunc]⟩,
  some ⟨.func, 1, 8, some [.nilFunc]⟩,
  some ⟨.func, 1, 8, some [.nilFunc]⟩,
  some ⟨.int .i64, 1, 8, some [.int .i64 0]⟩,
  none,
  some ⟨.func, 1, 8, some [.nilFunc]⟩,
  some ⟨.slice 3, 1, 24, some [.slice none 0 0]⟩,
  some ⟨.struct [(0, 33), (1, 4)], 2, 32, some [.slice none 0 0, .bool false]⟩,
  some ⟨.struct [(0, 33), (1, 4)], 2, 32, some [.slice none 0 0, .bool false]⟩,
  none,
  some ⟨.func, 1, 8, some [.nilFunc]⟩,
  some ⟨.func, 1, 8, some [.nilFunc]⟩,
  some ⟨.func, 1, 8, some [.nilFunc]⟩,
  some ⟨.func, 1, 8, some [.nilFunc]⟩,
  some ⟨.func, 1, 8, some [.nilFunc]⟩,
  some ⟨.func, 1, 8, some [.nilFunc]⟩,
  some ⟨.func, 1, 8, some [.nilFunc]⟩,
  some ⟨.func, 1, 8, some [.nilFunc]⟩,
  some ⟨.array 3 3, 3, 24, some [.int .i64 0, .int .i64 0, .int .i64 0]⟩,
  some ⟨.slice 5, 1, 24, some [.slice none 0 0]⟩,
  some ⟨.slice 97, 1, 24, some [.slice none 0 0]⟩,
  some ⟨.struct [(0, 45), (3, 46), (4, 46), (5, 47)], 6, 96, some [.int .i64 0, .int .i64 0, .int .i64 0, .slice none 0 0, .slice none 0 0, .slice none 0 0]⟩,
  some ⟨.struct [(0, 45), (3, 46), (4, 46), (5, 47)], 6, 96, some [.int .i64 0, .int .i64 0, .int .i64 0, .slice none 0 0, .slice none 0 0, .slice none 0 0]⟩,
  some ⟨.slice 54, 1, 24, some [.slice none 0 0]⟩,
  some ⟨.struct [(0, 3), (1, 3), (2, 3)], 3, 24, some [.int .i64 0, .int .i64 0, .int .i64 0]⟩,
  some ⟨.struct [(0, 3), (1, 3), (2, 3)], 3, 24, some [.int .i64 0, .int .i64 0, .int .i64 0]⟩,
  some ⟨.struct [(0, 52), (3, 3), (4, 3), (5, 9)], 6, 56, some [.int .i64 0, .int .i64 0, .int .i64 0, .int .i64 0, .int .i64 0, .string ⟨#[]⟩]⟩,
  some ⟨.struct [(0, 52), (3, 3), (4, 3), (5, 9)], 6, 56, some [.int .i64 0, .int .i64 0, .int .i64 0, .int .i64 0, .int .i64 0, .string ⟨#[]⟩]⟩,
  some ⟨.func, 1, 8, some [.nilFunc]⟩,
  some ⟨.slice 50, 1, 24, some [.slice none 0 0]⟩,
  none,
  some ⟨.func, 1, 8, some [.nilFunc]⟩,
  none,
  some ⟨.func, 1, 8, some [.nilFunc]⟩,
  none,
  some ⟨.func, 1, 8, some [.nilFunc]⟩,
  some ⟨.func, 1, 8, some [.nilFunc]⟩,
  some ⟨.func, 1, 8, some [.nilFunc]⟩,
  none,
  some ⟨.func, 1, 8, some [.nilFunc]⟩,
  some ⟨.func, 1, 8, some [.nilFunc]⟩,
  some ⟨.func, 1, 8, some [.nilFunc]⟩,
  some ⟨.func, 1, 8, some [.nilFunc]⟩,
  some ⟨.func, 1, 8, some [.nilFunc]⟩,
  some ⟨.func, 1, 8, some [.nilFunc]⟩,
  some ⟨.func, 1, 8, some [.nilFunc]⟩,
  some ⟨.func, 1, 8, some [.nilFunc]⟩,
  some ⟨.int .u64, 1, 8, some [.int .u64 0]⟩,
  some ⟨.struct [(0, 26), (2, 3)], 3, 40, some [.slice none 0 0, .bool false, .int .i64 0]⟩,
  some ⟨.struct [(0, 26), (2, 3)], 3, 40, some [.slice none 0 0, .bool false, .int .i64 0]⟩,
  none,
  some ⟨.func, 1, 8, some [.nilFunc]⟩,
  some ⟨.func, 1, 8, some [.nilFunc]⟩,
  some ⟨.func, 1, 8, some [.nilFunc]⟩,
  some ⟨.func, 1, 8, some [.nilFunc]⟩,
  some ⟨.func, 1, 8, some [.nilFunc]⟩,
  some ⟨.struct [(0, 35), (2, 3)], 3, 40, some [.slice none 0 0, .bool false, .int .i64 0]⟩,
  some ⟨.struct [(0, 35), (2, 3)], 3, 40, some [.slice none 0 0, .bool false, .int .i64 0]⟩,
  none,
  some ⟨.func, 1, 8, some [.nilFunc]⟩,
  some ⟨.func, 1, 8, some [.nilFunc]⟩,
  some ⟨.func, 1, 8, some [.nilFunc]⟩,
  some ⟨.func, 1, 8, some [.nilFunc]⟩,
  some ⟨.func, 1, 8, some [.nilFunc]⟩,
  some ⟨.func, 1, 8, some [.nilFunc]⟩,
  some ⟨.func, 1, 8, some [.nilFunc]⟩,
  some ⟨.func, 1, 8, some [.nilFunc]⟩,
  some ⟨.func, 1, 8, some [.nilFunc]⟩,
  none,
  some ⟨.func, 1, 8, some [.nilFunc]⟩,
  some ⟨.int .u32, 1, 4, some [.int .u32 0]⟩,
  some ⟨.pointer 143, 1, 8, some [.pointer none]⟩,
  some ⟨.func, 1, 8, some [.nilFunc]⟩,
  some ⟨.pointer 102, 1, 8, some [.pointer none]⟩,
  some ⟨.struct [(0, 100), (1, 46)], 2, 32, some [.pointer none, .slice none 0 0]⟩,
  some ⟨.struct [(0, 100), (1, 46)], 2, 32, some [.pointer none, .slice none 0 0]⟩,
  some ⟨.func, 1, 8, some [.nilFunc]⟩,
  none,
  none,
  none,
  some ⟨.func, 1, 8, some [.nilFunc]⟩,
  some ⟨.func, 1, 8, some [.nilFunc]⟩,
  none,
  some ⟨.func, 1, 8, some [.nilFunc]⟩,
  some ⟨.func, 1, 8, some [.nilFunc]⟩,
  some ⟨.func, 1, 8, some [.nilFunc]⟩,
  some ⟨.func, 1, 8, some [.nilFunc]⟩,
  none,
  some ⟨.func, 1, 8, some [.nilFunc]⟩,
  none,
  some ⟨.func, 1, 8, some [.nilFunc]⟩,
  some ⟨.func, 1, 8, some [.nilFunc]⟩,
  none,
  some ⟨.func, 1, 8, some [.nilFunc]⟩,
  some ⟨.func, 1, 8, some [.nilFunc]⟩,
  some ⟨.int .u64, 1, 8, some [.int .u64 0]⟩,
  none,
  some ⟨.func, 1, 8, some [.nilFunc]⟩,
  some ⟨.func, 1, 8, some [.nilFunc]⟩,
  some ⟨.func, 1, 8, some [.nilFunc]⟩,
  some ⟨.func, 1, 8, some [.nilFunc]⟩,
  none,
  some ⟨.func, 1, 8, some [.nilFunc]⟩,
  none,
  some ⟨.func, 1, 8, some [.nilFunc]⟩,
  some ⟨.func, 1, 8, some [.nilFunc]⟩,
  some ⟨.func, 1, 8, some [.nilFunc]⟩,
  some ⟨.func, 1, 8, some [.nilFunc]⟩,
  some ⟨.slice 9, 1, 24, some [.slice none 0 0]⟩,
  none,
  some ⟨.func, 1, 8, some [.nilFunc]⟩,
  some ⟨.func, 1, 8, some [.nilFunc]⟩,
  some ⟨.func, 1, 8, some [.nilFunc]⟩,
  some ⟨.func, 1, 8, some [.nilFunc]⟩,
  some ⟨.map 3 26, 1, 8, some [.map none]⟩,
  some ⟨.struct [(0, 50), (1, 141)], 2, 32, some [.slice none 0 0, .map none]⟩,
  some ⟨.struct [(0, 50), (1, 141)], 2, 32, some [.slice none 0 0, .map none]⟩,
  some ⟨.func, 1, 8, some [.nilFunc]⟩,
  some ⟨.func, 1, 8, some [.nilFunc]⟩,
  some ⟨.func, 1, 8, some [.nilFunc]⟩,
  some ⟨.func, 1, 8, some [.nilFunc]⟩,
  some ⟨.func, 1, 8, some [.nilFunc]⟩,
  some ⟨.pointer 5, 1, 8, some [.pointer none]⟩,
  some ⟨.func, 1, 8, some [.nilFunc]⟩,
  some ⟨.func, 1, 8, some [.nilFunc]⟩,
  some ⟨.func, 1, 8, some [.nilFunc]⟩,
  none,
  some ⟨.func, 1, 8, some [.nilFunc]⟩,
  none,
  some ⟨.func, 1, 8, some [.nilFunc]⟩,
  some ⟨.func, 1, 8, some [.nilFunc]⟩,
  some ⟨.func, 1, 8, some [.nilFunc]⟩,
  none,
  some ⟨.func, 1, 8, some [.nilFunc]⟩,
  some ⟨.func, 1, 8, some [.nilFunc]⟩,
  none,
  some ⟨.func, 1, 8, some [.nilFunc]⟩,
  some ⟨.func, 1, 8, some [.nilFunc]⟩,
  none,
  some ⟨.func, 1, 8, some [.nilFunc]⟩,
  some ⟨.func, 1, 8, some [.nilFunc]⟩,
  some ⟨.array 256 4, 256, 256, some [.bool false, .bool false, .bool false, .bool false, .bool false, .bool false, .bool false, .bool false, .bool false, .bool false, .bool false, .bool false, .bool false, .bool false, .bool false, .bool false, .bool false, .bool false, .bool false, .bool false, .bool false, .bool false, .bool false, .bool false, .bool false, .bool false, .bool false, .bool false, .bool false, .bool false, .bool false, .bool false, .bool false, .bool false, .bool false, .bool false, .bool false, .bool false, .bool false, .bool false, .bool false, .bool false, .bool false, .bool false, .bool false, .bool false, .bool false, .bool false, .bool false, .bool false, .bool false, .bool false, .bool false, .bool false, .bool false, .bool false, .bool false, .bool false, .bool false, .bool false, .bool false, .bool false, .bool false, .bool false, .bool false, .bool false, .bool false, .bool false, .bool false, .bool false, .bool false, .bool false, .bool false, .bool false, .bool false, .bool false, .bool false, .bool false, .bool false, .bool false, .bool false, .bool false, .bool false, .bool false, .bool false, .bool false, .bool false, .bool false, .bool false, .bool false, .bool false, .bool false, .bool false, .bool false, .bool false, .bool false, .bool false, .bool false, .bool false, .bool false, .bool false, .bool false, .bool false, .bool false, .bool false, .bool false, .bool false, .bool false, .bool false, .bool false, .bool false, .bool false, .bool false, .bool false, .bool false, .bool false, .bool false, .bool false, .bool false, .bool false, .bool false, .bool false, .bool false, .bool false, .bool false, .bool false, .bool false, .bool false, .bool false, .bool false, .bool false, .bool false, .bool false, .bool false, .bool false, .bool false, .bool false, .bool false, .bool false, .bool false, .bool false, .bool false, .bool false, .bool false, .bool false, .bool false, .bool false, .bool false, .bool false, .bool false, .bool false, .bool false, .bool false, .bool false, .bool false, .bool false, .bool false, .bool false, .bool false, .bool false, .bool false, .bool false, .bool false, .bool false, .bool false, .bool false, .bool false, .bool false, .bool false, .bool false, .bool false, .bool false, .bool false, .bool false, .bool false, .bool false, .bool false, .bool false, .bool false, .bool false, .bool false, .bool false, .bool false, .bool false, .bool false, .bool false, .bool false, .bool false, .bool false, .bool false, .bool false, .bool false, .bool false, .bool false, .bool false, .bool false, .bool false, .bool false, .bool false, .bool false, .bool false, .bool false, .bool false, .bool false, .bool false, .bool false, .bool false, .bool false, .bool false, .bool false, .bool false, .bool false, .bool false, .bool false, .bool false, .bool false, .bool false, .bool false, .bool false, .bool false, .bool false, .bool false, .bool false, .bool false, .bool false, .bool false, .bool false, .bool false, .bool false, .bool false, .bool false, .bool false, .bool false, .bool false, .bool false, .bool false, .bool false, .bool false, .bool false, .bool false, .bool false, .bool false, .bool false, .bool false, .bool false, .bool false, .bool false, .bool false, .bool false, .bool false, .bool false, .bool false, .bool false, .bool false, .bool false, .bool false]⟩,
  some ⟨.array 256 4, 256, 256, some [.bool false, .bool false, .bool false, .bool false, .bool false, .bool false, .bool false, .bool false, .bool false, .bool false, .bool false, .bool false, .bool false, .bool false, .bool false, .bool false, .bool false, .bool false, .bool false, .bool false, .bool false, .bool false, .bool false, .bool false, .bool false, .bool false, .bool false, .bool false, .bool false, .bool false, .bool false, .bool false, .bool false, .bool false, .bool false, .bool false, .bool false, .bool false, .bool false, .bool false, .bool false, .bool false, .bool false, .bool false, .bool false, .bool false, .bool false, .bool false, .bool false, .bool false, .bool false, .bool false, .bool false, .bool false, .bool false, .bool false, .bool false, .bool false, .bool false, .bool false, .bool false, .bool false, .bool false, .bool false, .bool false, .bool false, .bool false, .bool false, .bool false, .bool false, .bool false, .bool false, .bool false, .bool false, .bool false, .bool false, .bool false, .bool false, .bool false, .bool false, .bool false, .bool false, .bool false, .bool false, .bool false, .bool false, .bool false, .bool false, .bool false, .bool false, .bool false, .bool false, .bool false, .bool false, .bool false, .bool false, .bool false, .bool false, .bool false, .bool false, .bool false, .bool false, .bool false, .bool false, .bool false, .bool false, .bool false, .bool false, .bool false, .bool false, .bool false, .bool false, .bool false, .bool false, .bool false, .bool false, .bool false, .bool false, .bool false, .bool false, .bool false, .bool false, .bool false, .bool false, .bool false, .bool false, .bool false, .bool false, .bool false, .bool false, .bool false, .bool false, .bool false, .bool false, .bool false, .bool false, .bool false, .bool false, .bool false, .bool false, .bool false, .bool false, .bool false, .bool false, .bool false, .bool false, .bool false, .bool false, .bool false, .bool false, .bool false, .bool false, .bool false, .bool false, .bool false, .bool false, .bool false, .bool false, .bool false, .bool false, .bool false, .bool false, .bool false, .bool false, .bool false, .bool false, .bool false, .bool false, .bool false, .bool false, .bool false, .bool false, .bool false, .bool false, .bool false, .bool false, .bool false, .bool false, .bool false, .bool false, .bool false, .bool false, .bool false, .bool false, .bool false, .bool false, .bool false, .bool false, .bool false, .bool false, .bool false, .bool false, .bool false, .bool false, .bool false, .bool false, .bool false, .bool false, .bool false, .bool false, .bool false, .bool false, .bool false, .bool false, .bool false, .bool false, .bool false, .bool false, .bool false, .bool false, .bool false, .bool false, .bool false, .bool false, .bool false, .bool false, .bool false, .bool false, .bool false, .bool false, .bool false, .bool false, .bool false, .bool false, .bool false, .bool false, .bool false, .bool false, .bool false, .bool false, .bool false, .bool false, .bool false, .bool false, .bool false, .bool false, .bool false, .bool false, .bool false, .bool false, .bool false, .bool false, .bool false, .bool false, .bool false, .bool false, .bool false, .bool false, .bool false, .bool false, .bool false, .bool false, .bool false, .bool false, .bool false, .bool false]⟩,
  none,
  some ⟨.func, 1, 8, some [.nilFunc]⟩,
  some ⟨.func, 1, 8, some [.nilFunc]⟩,
  some ⟨.pointer 169, 1, 8, some [.pointer none]⟩,
  some ⟨.func, 1, 8, some [.nilFunc]⟩,
  none,
  some ⟨.func, 1, 8, some [.nilFunc]⟩,
  some ⟨.func, 1, 8, some [.nilFunc]⟩,
  none,
  some ⟨.func, 1, 8, some [.nilFunc]⟩,
  none,
  some ⟨.func, 1, 8, some [.nilFunc]⟩,
  some ⟨.array 20 5, 20, 20, some [.int .u8 0, .int .u8 0, .int .u8 0, .int .u8 0, .int .u8 0, .int .u8 0, .int .u8 0, .int .u8 0, .int .u8 0, .int .u8 0, .int .u8 0, .int .u8 0, .int .u8 0, .int .u8 0, .int .u8 0, .int .u8 0, .int .u8 0, .int .u8 0, .int .u8 0, .int .u8 0]⟩,
  some ⟨.func, 1, 8, some [.nilFunc]⟩,
  some ⟨.func, 1, 8, some [.nilFunc]⟩,
  some ⟨.func, 1, 8, some [.nilFunc]⟩,
  some ⟨.struct [(0, 3), (1, 185)], 2, 16, some [.int .i64 0, .nilFunc]⟩,
  some ⟨.struct [(0, 3), (1, 185)], 2, 16, some [.int .i64 0, .nilFunc]⟩,
  some ⟨.slice 187, 1, 24, some [.slice none 0 0]⟩,
  none,
  some ⟨.func, 1, 8, some [.nilFunc]⟩,
  some ⟨.func, 1, 8, some [.nilFunc]⟩,
  some ⟨.array 5 9, 5, 80, some [.string ⟨#[]⟩, .string ⟨#[]⟩, .string ⟨#[]⟩, .string ⟨#[]⟩, .string ⟨#[]⟩]⟩,
  some ⟨.func, 1, 8, some [.nilFunc]⟩,
  some ⟨.func, 1, 8, some [.nilFunc]⟩,
  some ⟨.func, 1, 8, some [.nilFunc]⟩,
  some ⟨.func, 1, 8, some [.nilFunc]⟩,
  some ⟨.func, 1, 8, some [.nilFunc]⟩,
  none,
  some ⟨.func, 1, 8, some [.nilFunc]⟩,
  some ⟨.func, 1, 8, some [.nilFunc]⟩,
  some ⟨.func, 1, 8, some [.nilFunc]⟩,
  some ⟨.func, 1, 8, some [.nilFunc]⟩,
  some ⟨.func, 1, 8, some [.nilFunc]⟩,
  some ⟨.func, 1, 8, some [.nilFunc]⟩,
  some ⟨.func, 1, 8, some [.nilFunc]⟩,
  some ⟨.func, 1, 8, some [.nilFunc]⟩,
  some ⟨.func, 1, 8, some [.nilFunc]⟩,
  some ⟨.func, 1, 8, some [.nilFunc]⟩,
  some ⟨.func, 1, 8, some [.nilFunc]⟩,
  some ⟨.func, 1, 8, some [.nilFunc]⟩,
  some ⟨.func, 1, 8, some [.nilFunc]⟩,
  some ⟨.func, 1, 8, some [.nilFunc]⟩,
  some ⟨.func, 1, 8, some [.nilFunc]⟩,
  some ⟨.func, 1, 8, some [.nilFunc]⟩,
  some ⟨.array 12 3, 12, 96, some [.int .i64 0, .int .i64 0, .int .i64 0, .int .i64 0, .int .i64 0, .int .i64 0, .int .i64 0, .int .i64 0, .int .i64 0, .int .i64 0, .int .i64 0, .int .i64 0]⟩,
  some ⟨.array 256 5, 256, 256, some [.int .u8 0, .int .u8 0, .int .u8 0, .int .u8 0, .int .u8 0, .int .u8 0, .int .u8 0, .int .u8 0, .int .u8 0, .int .u8 0, .int .u8 0, .int .u8 0, .int .u8 0, .int .u8 0, .int .u8 0, .int .u8 0, .int .u8 0, .int .u8 0, .int .u8 0, .int .u8 0, .int .u8 0, .int .u8 0, .int .u8 0, .int .u8 0, .int .u8 0, .int .u8 0, .int .u8 0, .int .u8 0, .int .u8 0, .int .u8 0, .int .u8 0, .int .u8 0, .int .u8 0, .int .u8 0, .int .u8 0, .int .u8 0, .int .u8 0, .int .u8 0, .int .u8 0, .int .u8 0, .int .u8 0, .int .u8 0, .int .u8 0, .int .u8 0, .int .u8 0, .int .u8 0, .int .u8 0, .int .u8 0, .int .u8 0, .int .u8 0, .int .u8 0, .int .u8 0, .int .u8 0, .int .u8 0, .int .u8 0, .int .u8 0, .int .u8 0, .int .u8 0, .int .u8 0, .int .u8 0, .int .u8 0, .int .u8 0, .int .u8 0, .int .u8 0, .int .u8 0, .int .u8 0, .int .u8 0, .int .u8 0, .int .u8 0, .int .u8 0, .int .u8 0, .int .u8 0, .int .u8 0, .int .u8 0, .int .u8 0, .int .u8 0, .int .u8 0, .int .u8 0, .int .u8 0, .int .u8 0, .int .u8 0, .int .u8 0, .int .u8 0, .int .u8 0, .int .u8 0, .int .u8 0, .int .u8 0, .int .u8 0, .int .u8 0, .int .u8 0, .int .u8 0, .int .u8 0, .int .u8 0, .int .u8 0, .int .u8 0, .int .u8 0, .int .u8 0, .int .u8 0, .int .u8 0, .int .u8 0, .int .u8 0, .int .u8 0, .int .u8 0, .int .u8 0, .int .u8 0, .int .u8 0, .int .u8 0, .int .u8 0, .int .u8 0, .int .u8 0, .int .u8 0, .int .u8 0, .int .u8 0, .int .u8 0, .int .u8 0, .int .u8 0, .int .u8 0, .int .u8 0, .int .u8 0, .int .u8 0, .int .u8 0, .int .u8 0, .int .u8 0, .int .u8 0, .int .u8 0, .int .u8 0, .int .u8 0, .int .u8 0, .int .u8 0, .int .u8 0, .int .u8 0, .int .u8 0, .int .u8 0, .int .u8 0, .int .u8 0, .int .u8 0, .int .u8 0, .int .u8 0, .int .u8 0, .int .u8 0, .int .u8 0, .int .u8 0, .int .u8 0, .int .u8 0, .int .u8 0, .int .u8 0, .int .u8 0, .int .u8 0, .int .u8 0, .int .u8 0, .int .u8 0, .int .u8 0, .int .u8 0, .int .u8 0, .int .u8 0, .int .u8 0, .int .u8 0, .int .u8 0, .int .u8 0, .int .u8 0, .int .u8 0, .int .u8 0, .int .u8 0, .int .u8 0, .int .u8 0, .int .u8 0, .int .u8 0, .int .u8 0, .int .u8 0, .int .u8 0, .int .u8 0, .int .u8 0, .int .u8 0, .int .u8 0, .int .u8 0, .int .u8 0, .int .u8 0, .int .u8 0, .int .u8 0, .int .u8 0, .int .u8 0, .int .u8 0, .int .u8 0, .int .u8 0, .int .u8 0, .int .u8 0, .int .u8 0, .int .u8 0, .int .u8 0, .int .u8 0, .int .u8 0, .int .u8 0, .int .u8 0, .int .u8 0, .int .u8 0, .int .u8 0, .int .u8 0, .int .u8 0, .int .u8 0, .int .u8 0, .int .u8 0, .int .u8 0, .int .u8 0, .int .u8 0, .int .u8 0, .int .u8 0, .int .u8 0, .int .u8 0, .int .u8 0, .int .u8 0, .int .u8 0, .int .u8 0, .int .u8 0, .int .u8 0, .int .u8 0, .int .u8 0, .int .u8 0, .int .u8 0, .int .u8 0, .int .u8 0, .int .u8 0, .int .u8 0, .int .u8 0, .int .u8 0, .int .u8 0, .int .u8 0, .int .u8 0, .int .u8 0, .int .u8 0, .int .u8 0, .int .u8 0, .int .u8 0, .int .u8 0, .int .u8 0, .int .u8 0, .int .u8 0, .int .u8 0, .int .u8 0, .int .u8 0, .int .u8 0, .int .u8 0, .int .u8 0, .int .u8 0, .int .u8 0, .int .u8 0, .int .u8 0, .int .u8 0, .int .u8 0, .int .u8 0, .int .u8 0, .int .u8 0, .int .u8 0, .int .u8 0, .int .u8 0, .int .u8 0, .int .u8 0]⟩,
  some ⟨.struct [(0, 5), (1, 5)], 2, 2, some [.int .u8 0, .int .u8 0]⟩,
  some ⟨.struct [(0, 5), (1, 5)], 2, 2, some [.int .u8 0, .int .u8 0]⟩,
  some ⟨.array 16 218, 32, 32, some [.int .u8 0, .int .u8 0, .int .u8 0, .int .u8 0, .int .u8 0, .int .u8 0, .int .u8 0, .int .u8 0, .int .u8 0, .int .u8 0, .int .u8 0, .int .u8 0, .int .u8 0, .int .u8 0, .int .u8 0, .int .u8 0, .int .u8 0, .int .u8 0, .int .u8 0, .int .u8 0, .int .u8 0, .int .u8 0, .int .u8 0, .int .u8 0, .int .u8 0, .int .u8 0, .int .u8 0, .int .u8 0, .int .u8 0, .int .u8 0, .int .u8 0, .int .u8 0]⟩,
  some ⟨.func, 1, 8, some [.nilFunc]⟩,
  some ⟨.pointer 235, 1, 8, some [.pointer none]⟩,
  some ⟨.struct [(0, 17), (1, 17), (2, 17), (3, 9)], 4, 40, some [.pointer none, .pointer none, .pointer none, .string ⟨#[]⟩]⟩,
  some ⟨.struct [(0, 17), (1, 17), (2, 17), (3, 9)], 4, 40, some [.pointer none, .pointer none, .pointer none, .string ⟨#[]⟩]⟩,
  some ⟨.array 0 16, 0, 0, some []⟩,
  some ⟨.struct [(0, 224)], 0, 0, some []⟩,
  some ⟨.struct [(0, 224)], 0, 0, some []⟩,
  some ⟨.int .u8, 1, 1, some [.int .u8 0]⟩,
  some ⟨.int .u8, 1, 1, some [.int .u8 0]⟩,
  some ⟨.func, 1, 8, some [.nilFunc]⟩,
  some ⟨.int .i32, 1, 4, some [.int .i32 0]⟩,
  some ⟨.int .i32, 1, 4, some [.int .i32 0]⟩,
  some ⟨.struct [(0, 12), (1, 12), (2, 97), (3, 227), (4, 5), (5, 5), (6, 228), (7, 229), (8, 149), (9, 230), (10, 231)], 11, 48, some [.int .u64 0, .int .u64 0, .int .u32 0, .int .u8 0, .int .u8 0, .int .u8 0, .int .u8 0, .nilFunc, .pointer none, .int .i32 0, .int .i32 0]⟩,
  some ⟨.struct [(0, 12), (1, 12), (2, 97), (3, 227), (4, 5), (5, 5), (6, 228), (7, 229), (8, 149), (9, 230), (10, 231)], 11, 48, some [.int .u64 0, .int .u64 0, .int .u32 0, .int .u8 0, .int .u8 0, .int .u8 0, .int .u8 0, .nilFunc, .pointer none, .int .i32 0, .int .i32 0]⟩,
  some ⟨.struct [(0, 9)], 1, 16, some [.string ⟨#[]⟩]⟩,
  some ⟨.struct [(0, 9)], 1, 16, some [.string ⟨#[]⟩]⟩]
theorem tab_ok : TabOK Tryz.prog tab := TabOK.of_map (n := 236) (by kernel_rfl)
end Go.Proofs.YtejpblopbdgkaaaGreatDoor

set_option linter.unusedVariables false
set_option linter.unusedSimpArgs false
namespace Go.Lens
open Go Go.RowKit
theorem get_snoc {α : Type} {l : List α} {x y : α} {i : Nat} (h : (l ++ [x])[i]? = some y) : (i < l.length ∧ l[i]? = some y) ∨ (i = l.length ∧ y = x) := by
 rcases Nat.lt_trichotomy i l.length with h1 | h1 | h1
 ·rw [List.getElem?_append_left h1] at h; exact .inl ⟨h1, h⟩
 ·subst h1; simp at h; exact .inr ⟨rfl, h.symm⟩
 ·rw [List.getElem?_eq_none (by simp; omega)] at h; cases h
/-- An object of the call's own store. `flat`: its cells name no object; `own`: the whole block is ours, its elements are of that type. -/
inductive AObj where
  | dead
  | cells (cs : List AV) (ver esz : Nat) (flat : Bool) (own : Option TypeId)
  | iter (s : List UInt8) (pos : Nat)
  | kv (k : IntKind) (es : List (Int × AV))
  | slot
  | bytes (s : List UInt8)
  deriving Inhabited
def AObj.live : AObj → Bool
  | .dead => false
  | .slot => false
  | _ => true
/-- a whole block of ours -/
def AObj.mine : AObj → Bool
  | .cells _ _ _ _ (some _) => true
  | _ => false
def View.flatIf (H : View) (b : Bool) : View := if b then H.bare else H
/-- what an object says of the world -/
def RelO (w : World) (H : View) (o : Nat) : AObj → Prop
  | .dead => True
  | .cells cs ver esz flat own => H.ver o = ver ∧ H.wr (H.blk o) ∧ ∃ vs c e, w.heap[H.blk o]? = some (.cells c e (0, 0)) ∧ RelL w cs (H.flatIf flat) vs ∧
      (∀ j u, vs[j]? = some u → c[H.off o + j]? = some u) ∧
      (∀ t, own = some t → e = t ∧ H.off o = 0 ∧ c.size = H.cap o * esz ∧ H.cap o ≤ maxLen ∧ ∃ N, vs.length = N * esz ∧ N ≤ H.cap o)
  | .slot => H.ver o = 0
  | .bytes s => H.ver o = 0 ∧ H.wr (H.blk o) ∧ H.off o = 0 ∧ ∃ c e fr, w.heap[H.blk o]? = some (.cells c e fr) ∧ c.size ≤ fr.1 ∧ 0 < fr.1 ∧ ∀ (j : Nat) (u : Value), (s.map fun c => Value.int .u8 c.toNat)[j]? = some u → c[j]? = some u
  | .iter s pos => H.ver o = 0 ∧ H.wr (H.blk o) ∧ H.off o = 0 ∧ w.heap[H.blk o]? = some (.stringIter ⟨s.toArray⟩ pos)
  | .kv k es => H.ver o = 0 ∧ H.wr (H.blk o) ∧ ∃ es' clock, w.heap[H.blk o]? = some (.map es' clock) ∧ es'.toList.map (·.key) = es.map (fun p => Value.int k p.1) ∧ RelL w (es.map (·.2)) H.bare (es'.toList.map (·.val))
structure St where
  env : List (Nat × AV)
  objs : List AObj
def look : List (Nat × AV) → Nat → Option AV
  | [], _ => none
  | (k, v) :: r, t => if k == t then some v else look r t
/-- What does not change within a call. -/
structure Ctx where
  P : Program
  T : Tab
  ok : TabOK P T
  nt : Nat
  w0 : World
  k : Nat
  H0 : View
  ln : Nat → Nat
  hk : ∀ o, o < k → H0.blk o < w0.heap.size
  hj : ∀ x o, x < k → o < k → H0.blk x = H0.blk o → x = o
  sv : List (Array Value × List (Nat × AV))
/-- the blocks that came in to be written -/
def Ctx.M0 (C : Ctx) (b : Nat) : Prop := ∃ o, o < C.k ∧ b = C.H0.blk o
structure Objs (w : World) (H : View) (objs : List AObj) : Prop where
  n : H.n = objs.length
  rel : ∀ o ob, objs[o]? = some ob → RelO w H o ob
  inj : ∀ o o' ob ob', objs[o]? = some ob → objs[o']? = some ob' → ob.live = true → ob'.live = true → H.blk o = H.blk o' → o = o'
  lt : ∀ b, H.wr b → b < w.heap.size
/-- of a block nothing has turned but a stretch of its cells -/
def Outside (w w' : World) (b off n : Nat) : Prop := ∀ c e, w'.heap[b]? = some (.cells c e (0, 0)) → ∃ c0, w.heap[b]? = some (.cells c0 e (0, 0)) ∧ c.size = c0.size ∧ ∀ j, (j < off ∨ off + n ≤ j) → c[j]? = c0[j]?
theorem Outside.of_eq {w w' : World} {b : Nat} (h : w'.heap[b]? = w.heap[b]?) (off n : Nat) : Outside w w' b off n := fun c e hc => ⟨c, h ▸ hc, rfl, fun _ _ => rfl⟩
theorem Outside.trans {w w1 w2 : World} {b off n : Nat} (h : Outside w w1 b off n) (h' : Outside w1 w2 b off n) : Outside w w2 b off n := by
 intro c e hc
 obtain ⟨c1, h1, h2, h3⟩ := h' c e hc
 obtain ⟨c0, g1, g2, g3⟩ := h c1 e h1
 exact ⟨c0, g1, h2.trans g2, fun j hj => (h3 j hj).trans (g3 j hj)⟩
structure Inv (C : Ctx) (H : View) (st : St) (a : Act) (w : World) : Prop where
  size : a.tmps.size = C.nt
  defers : a.defers = []
  env : ∀ t av, look st.env t = some av → RelV w av H (a.tmps.getD t undef)
  objs : Objs w H st.objs
  wr0 : ∀ b, b < C.w0.heap.size → (H.wr b ↔ C.H0.wr b)
  klen : C.k ≤ st.objs.length
  byref : ∀ o, o < C.k → H.blk o = C.H0.blk o ∧ H.off o = C.H0.off o ∧ H.cap o = C.H0.cap o
  lens : ∀ o cs ver esz flat own, o < C.k → st.objs[o]? = some (.cells cs ver esz flat own) → cs.length = C.ln o
  out : ∀ o, o < C.k → Outside C.w0 w (C.H0.blk o) (C.H0.off o) (C.ln o)
  own : ∀ o ob, st.objs[o]? = some ob → ob.live = true → (o < C.k ∧ ob.mine = false) ∨ C.w0.heap.size ≤ H.blk o
  frame : ∀ b, b < C.w0.heap.size → ¬ C.M0 b → w.heap[b]? = C.w0.heap[b]?
  le : C.w0.heap.size ≤ w.heap.size
  os : w.os = C.w0.os
  tape : w.tape = C.w0.tape
  output : w.output = C.w0.output
  saved : ∀ p, p ∈ C.sv → ∀ t av, look p.2 t = some av → RelV w av H (p.1.getD t undef)
def Rel (C : Ctx) (st : St) (a : Act) (w : World) : Prop := ∃ H, Inv C H st a w
def St.put (st : St) (d : Option Nat) (v : AV) : St := match d with | some d => { st with env := (d, v) :: st.env } | none => st
theorem Inv.put {C : Ctx} {H : View} {st : St} {a : Act} {w : World} (h : Inv C H st a w) (d : Option Nat) (hd : ∀ t, d = some t → t < C.nt) {av : AV} {v : Value} (hv : RelV w av H v) :
  Inv C H (st.put d av) (a.put d v) w := by
 cases d with
 | none => exact h
 | some d =>
  have hlt := hd d rfl
  refine ⟨by simp [Act.put, h.size], h.defers, ?_, h.objs, h.wr0, h.klen, h.byref, h.lens, h.out, h.own, h.frame, h.le, h.os, h.tape, h.output, h.saved⟩
  intro t av' ht
  simp only [St.put, look] at ht
  by_cases e : d = t
  ·subst e
   simp only [beq_self_eq_true, if_true, Option.some.injEq] at ht
   subst ht
   have : (a.put (some d) v).tmps.getD d undef = v := by
    simp [Act.put, Array.getD_eq_getD_getElem?, h.size, hlt]
   rw [this]; exact hv
  ·have hb : (d == t) = false := by simpa using e
   simp only [hb, Bool.false_eq_true, if_false] at ht
   have : (a.put (some d) v).tmps.getD t undef = a.tmps.getD t undef := by
    simp [Act.put, Array.getD_eq_getD_getElem?, Array.getElem?_setIfInBounds_ne e]
   rw [this]; exact h.env t av' ht
/-- the world moves, the view moves: what is known of the frame and of the objects that are named still holds -/
theorem Inv.move {C : Ctx} {H H' : View} {st : St} {a : Act} {w w' : World} {objs' : List AObj} (h : Inv C H st a w) (hk : Keeps w H w' H')
    (ho : Objs w' H' objs') (hw0 : ∀ b, b < C.w0.heap.size → (H'.wr b ↔ H.wr b)) (hkl : C.k ≤ objs'.length) (hby : ∀ o, o < C.k → H'.blk o = H.blk o ∧ H'.off o = H.off o ∧ H'.cap o = H.cap o) (hlens : ∀ o cs ver esz flat own, o < C.k → objs'[o]? = some (.cells cs ver esz flat own) → cs.length = C.ln o) (hou : ∀ o, o < C.k → Outside w w' (C.H0.blk o) (C.H0.off o) (C.ln o)) (hown : ∀ o ob, objs'[o]? = some ob → ob.live = true → (o < C.k ∧ ob.mine = false) ∨ C.w0.heap.size ≤ H'.blk o)
    (hfr : ∀ b, b < C.w0.heap.size → ¬ C.M0 b → w'.heap[b]? = w.heap[b]?) (hle : w.heap.size ≤ w'.heap.size) (hos : w'.os = w.os) (ht : w'.tape = w.tape) (hout : w'.output = w.output) :
    Inv C H' { st with objs := objs' } a w' :=
  ⟨h.size, h.defers, fun t av hl => (h.env t av hl).keeps av hk, ho, fun b hb => (hw0 b hb).trans (h.wr0 b hb), hkl, fun o ho => ⟨(hby o ho).1.trans (h.byref o ho).1, (hby o ho).2.1.trans (h.byref o ho).2.1, (hby o ho).2.2.trans (h.byref o ho).2.2⟩, hlens, fun o ho => (h.out o ho).trans (hou o ho), hown,
   fun b hb hm => (hfr b hb hm).trans (h.frame b hb hm), Nat.le_trans h.le hle, hos.trans h.os, ht.trans h.tape, hout.trans h.output, fun p hp t av ht => (h.saved p hp t av ht).keeps av hk⟩
/-- a draw -/
theorem Keeps.drew (w : World) (H : View) : Keeps w H w.drew H := ⟨fun _ _ h _ => h, fun _ _ h => h, Nat.le_refl _, fun _ _ => Nat.le_refl _, fun _ _ _ => ⟨rfl, rfl, rfl⟩⟩
theorem Keeps.flatIf {w w' : World} {H H' : View} (hk : Keeps w H w' H') (b : Bool) : Keeps w (H.flatIf b) w' (H'.flatIf b) := by
 cases b
 ·exact hk
 ·exact hk.bare
theorem RelO.keeps {w w' : World} {H H' : View} (hk : Keeps w H w' H') {o : Nat} {ob : AObj} (h : RelO w H o ob) (hb : H'.blk o = H.blk o) (hf : H'.off o = H.off o) (hc : H'.cap o = H.cap o)
  (hv : H'.ver o = H.ver o) (hw : H.wr (H.blk o) → H'.wr (H.blk o)) (hh : w'.heap[H.blk o]? = w.heap[H.blk o]?) : RelO w' H' o ob := by
 cases ob with
 | dead => trivial
 | slot => exact hv.trans h
 | iter s pos =>
  obtain ⟨h0, h1, h2, h3⟩ := h
  exact ⟨hv.trans h0, hb ▸ hw h1, hf ▸ h2, by rw [hb, hh]; exact h3⟩
 | bytes s =>
  obtain ⟨h0, h1, h2, h3⟩ := h
  exact ⟨hv.trans h0, hb ▸ hw h1, hf ▸ h2, by rw [hb, hh]; exact h3⟩
 | kv k es =>
  obtain ⟨h0, h1, es', cl, h3, h4, h5⟩ := h
  exact ⟨hv.trans h0, hb ▸ hw h1, es', cl, by rw [hb, hh]; exact h3, h4, RelL.keeps _ hk.bare h5⟩
 | cells cs ver esz flat own =>
  obtain ⟨h1, h2, vs, c, e, h3, h4, h5, h6⟩ := h
  refine ⟨hv.trans h1, hb ▸ hw h2, vs, c, e, by rw [hb, hh]; exact h3, h4.keeps cs (hk.flatIf flat), by rw [hf]; exact h5, ?_⟩
  rw [hf, hc]; exact h6
/-- one more object -/
def View.add (H : View) (b cap : Nat) : View :=
  { n := H.n + 1, blk := fun o => if o = H.n then b else H.blk o, off := fun o => if o = H.n then 0 else H.off o, cap := fun o => if o = H.n then cap else H.cap o,
    ver := fun o => if o = H.n then 0 else H.ver o, wr := fun x => H.wr x ∨ x = b }
theorem Keeps.add (w : World) (H : View) (o : Obj) (cap : Nat) : Keeps w H (w.alloc o) (H.add w.heap.size cap) := by
 refine ⟨fun a v h _ => by rw [World.cell?_alloc_lt]; exact h; exact World.block_lt_of_cell? w a h, fun b hb hwr => ?_, Nat.le_succ _, fun o' ho' => ?_, fun o' ho' _ => ?_⟩
 ·rcases hwr with h | h
  ·exact h
  ·omega
 ·have : o' ≠ H.n := by omega
  simp [View.add, this]
 ·have : o' ≠ H.n := by omega
  simp [View.add, this]
theorem Objs.wr_blk {w : World} {H : View} {objs : List AObj} (h : Objs w H objs) {i : Nat} {ob : AObj} (hi : objs[i]? = some ob) (hl : ob.live = true) : H.wr (H.blk i) := by
 have := h.rel i ob hi
 cases ob with
 | dead => cases hl
 | slot => cases hl
 | cells => exact this.2.1
 | iter => exact this.2.1
 | bytes => exact this.2.1
 | kv => exact this.2.1
theorem Inv.new {C : Ctx} {H : View} {st : St} {a : Act} {w : World} (h : Inv C H st a w) {ob : AObj} {o : Obj} (cap : Nat)
  (hr : RelO (w.alloc o) (H.add w.heap.size cap) H.n ob) :
  Inv C (H.add w.heap.size cap) { st with objs := st.objs ++ [ob] } a (w.alloc o) := by
 have hk := Keeps.add w H o cap
 have hn := h.objs.n
 have hkl := h.klen
 have hby : ∀ x, x < C.k → (H.add w.heap.size cap).blk x = H.blk x ∧ (H.add w.heap.size cap).off x = H.off x ∧ (H.add w.heap.size cap).cap x = H.cap x := by
  intro x hx
  have : x ≠ H.n := by omega
  simp [View.add, this]
 refine h.move hk ⟨by simp [View.add, hn], ?_, ?_, ?_⟩ ?_ (by simp; omega) hby (fun o cs ver esz flat own ho hob => ?_) (fun o ho => ?_) ?_ ?_ (by simp) rfl rfl rfl
 rotate_left 4
 ·rw [List.getElem?_append_left (by omega)] at hob
  exact h.lens o cs ver esz flat own ho hob
 ·exact Outside.of_eq (Below.heap_alloc w _ _ (Nat.lt_of_lt_of_le (C.hk o ho) h.le)) _ _
 rotate_right 4
 ·intro i ob' hi
  rcases get_snoc hi with ⟨hlt, hi⟩ | ⟨e, rfl⟩
  ·have hne : i ≠ H.n := by omega
   by_cases hl : ob'.live = true
   ·refine (h.objs.rel i ob' hi).keeps hk (by simp [View.add, hne]) (by simp [View.add, hne]) (by simp [View.add, hne]) (by simp [View.add, hne]) (fun x => .inl x) ?_
    exact Below.heap_alloc w o _ (h.objs.lt _ (h.objs.wr_blk hi hl))
   ·cases ob' <;> first | trivial | (simp [AObj.live] at hl; done) | (have := h.objs.rel i _ hi; simpa [RelO, View.add, hne] using this)
  ·rw [show i = H.n by omega]; exact hr
 ·intro i i' ob1 ob2 h1 h2 l1 l2 he
  rcases get_snoc h1 with ⟨a1, g1⟩ | ⟨a1, g1⟩ <;> rcases get_snoc h2 with ⟨a2, g2⟩ | ⟨a2, g2⟩
  ·have n1 : i ≠ H.n := by omega
   have n2 : i' ≠ H.n := by omega
   simp only [View.add, if_neg n1, if_neg n2] at he
   exact h.objs.inj i i' ob1 ob2 g1 g2 l1 l2 he
  ·have n1 : i ≠ H.n := by omega
   have n2 : i' = H.n := by omega
   simp only [View.add, if_neg n1, if_pos n2] at he
   have := h.objs.lt _ (h.objs.wr_blk g1 l1)
   omega
  ·have n1 : i = H.n := by omega
   have n2 : i' ≠ H.n := by omega
   simp only [View.add, if_pos n1, if_neg n2] at he
   have := h.objs.lt _ (h.objs.wr_blk g2 l2)
   omega
  ·omega
 ·intro b hb
  rcases hb with hb | hb
  ·have := h.objs.lt b hb; simp; omega
  ·simp; omega
 ·intro b hb
  refine ⟨fun hx => hx.resolve_right (by have := h.le; omega), .inl⟩
 ·intro i ob' hi hl
  rcases get_snoc hi with ⟨hlt, hi⟩ | ⟨e, rfl⟩
  ·simp only [View.add, if_neg (show i ≠ H.n by omega)]
   exact h.own i ob' hi hl
  ·simp only [View.add, if_pos (show i = H.n by omega)]
   exact .inr h.le
 ·intro b hb _
  exact Below.heap_alloc w o b (Nat.lt_of_lt_of_le hb h.le)
/-- the block of an object is written: another object in its place, all else stays -/
theorem Inv.write {C : Ctx} {H H' : View} {st : St} {a : Act} {w w' : World} (h : Inv C H st a w) {o : Nat} {ob ob' : AObj} (ho : st.objs[o]? = some ob) (hl : ob.live = true) (hm : ob'.mine = true → ob.mine = true)
  (hH : H'.n = H.n ∧ (∀ x, x ≠ o → H'.blk x = H.blk x ∧ H'.off x = H.off x ∧ H'.cap x = H.cap x ∧ H'.ver x = H.ver x))
  (hoo : (H'.ver o = H.ver o ∧ H'.blk o = H.blk o ∧ H'.off o = H.off o ∧ H'.cap o = H.cap o) ∨ H.ver o < H'.ver o)
  (hblk : H'.blk o = H.blk o ∨ (w.heap.size ≤ H'.blk o ∧ H'.blk o < w'.heap.size)) (hkk : o < C.k → H'.blk o = H.blk o ∧ H'.off o = H.off o ∧ H'.cap o = H.cap o ∧ (∀ cs ver esz flat own, ob' = .cells cs ver esz flat own → cs.length = C.ln o) ∧ Outside w w' (H.blk o) (H.off o) (C.ln o))
  (hwr : ∀ b, H'.wr b ↔ (H.wr b ∨ (b = H'.blk o ∧ w.heap.size ≤ b)))
  (hheap : ∀ b, b < w.heap.size → b ≠ H.blk o → w'.heap[b]? = w.heap[b]?)
  (hsz : w.heap.size ≤ w'.heap.size) (hos : w'.os = w.os) (ht : w'.tape = w.tape) (hout : w'.output = w.output)
  (hr : RelO w' H' o ob') : Inv C H' { st with objs := st.objs.set o ob' } a w' := by
 have hwo := h.objs.wr_blk ho hl
 have holt : o < st.objs.length := (List.getElem?_eq_some_iff.1 ho).1
 have hn := h.objs.n
 have hk : Keeps w H w' H' := by
  refine ⟨fun ad v hc hx => ?_, fun b hb hx => ?_, Nat.le_of_eq hH.1.symm, fun x hx => ?_, fun x hx hv => ?_⟩
  ·have hb := World.block_lt_of_cell? w ad hc
   have : ad.block ≠ H.blk o := fun e => hx (e ▸ hwo)
   rw [World.cell?_of_block (w := w) (hheap _ hb this)]; exact hc
  ·rcases (hwr b).1 hx with h1 | h1
   ·exact h1
   ·omega
  ·by_cases e : x = o
   ·subst e; rcases hoo with ⟨h1, _⟩ | h1
    ·omega
    ·omega
   ·rw [(hH.2 x e).2.2.2]; exact Nat.le_refl _
  ·by_cases e : x = o
   ·subst e; rcases hoo with ⟨_, h1, h2, h3⟩ | h1
    ·exact ⟨h1, h2, h3⟩
    ·omega
   ·exact ⟨(hH.2 x e).1, (hH.2 x e).2.1, (hH.2 x e).2.2.1⟩
 refine h.move hk ⟨by simp [hH.1, hn], ?_, ?_, ?_⟩ ?_ (by simpa using h.klen) (fun x hx => ?_) (fun x cs ver esz flat own hx hob => ?_) (fun x hx => ?_) ?_ ?_ hsz hos ht hout
 rotate_left 4
 ·by_cases e : x = o
  ·subst e; exact ⟨(hkk hx).1, (hkk hx).2.1, (hkk hx).2.2.1⟩
  ·exact ⟨(hH.2 x e).1, (hH.2 x e).2.1, (hH.2 x e).2.2.1⟩
 ·by_cases e : x = o
  ·subst e
   rw [List.getElem?_set_self holt] at hob
   injection hob with hob
   exact (hkk hx).2.2.2.1 _ _ _ _ _ hob
  ·rw [List.getElem?_set_ne (fun y => e y.symm)] at hob
   exact h.lens x cs ver esz flat own hx hob
 ·obtain ⟨q1, q2, q3⟩ := h.byref x hx
  by_cases e : x = o
  ·subst e
   rw [← q1, ← q2]; exact (hkk hx).2.2.2.2
  ·refine Outside.of_eq (hheap _ (Nat.lt_of_lt_of_le (C.hk x hx) h.le) fun hb => ?_) _ _
   rcases h.own o ob ho hl with ⟨h1, _⟩ | h1
   ·exact e (C.hj x o hx h1 (hb.trans (h.byref o h1).1))
   ·have := C.hk x hx; omega
 rotate_right 4
 ·intro i ob2 hi
  by_cases e : i = o
  ·subst e
   rw [List.getElem?_set_self holt] at hi
   injection hi with hi; subst hi; exact hr
  ·rw [List.getElem?_set_ne (fun x => e x.symm)] at hi
   obtain ⟨b1, b2, b3, b4⟩ := hH.2 i e
   by_cases hl2 : ob2.live = true
   ·refine (h.objs.rel i ob2 hi).keeps hk b1 b2 b3 b4 (fun hx => (hwr _).2 (.inl hx)) ?_
    refine hheap _ (h.objs.lt _ (h.objs.wr_blk hi hl2)) (fun hx => e ?_)
    exact h.objs.inj i o ob2 ob hi ho hl2 hl hx
   ·cases ob2 <;> first | trivial | (simp [AObj.live] at hl2; done) | (have := h.objs.rel i _ hi; exact b4.trans this)
 ·intro i i' ob1 ob2 h1 h2 l1 l2 he
  by_cases e1 : i = o <;> by_cases e2 : i' = o
  ·omega
  ·subst e1
   rw [List.getElem?_set_ne (fun x => e2 x.symm)] at h2
   rw [(hH.2 i' e2).1] at he
   rcases hblk with hb | ⟨hb, _⟩
   ·rw [hb] at he
    exact h.objs.inj i i' ob ob2 ho h2 hl l2 he
   ·have := h.objs.lt _ (h.objs.wr_blk h2 l2); omega
  ·subst e2
   rw [List.getElem?_set_ne (fun x => e1 x.symm)] at h1
   rw [(hH.2 i e1).1] at he
   rcases hblk with hb | ⟨hb, _⟩
   ·rw [hb] at he
    exact h.objs.inj i i' ob1 ob h1 ho l1 hl he
   ·have := h.objs.lt _ (h.objs.wr_blk h1 l1); omega
  ·rw [List.getElem?_set_ne (fun x => e1 x.symm)] at h1
   rw [List.getElem?_set_ne (fun x => e2 x.symm)] at h2
   rw [(hH.2 i e1).1, (hH.2 i' e2).1] at he
   exact h.objs.inj i i' ob1 ob2 h1 h2 l1 l2 he
 ·intro b hb
  rcases (hwr b).1 hb with h1 | ⟨h1, h2⟩
  ·have := h.objs.lt b h1; omega
  ·rcases hblk with h3 | ⟨_, h3⟩
   ·rw [h1, h3] at h2
    have := h.objs.lt _ hwo; omega
   ·omega
 ·intro b hb
  refine ⟨fun hx => ?_, fun hx => (hwr b).2 (.inl hx)⟩
  rcases (hwr b).1 hx with h1 | ⟨h1, h2⟩
  ·exact h1
  ·have := h.le; omega
 ·intro i ob2 hi hl2
  by_cases e : i = o
  ·subst e
   rcases hblk with hb | ⟨hb, _⟩
   ·rw [hb]
    rcases h.own i ob ho hl with ⟨g1, g2⟩ | g1
    ·left
     refine ⟨g1, ?_⟩
     rw [List.getElem?_set_self holt] at hi
     injection hi with hi; subst hi
     cases hq : ob'.mine
     ·rfl
     ·rw [hm hq] at g2; cases g2
    ·exact .inr g1
   ·exact .inr (Nat.le_trans h.le hb)
  ·rw [List.getElem?_set_ne (fun x => e x.symm)] at hi
   rw [(hH.2 i e).1]; exact h.own i ob2 hi hl2
 ·intro b hb hm
  refine hheap b (Nat.lt_of_lt_of_le hb h.le) (fun e => ?_)
  rcases h.own o ob ho hl with ⟨h1, _⟩ | h1
  ·exact hm ⟨o, h1, by rw [e, (h.byref o h1).1]⟩
  ·omega
end Go.Lens

namespace Go.Lens
open Go Go.RowKit
/-- a constant of one cell -/
def ofVal : Value → Option AV
  | .bool b => some (.bool b)
  | .int k n => some (.int k n)
  | .string ⟨⟨l⟩⟩ => some (.str l)
  | .pointer none => some .nilp
  | .slice none 0 0 => some .nils
  | .nilFunc => some .nilFunc
  | .map none => some .nilm
  | _ => none
theorem ofVal_rel {w : World} {H : View} {v : Value} {c : AV} (h : ofVal v = some c) : RelV w c H v := by
 unfold ofVal at h
 split at h <;> first | (injection h with h; subst h; simp [RelV]) | cases h
def ofVals : List Value → Option (List AV)
  | [] => some []
  | v :: vs => match ofVal v, ofVals vs with | some c, some cs => some (c :: cs) | _, _ => none
theorem ofVals_rel {w : World} {H : View} : ∀ {vs : List Value} {cs : List AV}, ofVals vs = some cs → RelL w cs H vs
 | [], _, h => by simp [ofVals] at h; subst h; rfl
 | v :: vs, cs, h => by
  unfold ofVals at h
  split at h
  ·rename_i c cs' h1 h2
   injection h with h; subst h
   exact RelL_cons (ofVal_rel h1) (ofVals_rel h2)
  ·cases h
def ev (st : St) : Operand → Option AV
  | .tmp t => look st.env t
  | .const (.agg ⟨l⟩) => (ofVals l).map .agg
  | .const v => ofVal v
  | .func f => some (.func (.func f) [] [])
  | .global _ => none
theorem ev_rel {C : Ctx} {H : View} {st : St} {a : Act} {w : World} (h : Inv C H st a w) {x : Operand} {c : AV} (hx : ev st x = some c) : RelV w c H (a.eval x) := by
 unfold ev at hx
 split at hx
 ·exact h.env _ _ hx
 ·rename_i l
  cases hl : ofVals l with
  | none => simp [hl] at hx
  | some cs => simp [hl] at hx; subst hx; exact ⟨l, rfl, ofVals_rel hl⟩
 ·exact ofVal_rel hx
 ·injection hx with hx; subst hx; exact ⟨[], [], rfl, rfl, rfl⟩
 ·cases hx
/-! ### arithmetic -/
def intAV (op : BinOp) (k : IntKind) (x y : Int) : Option AV :=
  match op with
  | .add => some (.int k (k.wrap (x + y)))
  | .sub => some (.int k (k.wrap (x - y)))
  | .mul => some (.int k (k.wrap (x * y)))
  | .quo => if y = 0 then none else some (.int k (k.wrap (x.tdiv y)))
  | .rem => if y = 0 then none else some (.int k (x.tmod y))
  | .and => some (.int k (bits .and k x y))
  | .or => some (.int k (bits .or k x y))
  | .xor => some (.int k (bits .xor k x y))
  | .andNot => some (.int k (bits .andNot k x y))
  | .eql => some (.bool (x == y))
  | .neq => some (.bool (x != y))
  | .lss => some (.bool (decide (x < y)))
  | .leq => some (.bool (decide (x ≤ y)))
  | .gtr => some (.bool (decide (x > y)))
  | .geq => some (.bool (decide (x ≥ y)))
  | _ => none
def shAV (op : BinOp) (k : IntKind) (x y : Int) : Option AV :=
  if y < 0 then none else match op with
  | .shl => some (.int k (k.wrap (x * 2 ^ (min y.toNat k.bits))))
  | .shr => some (.int k (x.fdiv (2 ^ (min y.toNat k.bits))))
  | _ => none
def strAV (op : BinOp) (s t : List UInt8) : Option AV :=
  match op with
  | .add => if s.length + t.length ≤ 9223372036854775807 then some (.str (s ++ t)) else none
  | .eql => some (.bool (s == t))
  | .neq => some (.bool (!(s == t)))
  | .lss => some (.bool (Op.bytesLess s t))
  | .leq => some (.bool (Op.bytesLess s t || s == t))
  | .gtr => some (.bool (!(Op.bytesLess s t || s == t)))
  | .geq => some (.bool (!(Op.bytesLess s t)))
  | _ => none
def isShift : BinOp → Bool
  | .shl | .shr => true
  | _ => false
def binAV (op : BinOp) (a b : AV) : Option AV :=
  match a, b with
  | .int k x, .int k' y => if isShift op then shAV op k x y else if k = k' then intAV op k x y else none
  | .str s, .str t => strAV op s t
  | _, _ => none
def unAV (op : UnOp) (a : AV) : Option AV :=
  match op, a with
  | .neg, .int k n => some (.int k (k.wrap (0 - n)))
  | .not, .bool b => some (.bool (!b))
  | .xor, .int k n => some (.int k (bits .xor k (if k.signed then -1 else k.max) n))
  | _, _ => none
theorem toList_mk (s : List UInt8) : (ByteArray.mk s.toArray).toList = s := by rw [Lib.toList_data]
theorem size_mk (s : List UInt8) : (ByteArray.mk s.toArray).size = s.length := by rw [Lib.size_eq]
theorem append_mk (s t : List UInt8) : ByteArray.mk s.toArray ++ ByteArray.mk t.toArray = ByteArray.mk (s ++ t).toArray := by
 have h := Lib.mk_data (ByteArray.mk s.toArray ++ ByteArray.mk t.toArray)
 rw [← h]
 congr 2
section
variable {P : Program} {w : World} {H : View}
theorem int_sound {op : BinOp} {k : IntKind} {x y : Int} {t : TypeId} {r : AV} (hs : isShift op = false) (h : intAV op k x y = some r) :
  ∃ v, (binOp op t (.int k x) (.int k y)).run P w = .ok v w ∧ RelV w r H v := by
 cases op <;> simp only [intAV, isShift] at h hs <;> try (first | (simp at hs; done) | (simp at h; done))
 all_goals first
  | (injection h with h; subst h; simp [binOp, Op.intArith, Op.intCmp, RelV]; done)
  | (injection h with h; subst h; simp [binOp, intBits_and, intBits_or, intBits_xor, intBits_andNot, RelV]; done)
  | skip
 all_goals
  split at h
  ·cases h
  ·rename_i hy
   injection h with h; subst h
   simp [binOp, Op.intDiv, hy, RelV]
theorem sh_sound {op : BinOp} {k k' : IntKind} {x y : Int} {t : TypeId} {r : AV} (hs : isShift op = true) (h : shAV op k x y = some r) :
  ∃ v, (binOp op t (.int k x) (.int k' y)).run P w = .ok v w ∧ RelV w r H v := by
 unfold shAV at h
 split at h
 ·cases h
 ·rename_i hy
  cases op <;> simp [isShift] at hs <;> (simp only [Option.some.injEq] at h; subst h; simp [binOp, Op.shift, hy, RelV])
theorem str_sound {op : BinOp} {s u : List UInt8} {t : TypeId} {r : AV} (h : strAV op s u = some r) :
  ∃ v, (binOp op t (.string ⟨s.toArray⟩) (.string ⟨u.toArray⟩)).run P w = .ok v w ∧ RelV w r H v := by
 cases op <;> simp only [strAV] at h <;> try (simp at h; done)
 case add =>
  split at h
  ·rename_i hl
   injection h with h; subst h
   have : ¬ (((ByteArray.mk s.toArray).size + (ByteArray.mk u.toArray).size : Nat) : Int) > IntKind.i64.max := by
    rw [size_mk, size_mk, IntKind.max_i64]; omega
   refine ⟨_, ?_, rfl⟩
   simp only [binOp, Op.stringOp, if_neg this, append_mk]
   rfl
  ·cases h
 all_goals
  injection h with h; subst h
  refine ⟨_, ?_, rfl⟩
  simp only [binOp, Op.stringOp, toList_mk]
  first | rfl | simp
theorem bin_sound {op : BinOp} {X Y : Operand} {x y r : AV} {u v : Value} {t : TypeId} (h : binAV op x y = some r) (hx : RelV w x H u) (hy : RelV w y H v) :
  ∃ z, (do eqGuard op t X Y u v; binOp op t u v : Sem Value).run P w = .ok z w ∧ RelV w r H z := by
 unfold binAV at h
 split at h
 ·rename_i k a k' b
  simp only [RelV] at hx hy
  subst hx; subst hy
  simp only [eqGuard_at_int]
  split at h
  ·rename_i hs
   simpa using sh_sound hs h
  ·rename_i hs
   split at h
   ·rename_i hk; subst hk
    simpa using int_sound (by simpa using hs) h
   ·cases h
 ·rename_i a b
  simp only [RelV] at hx hy
  subst hx; subst hy
  simp only [eqGuard_at_string]
  simpa using str_sound h
 ·cases h
theorem un_sound {op : UnOp} {x r : AV} {u : Value} (h : unAV op x = some r) (hx : RelV w x H u) :
  ∃ z, (Op.unary op u).run P w = .ok z w ∧ RelV w r H z := by
 unfold unAV at h
 split at h <;> first | (cases h; done) | skip
 all_goals
  injection h with h; subst h
  simp only [RelV] at hx
  subst hx
  simp [Op.unary, Op.intArith, intBits_xor, RelV]
end
end Go.Lens

set_option linter.unusedVariables false
set_option linter.unusedSimpArgs false
namespace Go.Lens
open Go Go.RowKit
/-- The operation hands back `av`; the store is then `objs'`. -/
def VStep (C : Ctx) (o : Oper) (st : St) (av : AV) (objs' : List AObj) : Prop :=
  ∀ H a w, Inv C H st a w → ∃ v w' H', (execOp a.eval o).run C.P w = .ok (.value v) w' ∧ Inv C H' { st with objs := objs' } a w' ∧ RelV w' av H' v
/-- The operation hands back nothing; the store is then `objs'`. -/
def SStep (C : Ctx) (o : Oper) (st : St) (objs' : List AObj) : Prop :=
  ∀ H a w, Inv C H st a w → ∃ w' H', (execOp a.eval o).run C.P w = .ok .skip w' ∧ Inv C H' { st with objs := objs' } a w'
/-- operations that neither read nor write memory, nor ask for a type -/
def pureAV (st : St) (o : Oper) : Option AV :=
  match o.op with
  | .move x | .assign x => ev st x
  | .pick c a b => match ev st c with | some (.bool true) => ev st a | some (.bool false) => ev st b | _ => none
  | .binOp op _ x y _ => match ev st x, ev st y with | some a, some b => binAV op a b | _, _ => none
  | .unOp op _ x => match ev st x with | some a => unAV op a | _ => none
  | .extract x i => match ev st x with | some (.tup vs) => vs[i]? | _ => none
  | .nilCheck x => match ev st x with
    | some (.radr cs) => some (.radr cs)
    | some (.func (.func f) x y) => some (.func (.func f) x y)
    | _ => none
  | _ => none
theorem VStep.of_pure {C : Ctx} {o : Oper} {st : St} {av : AV} (h : ∀ H a w, Inv C H st a w → ∃ v, (execOp a.eval o).run C.P w = .ok (.value v) w ∧ RelV w av H v) : VStep C o st av st.objs := by
 intro H a w hi
 obtain ⟨v, h1, h2⟩ := h H a w hi
 exact ⟨v, w, H, h1, hi, h2⟩
theorem v_pure {C : Ctx} {o : Oper} {st : St} {av : AV} (h : pureAV st o = some av) : VStep C o st av st.objs := by
 refine VStep.of_pure fun H a w hi => ?_
 obtain ⟨dst, op, ty, pos, after, guard⟩ := o
 cases op <;> simp only [pureAV] at h <;> try (cases h; done)
 case move x => exact ⟨_, by simp [execOp], ev_rel hi h⟩
 case assign x => exact ⟨_, by simp [execOp], ev_rel hi h⟩
 case pick c x y =>
  split at h
  ·rename_i hc
   have := ev_rel hi hc
   simp only [RelV] at this
   exact ⟨_, by simp [execOp, this, asBool], ev_rel hi h⟩
  ·rename_i hc
   have := ev_rel hi hc
   simp only [RelV] at this
   exact ⟨_, by simp [execOp, this, asBool], ev_rel hi h⟩
  ·cases h
 case binOp op t x y ty =>
  split at h
  ·rename_i u v hu hv
   obtain ⟨z, h1, h2⟩ := bin_sound (P := C.P) (w := w) (H := H) (X := x) (Y := y) (t := t) h (ev_rel hi hu) (ev_rel hi hv)
   refine ⟨z, ?_, h2⟩
   simp only [execOp, Sem.run_bind, h1, Result.andThen_ok, Sem.run_pure]
  ·cases h
 case unOp op t x =>
  split at h
  ·rename_i u hu
   obtain ⟨z, h1, h2⟩ := un_sound (P := C.P) (w := w) (H := H) h (ev_rel hi hu)
   exact ⟨z, by simp [execOp, h1], h2⟩
  ·cases h
 case extract x i =>
  split at h
  ·rename_i vs hx
   obtain ⟨us, e, hr⟩ := ev_rel hi hx
   obtain ⟨v, hv, hrv⟩ := hr.get i av h
   refine ⟨v, ?_, hrv⟩
   simp [execOp, Instr.extract, e, hv]
  ·cases h
 case nilCheck x =>
  split at h
  ·rename_i cs hx
   injection h with h; subst h
   have hr := ev_rel hi hx
   obtain ⟨ad, vs, e, h1, h2⟩ := hr
   refine ⟨a.eval x, ?_, ev_rel hi hx⟩
   simp [execOp, e]
  ·rename_i f x' y' hx
   injection h with h; subst h
   have hr := ev_rel hi hx
   obtain ⟨xs, ys, e, h1, h2⟩ := hr
   refine ⟨a.eval x, ?_, ev_rel hi hx⟩
   simp [execOp, e]
  ·cases h
/-! ### types -/
theorem Ctx.ty {C : Ctx} {t : TypeId} {y : Ty} (h : C.T.at t = some y) : ∃ d i, C.P.underlying t = some d ∧ C.P.info? t = some i ∧ y.k = kOf d ∧ y.size = i.size ∧ y.bytes = i.bytes ∧ y.zero = i.zero.map fun z => z.cells.toList :=
 tyOf_spec (C.ok t y h)
theorem kOf_slice {d : TypeDesc} {e : TypeId} (h : .slice e = kOf d) : d = .slice e := by cases d <;> simp [kOf] at h; rw [h]
theorem kOf_string {d : TypeDesc} (h : .string = kOf d) : d = .string := by cases d <;> simp [kOf] at h; rfl
theorem kOf_int {d : TypeDesc} {k : IntKind} (h : .int k = kOf d) : d = .int k := by cases d <;> simp [kOf] at h; rw [h]
theorem kOf_bool {d : TypeDesc} (h : .bool = kOf d) : d = .bool := by cases d <;> simp [kOf] at h; rfl
theorem kOf_array {d : TypeDesc} {n : Nat} {e : TypeId} (h : .array n e = kOf d) : d = .array n e := by cases d <;> simp [kOf] at h; rw [h.1, h.2]
theorem kOf_pointer {d : TypeDesc} {e : TypeId} (h : .pointer e = kOf d) : d = .pointer e := by cases d <;> simp [kOf] at h; rw [h]
theorem kOf_struct {d : TypeDesc} {fs : List (Nat × TypeId)} (h : .struct fs = kOf d) : ∃ f, d = .struct f ∧ fs = f.toList.map fun f => (f.offset, f.type) := by
 cases d <;> simp [kOf] at h; exact ⟨_, rfl, h⟩
def TyK.agg : TyK → Bool
  | .struct _ | .array _ _ => true
  | _ => false
theorem agg_kOf (d : TypeDesc) : (kOf d).agg = (match d with | .struct _ | .array _ _ => true | _ => false) := by cases d <;> rfl
theorem run_isAgg {C : Ctx} {t : TypeId} {y : Ty} (h : C.T.at t = some y) (w : World) : (isAgg t).run C.P w = .ok y.k.agg w := by
 obtain ⟨d, i, hd, _, hk, _⟩ := C.ty h
 unfold isAgg
 rw [Sem.run_bind, run_underlying hd w, hk, agg_kOf]
 cases d <;> rfl
theorem run_sizeOf {C : Ctx} {t : TypeId} {y : Ty} (h : C.T.at t = some y) (w : World) : (sizeOf t).run C.P w = .ok y.size w := by
 obtain ⟨d, i, _, hi, _, hs, _⟩ := C.ty h
 simp [sizeOf, typeInfo, hi, hs]
theorem run_zeroValue {C : Ctx} {t : TypeId} {y : Ty} (h : C.T.at t = some y) {z : List Value} (hz : y.zero = some z) (w : World) : ∃ v, (zeroValue t).run C.P w = .ok v w ∧ v.cells = z.toArray := by
 obtain ⟨d, i, _, hi, _, _, _, h0⟩ := C.ty h
 rw [hz] at h0
 cases hq : i.zero with
 | none => rw [hq] at h0; cases h0
 | some v =>
  rw [hq] at h0
  simp at h0
  exact ⟨v, by simp [zeroValue, typeInfo, hi, hq], by rw [h0]⟩
/-! ### reading -/
/-- the value of type `y` whose first cell stands at place `i` -/
def loadc (y : Ty) (cs : List AV) (i : Nat) : Option AV :=
  if y.k.agg then (if i + y.size ≤ cs.length then some (.agg ((cs.drop i).take y.size)) else none) else cs[i]?
theorem loadVar_at {C : Ctx} {t : TypeId} {y : Ty} (hy : C.T.at t = some y) {w : World} {H : View} {ad : Addr} {cs : List AV} {vs : List Value} (hr : RelL w cs H vs) {i : Nat}
  (hat : ∀ j u, vs[i + j]? = some u → w.cell? (ad.add j) = some u) {av : AV} (hl : loadc y cs i = some av) : ∃ v, (loadVar t ad).run C.P w = .ok v w ∧ RelV w av H v := by
 unfold loadc at hl
 cases hag : y.k.agg with
 | true =>
  simp only [hag, if_true] at hl
  split at hl
  ·rename_i hle
   injection hl with hl; subst hl
   have hlen : ((vs.drop i).take y.size).length = y.size := by
    have := hr.length; simp; omega
   have hc := run_loadCells_list (P := C.P) w ad ((vs.drop i).take y.size) (fun j u hu => by
    rw [List.getElem?_take] at hu
    split at hu
    ·rw [List.getElem?_drop] at hu; exact hat j u hu
    ·cases hu)
   rw [hlen] at hc
   refine ⟨.agg ((vs.drop i).take y.size).toArray, ?_, ⟨_, rfl, (hr.drop i).take y.size⟩⟩
   simp [loadVar, run_isAgg hy, hag, run_sizeOf hy, hc]
  ·cases hl
 | false =>
  simp only [hag, Bool.false_eq_true, if_false] at hl
  obtain ⟨v, hv, hrv⟩ := hr.get i av hl
  have := hat 0 v (by simpa using hv)
  refine ⟨v, ?_, hrv⟩
  have h0 : ad.add 0 = ad := by simp [Addr.add]
  rw [h0] at this
  simp [loadVar, run_isAgg hy, hag, this]
theorem v_load {C : Ctx} {o : Oper} {st : St} {av : AV} {t : TypeId} {x : Operand} {ob ver i esz : Nat} {cs : List AV} {flat : Bool} {own : Option TypeId} {y : Ty} (hop : o.op = .load t x)
  (hx : ev st x = some (.ptr ob ver i)) (hob : st.objs[ob]? = some (.cells cs ver esz flat own)) (hy : C.T.at t = some y) (hl : loadc y cs i = some av) : VStep C o st av st.objs := by
 refine VStep.of_pure fun H a w hi => ?_
 obtain ⟨h1, h2, vs, c, e, h3, h4, h5, h6⟩ := hi.objs.rel ob _ hob
 obtain ⟨_, _, hp⟩ := ev_rel hi hx
 have hp := hp h1
 have key : ∃ v, (loadVar t ⟨H.blk ob, H.off ob + i, none⟩).run C.P w = .ok v w ∧ RelV w av (H.flatIf flat) v := by
  refine loadVar_at hy h4 (i := i) (fun j u hu => ?_) hl
  have : (⟨H.blk ob, H.off ob + i, none⟩ : Addr).add j = ⟨H.blk ob, H.off ob + (i + j), none⟩ := by
   unfold Addr.add; split <;> simp_all [Nat.add_assoc]
  rw [this]
  have := h5 _ _ hu
  simp [World.cell?, h3, this]
 obtain ⟨v, k1, k2⟩ := key
 refine ⟨v, ?_, ?_⟩
 ·simp [execOp, hop, hp, Instr.loadAt, Instr.sureAddr, k1]
 ·cases flat
  ·exact k2
  ·refine RelV.keeps av ?_ k2
   exact ⟨fun _ _ h _ => h, fun _ _ h => h, Nat.zero_le _, fun _ h => absurd h (Nat.not_lt_zero _), fun _ h => absurd h (Nat.not_lt_zero _)⟩
theorem v_load_radr {C : Ctx} {o : Oper} {st : St} {av : AV} {t : TypeId} {x : Operand} {cs : List AV} {y : Ty} (hop : o.op = .load t x)
  (hx : ev st x = some (.radr cs)) (hy : C.T.at t = some y) (hl : loadc y cs 0 = some av) : VStep C o st av st.objs := by
 refine VStep.of_pure fun H a w hi => ?_
 obtain ⟨ad, vs, hp, h1, h2⟩ := ev_rel hi hx
 have key : ∃ v, (loadVar t ad).run C.P w = .ok v w ∧ RelV w av H.bare v := by
  refine loadVar_at hy h1 (i := 0) (fun j u hu => ?_) hl
  rw [Nat.zero_add] at hu
  exact (h2 (fun e => by subst e; simp at hu)).1 j u hu
 obtain ⟨v, k1, k2⟩ := key
 refine ⟨v, ?_, ?_⟩
 ·simp [execOp, hop, hp, Instr.loadAt, Instr.sureAddr, k1]
 ·refine RelV.keeps av ?_ k2
  exact ⟨fun _ _ h _ => h, fun _ _ h => h, Nat.zero_le _, fun _ h => absurd h (Nat.not_lt_zero _), fun _ h => absurd h (Nat.not_lt_zero _)⟩
end Go.Lens

set_option linter.unusedVariables false
set_option linter.unusedSimpArgs false
namespace Go.Lens
open Go Go.RowKit
theorem add_add (a : Addr) (i j : Nat) : (a.add i).add j = a.add (i + j) := by
 unfold Addr.add
 by_cases hi : i = 0 <;> by_cases hj : j = 0 <;> simp [hi, hj, Nat.add_assoc]
theorem add_blk (a : Addr) (i : Nat) : (a.add i).block = a.block := by unfold Addr.add; split <;> rfl
theorem add_mk (b o i : Nat) : (⟨b, o, none⟩ : Addr).add i = ⟨b, o + i, none⟩ := by unfold Addr.add; split <;> simp_all
theorem At.drop {w : World} {a : Addr} {vs : List Value} (h : At w a vs) (i : Nat) : At w (a.add i) (vs.drop i) := by
 intro j u hu
 rw [List.getElem?_drop] at hu
 rw [add_add]
 exact h _ _ hu
theorem At.take {w : World} {a : Addr} {vs : List Value} (h : At w a vs) (i : Nat) : At w a (vs.take i) := by
 intro j u hu
 rw [List.getElem?_take] at hu
 split at hu
 ·exact h j u hu
 ·cases hu
theorem extract_toArray (vs : List Value) (a n : Nat) : vs.toArray.extract a (a + n) = ((vs.drop a).take n).toArray := by
 apply Array.ext'
 simp only [Array.toList_extract, List.extract_eq_take_drop]
 congr 1
 omega
/-! ### fields -/
theorem run_fieldAt {C : Ctx} {s : TypeId} {y : Ty} {fs : List (Nat × TypeId)} {f off ft : Nat} {yf : Ty} (hy : C.T.at s = some y) (hk : y.k = .struct fs) (hf : fs[f]? = some (off, ft))
  (hyf : C.T.at ft = some yf) (hsz : yf.size ≠ 0) (ad : Addr) (w : World) : (Instr.fieldAt s (.pointer (some ad)) f).run C.P w = .ok (.pointer (some (ad.add off))) w := by
 obtain ⟨d, i, hd, _, hkd, _⟩ := C.ty hy
 rw [hk] at hkd
 obtain ⟨g, rfl, hg⟩ := kOf_struct hkd
 rw [hg, List.getElem?_map] at hf
 obtain ⟨fl, hfl, hfe⟩ := Option.map_eq_some_iff.1 hf
 injection hfe with h1 h2
 have hfl' : g[f]? = some fl := by simpa using hfl
 subst h1; subst h2
 simp [Instr.fieldAt, run_underlying hd, hfl', Instr.sureAddr, fieldPlace, run_sizeOf hyf, hsz]
theorem v_fieldAddr {C : Ctx} {o : Oper} {st : St} {s : TypeId} {x : Operand} {f off ft ob ver i : Nat} {y yf : Ty} {fs : List (Nat × TypeId)} {cs : List AV} {esz : Nat} {flat : Bool} {own : Option TypeId} (hop : o.op = .fieldAddr s x f)
  (hx : ev st x = some (.ptr ob ver i)) (hob : st.objs[ob]? = some (.cells cs ver esz flat own)) (hy : C.T.at s = some y) (hk : y.k = .struct fs) (hf : fs[f]? = some (off, ft)) (hyf : C.T.at ft = some yf) (hsz : yf.size ≠ 0) :
  VStep C o st (.ptr ob ver (i + off)) st.objs := by
 refine VStep.of_pure fun H a w hi => ?_
 obtain ⟨h1, _⟩ := hi.objs.rel ob _ hob
 obtain ⟨g1, g2, hp⟩ := ev_rel hi hx
 have hp := hp h1
 refine ⟨.pointer (some ⟨H.blk ob, H.off ob + (i + off), none⟩), ?_, g1, g2, fun _ => rfl⟩
 simp only [execOp, hop, hp, Sem.run_bind, run_fieldAt hy hk hf hyf hsz, Result.andThen_ok, Sem.run_pure, add_mk, Nat.add_assoc]
theorem v_fieldAddr_radr {C : Ctx} {o : Oper} {st : St} {s : TypeId} {x : Operand} {f off ft : Nat} {y yf : Ty} {fs : List (Nat × TypeId)} {cs : List AV} (hop : o.op = .fieldAddr s x f)
  (hx : ev st x = some (.radr cs)) (hy : C.T.at s = some y) (hk : y.k = .struct fs) (hf : fs[f]? = some (off, ft)) (hyf : C.T.at ft = some yf) (hsz : yf.size ≠ 0) :
  VStep C o st (.radr (cs.drop off)) st.objs := by
 refine VStep.of_pure fun H a w hi => ?_
 obtain ⟨ad, vs, hp, h1, h2⟩ := ev_rel hi hx
 refine ⟨.pointer (some (ad.add off)), ?_, ad.add off, vs.drop off, rfl, h1.drop off, fun hne => ?_⟩
 ·simp only [execOp, hop, hp, Sem.run_bind, run_fieldAt hy hk hf hyf hsz, Result.andThen_ok, Sem.run_pure]
 ·obtain ⟨k1, k2⟩ := h2 (fun e => hne (by subst e; simp))
  exact ⟨k1.drop off, by rw [add_blk]; exact k2⟩
/-! ### indexes -/
theorem run_index_addr {C : Ctx} {t e : TypeId} {y ye : Ty} (hy : C.T.at t = some y) (hk : y.k = .slice e) (hye : C.T.at e = some ye) (ad : Addr) (n c : Nat) (k : IntKind) (i : Int) (h0 : 0 ≤ i) (h1 : i < n) (w : World) :
  (Instr.indexAt t (.slice (some ad) n c) (.int k i)).run C.P w = .ok (.pointer (some (ad.add (i.toNat * ye.size)))) w := by
 obtain ⟨d, inf, hd, _, hkd, _⟩ := C.ty hy
 rw [hk] at hkd
 obtain rfl := kOf_slice hkd
 simp [Instr.indexAt, asIntOf, run_underlying hd, h0, h1, run_sizeOf hye]
theorem v_indexAddr {C : Ctx} {o : Oper} {st : St} {t e : TypeId} {x ix : Operand} {ob ver off n esz : Nat} {full flat : Bool} {own : Option TypeId} {cs : List AV} {y ye : Ty} {k : IntKind} {i : Int} (hop : o.op = .indexAddr t x ix)
  (hx : ev st x = some (.sl ob ver off n full)) (hob : st.objs[ob]? = some (.cells cs ver esz flat own)) (hix : ev st ix = some (.int k i)) (hy : C.T.at t = some y) (hk : y.k = .slice e) (hye : C.T.at e = some ye) (h0 : 0 ≤ i) (h1 : i < n) :
  VStep C o st (.ptr ob ver (off + i.toNat * ye.size)) st.objs := by
 refine VStep.of_pure fun H a w hi => ?_
 obtain ⟨hv, _⟩ := hi.objs.rel ob _ hob
 obtain ⟨g1, g2, hp⟩ := ev_rel hi hx
 obtain ⟨ad, c, hp, hnc, hp1, _⟩ := hp hv
 have hri := ev_rel hi hix
 simp only [RelV] at hri
 have := hp1 (by omega)
 subst this
 refine ⟨.pointer (some ⟨H.blk ob, H.off ob + (off + i.toNat * ye.size), none⟩), ?_, g1, g2, fun _ => rfl⟩
 simp only [execOp, hop, hp, hri, Sem.run_bind, run_index_addr hy hk hye _ n c k i h0 h1, Result.andThen_ok, Sem.run_pure, add_mk, Nat.add_assoc]
theorem v_indexAddr_row {C : Ctx} {o : Oper} {st : St} {t e : TypeId} {x ix : Operand} {n : Nat} {cs : List AV} {y ye : Ty} {k : IntKind} {i : Int} (hop : o.op = .indexAddr t x ix)
  (hx : ev st x = some (.row cs n)) (hix : ev st ix = some (.int k i)) (hy : C.T.at t = some y) (hk : y.k = .slice e) (hye : C.T.at e = some ye) (h0 : 0 ≤ i) (h1 : i < n) (hne : cs ≠ []) :
  VStep C o st (.radr (cs.drop (i.toNat * ye.size))) st.objs := by
 refine VStep.of_pure fun H a w hi => ?_
 obtain ⟨A, c, vs, hp, hnc, hr, h2⟩ := ev_rel hi hx
 have hri := ev_rel hi hix
 simp only [RelV] at hri
 have hvs : vs ≠ [] := fun e => hne (by have := hr.length; subst e; simpa using this)
 obtain ⟨ad, rfl, hat, hwr⟩ := h2 hvs
 refine ⟨.pointer (some (ad.add (i.toNat * ye.size))), ?_, _, vs.drop (i.toNat * ye.size), rfl, hr.drop _, fun _ => ⟨hat.drop _, by rw [add_blk]; exact hwr⟩⟩
 simp only [execOp, hop, hp, hri, Sem.run_bind, run_index_addr hy hk hye _ n c k i h0 h1, Result.andThen_ok, Sem.run_pure]
/-- an element of an array variable -/
theorem v_indexAddr_arr {C : Ctx} {o : Oper} {st : St} {t e : TypeId} {x ix : Operand} {ob ver p n esz : Nat} {flat : Bool} {own : Option TypeId} {cs : List AV} {y ye : Ty} {k : IntKind} {i : Int} (hop : o.op = .indexAddr t x ix)
  (hx : ev st x = some (.ptr ob ver p)) (hob : st.objs[ob]? = some (.cells cs ver esz flat own)) (hix : ev st ix = some (.int k i)) (hy : C.T.at t = some y) (hk : y.k = .array n e) (hye : C.T.at e = some ye) (h0 : 0 ≤ i) (h1 : i < n) :
  VStep C o st (.ptr ob ver (p + i.toNat * ye.size)) st.objs := by
 refine VStep.of_pure fun H a w hi => ?_
 obtain ⟨hv, _⟩ := hi.objs.rel ob _ hob
 obtain ⟨g1, g2, hp⟩ := ev_rel hi hx
 have hp := hp hv
 have hri := ev_rel hi hix
 simp only [RelV] at hri
 obtain ⟨d, inf, hd, _, hkd, _⟩ := C.ty hy
 rw [hk] at hkd
 obtain rfl := kOf_array hkd
 refine ⟨.pointer (some ⟨H.blk ob, H.off ob + (p + i.toNat * ye.size), none⟩), ?_, g1, g2, fun _ => rfl⟩
 simp [execOp, hop, hp, hri, Instr.indexAt, asIntOf, run_underlying hd, Instr.sureAddr, h0, h1, run_sizeOf hye, add_mk, Nat.add_assoc]
theorem v_index_str {C : Ctx} {o : Oper} {st : St} {t : TypeId} {x ix : Operand} {s : List UInt8} {y : Ty} {k : IntKind} {i : Int} {b : UInt8} (hop : o.op = .index t x ix)
  (hx : ev st x = some (.str s)) (hix : ev st ix = some (.int k i)) (hy : C.T.at t = some y) (hk : y.k = .string) (h0 : 0 ≤ i) (hb : s[i.toNat]? = some b) :
  VStep C o st (.int .u8 b.toNat) st.objs := by
 refine VStep.of_pure fun H a w hi => ?_
 have hp := ev_rel hi hx
 have hri := ev_rel hi hix
 simp only [RelV] at hri hp
 obtain ⟨d, inf, hd, _, hkd, _⟩ := C.ty hy
 rw [hk] at hkd
 obtain rfl := kOf_string hkd
 refine ⟨.int .u8 b.toNat, ?_, rfl⟩
 have hb' : (ByteArray.mk s.toArray)[i.toNat]? = some b := by
  obtain ⟨hlt, e⟩ := List.getElem?_eq_some_iff.1 hb
  have hsz : i.toNat < (ByteArray.mk s.toArray).size := by rw [size_mk]; exact hlt
  rw [getElem?_pos (ByteArray.mk s.toArray) i.toNat hsz]
  exact congrArg some e
 simp [execOp, hop, hp, hri, Instr.index, asIntOf, run_underlying hd, h0, hb']
theorem v_index_arr {C : Ctx} {o : Oper} {st : St} {t e : TypeId} {x ix : Operand} {cs : List AV} {n : Nat} {y ye : Ty} {k : IntKind} {i : Int} {av : AV} (hop : o.op = .index t x ix)
  (hx : ev st x = some (.agg cs)) (hix : ev st ix = some (.int k i)) (hy : C.T.at t = some y) (hk : y.k = .array n e) (hye : C.T.at e = some ye) (h0 : 0 ≤ i) (h1 : i < n) (hl : loadc ye cs (i.toNat * ye.size) = some av) :
  VStep C o st av st.objs := by
 refine VStep.of_pure fun H a w hi => ?_
 obtain ⟨vs, hp, hr⟩ := ev_rel hi hx
 have hri := ev_rel hi hix
 simp only [RelV] at hri
 obtain ⟨d, inf, hd, _, hkd, _⟩ := C.ty hy
 rw [hk] at hkd
 obtain rfl := kOf_array hkd
 unfold loadc at hl
 cases hag : ye.k.agg with
 | true =>
  simp only [hag, if_true] at hl
  split at hl
  ·rename_i hle
   injection hl with hl; subst hl
   refine ⟨.agg ((vs.drop (i.toNat * ye.size)).take ye.size).toArray, ?_, _, rfl, (hr.drop _).take _⟩
   simp only [execOp, hop, hp, hri, Instr.index, asIntOf, run_underlying hd, part, run_isAgg hye, hag, run_sizeOf hye, Sem.run_bind, Result.andThen_ok, Sem.run_pure, if_true, h0, h1, and_self]
   rw [extract_toArray]
  ·cases hl
 | false =>
  simp only [hag, Bool.false_eq_true, if_false] at hl
  obtain ⟨v, hv, hrv⟩ := hr.get _ av hl
  refine ⟨v, ?_, hrv⟩
  simp [execOp, hop, hp, hri, Instr.index, asIntOf, run_underlying hd, part, run_isAgg hye, hag, run_sizeOf hye, h0, h1, hv]
/-! ### slices -/
/-- a bound of a slice expression; `d`: what stands for a bound that is not given -/
def Bd (st : St) (d : Nat) : Option Operand → Nat → Prop
  | none, l => l = d
  | some x, l => ∃ k i, ev st x = some (.int k i) ∧ 0 ≤ i ∧ l = i.toNat
theorem run_bound {C : Ctx} {st : St} {H : View} {a : Act} {w : World} (hi : Inv C H st a w) {x : Operand} {l : Nat} (h : ∃ k i, ev st x = some (.int k i) ∧ 0 ≤ i ∧ l = i.toNat) (y : Nat) (code : BoundsCode) (hle : l ≤ y) (w' : World) :
  (Instr.sliceBound (a.eval x) y code).run C.P w' = .ok l w' := by
 obtain ⟨k, i, h1, h2, h3⟩ := h
 have := ev_rel hi h1
 simp only [RelV] at this
 have hc : 0 ≤ i ∧ i ≤ (y : Int) := by omega
 simp [Instr.sliceBound, this, asIntOf, hc, h3]
theorem run_bounds {C : Ctx} {st : St} {H : View} {a : Act} {w : World} (hi : Inv C H st a w) {lo hi' mx : Option Operand} {len cap l h m : Nat} (isSl : Bool)
  (hl : Bd st 0 lo l) (hh : Bd st len hi' h) (hm : Bd st cap mx m) (hmx : mx.isSome = true → hi'.isSome = true) (h1 : l ≤ h) (h2 : h ≤ m) (h3 : m ≤ cap) (w' : World) :
  (Instr.sliceBounds isSl len cap (lo.map a.eval) (hi'.map a.eval) (mx.map a.eval)).run C.P w' = .ok (l, h, m) w' := by
 have hbl : ∀ code (k : Nat → Sem (Nat × Nat × Nat)), (match lo.map a.eval with | some v => (do let l ← Instr.sliceBound v h code; k l) | none => (do let l ← pure 0; k l) : Sem (Nat × Nat × Nat)).run C.P w' = (k l).run C.P w' := by
  intro code k
  cases lo with
  | none => simp only [Bd] at hl; subst hl; rfl
  | some x => simp only [Option.map_some, Sem.run_bind, run_bound hi hl h code h1 w', Result.andThen_ok]
 cases mx with
 | none =>
  simp only [Bd] at hm; subst hm
  cases hi' with
  | none =>
   simp only [Bd] at hh; subst hh
   unfold Instr.sliceBounds
   simp only [Option.map_none, Sem.run_bind, Sem.run_pure, Result.andThen_ok, Option.isSome_none, Bool.false_eq_true, if_false]
   exact hbl _ _
  | some x =>
   unfold Instr.sliceBounds
   have := run_bound hi hh m (if isSl then .sliceAcap else .sliceAlen) h2 w'
   simp only [Option.map_none, Option.map_some, Sem.run_bind, Sem.run_pure, Result.andThen_ok, this, Option.isSome_none, Bool.false_eq_true, if_false]
   exact hbl _ _
 | some z =>
  cases hi' with
  | none => simp at hmx
  | some x =>
   unfold Instr.sliceBounds
   have e1 := run_bound hi hm cap (if isSl then .slice3Acap else .slice3Alen) h3 w'
   have e2 := run_bound hi hh m .slice3B h2 w'
   simp only [Option.map_some, Sem.run_bind, Sem.run_pure, Result.andThen_ok, e1, e2, Option.isSome_some, if_true]
   exact hbl _ _
theorem extract_mk (s : List UInt8) (l h : Nat) : (ByteArray.mk s.toArray).extract l h = ByteArray.mk ((s.drop l).take (h - l)).toArray := by
 rw [Lib.extract_eq]
theorem v_slice_str {C : Ctx} {o : Oper} {st : St} {t : TypeId} {x : Operand} {lo hi' : Option Operand} {s : List UInt8} {y : Ty} {l h : Nat} (hop : o.op = .slice t x lo hi' none)
  (hx : ev st x = some (.str s)) (hy : C.T.at t = some y) (hk : y.k = .string) (hl : Bd st 0 lo l) (hh : Bd st s.length hi' h) (h1 : l ≤ h) (h2 : h ≤ s.length) :
  VStep C o st (.str ((s.drop l).take (h - l))) st.objs := by
 refine VStep.of_pure fun H a w hi => ?_
 have hp := ev_rel hi hx
 simp only [RelV] at hp
 obtain ⟨d, inf, hd, _, hkd, _⟩ := C.ty hy
 rw [hk] at hkd
 obtain rfl := kOf_string hkd
 have hb := run_bounds hi (mx := none) (cap := s.length) false hl hh rfl (by simp) h1 h2 (Nat.le_refl _) w
 refine ⟨_, ?_, rfl⟩
 simp only [Option.map_none] at hb
 simp only [execOp, hop, hp, Instr.sliceAt, run_underlying hd, Instr.slice, Sem.run_bind, Result.andThen_ok, size_mk, Option.map_none, hb, extract_mk, Sem.run_pure, Option.isSome_none, Bool.false_eq_true, if_false]
theorem v_slice_sl {C : Ctx} {o : Oper} {st : St} {t e : TypeId} {x : Operand} {lo hi' mx : Option Operand} {ob ver off n esz : Nat} {full flat : Bool} {own : Option TypeId} {cs : List AV} {y ye : Ty} {l h m : Nat} (hop : o.op = .slice t x lo hi' mx)
  (hx : ev st x = some (.sl ob ver off n full)) (hob : st.objs[ob]? = some (.cells cs ver esz flat own)) (hy : C.T.at t = some y) (hk : y.k = .slice e) (hye : C.T.at e = some ye)
  (hl : Bd st 0 lo l) (hh : Bd st n hi' h) (hm : ∀ z, mx = some z → Bd st 0 mx m ∧ h ≤ m ∧ m ≤ n) (hmx : mx.isSome = true → hi'.isSome = true) (h1 : l ≤ h) (h2 : h ≤ n) :
  VStep C o st (.sl ob ver (off + l * ye.size) (h - l) (full && lo.isNone && mx.isNone)) st.objs := by
 refine VStep.of_pure fun H a w hi => ?_
 obtain ⟨hv, _⟩ := hi.objs.rel ob _ hob
 obtain ⟨g1, g2, hp⟩ := ev_rel hi hx
 obtain ⟨ad, c, hp, hnc, hp1, hp2⟩ := hp hv
 obtain ⟨d, inf, hd, _, hkd, _⟩ := C.ty hy
 rw [hk] at hkd
 obtain rfl := kOf_slice hkd
 obtain ⟨m', hbm, hm1, hm2, hm3⟩ : ∃ m', Bd st c mx m' ∧ h ≤ m' ∧ m' ≤ c ∧ (mx = none → m' = c) := by
  cases mx with
  | none => exact ⟨c, rfl, by omega, Nat.le_refl _, fun _ => rfl⟩
  | some z => obtain ⟨q1, q2, q3⟩ := hm z rfl; exact ⟨m, q1, q2, by omega, fun h => by cases h⟩
 have hb := run_bounds hi (mx := mx) (cap := c) true hl hh hbm hmx h1 hm1 hm2 w
 refine ⟨.slice (if m' = l then some ad else some (ad.add (l * ye.size))) (h - l) (m' - l), ?_, g1, g2, fun _ => ?_⟩
 ·simp only [execOp, hop, hp, Instr.sliceAt, run_underlying hd, Instr.slice, Sem.run_bind, Result.andThen_ok, hb, run_sizeOf hye, Sem.run_pure, Option.map_some]
 ·refine ⟨if m' = l then ad else ad.add (l * ye.size), m' - l, by split <;> rfl, by omega, fun hpos => ?_, fun hf => ?_⟩
  ·rw [if_neg (by omega), hp1 (by omega), add_mk, Nat.add_assoc]
  ·simp only [Bool.and_eq_true, Option.isNone_iff_eq_none] at hf
   obtain ⟨⟨f1, f2⟩, f3⟩ := hf
   obtain ⟨q1, q2, q3⟩ := hp2 f1
   subst f2
   simp only [Bd] at hl
   subst hl
   have := hm3 f3
   refine ⟨?_, by simpa using q2, by omega⟩
   rw [Nat.zero_mul]
   split
   ·exact q1
   ·rw [q1]; rfl
theorem v_slice_row {C : Ctx} {o : Oper} {st : St} {t e : TypeId} {x : Operand} {lo hi' mx : Option Operand} {n : Nat} {cs : List AV} {y ye : Ty} {l h m : Nat} (hop : o.op = .slice t x lo hi' mx)
  (hx : ev st x = some (.row cs n)) (hy : C.T.at t = some y) (hk : y.k = .slice e) (hye : C.T.at e = some ye) (hcs : cs.length = n * ye.size)
  (hl : Bd st 0 lo l) (hh : Bd st n hi' h) (hm : ∀ z, mx = some z → Bd st 0 mx m ∧ h ≤ m ∧ m ≤ n) (hmx : mx.isSome = true → hi'.isSome = true) (h1 : l ≤ h) (h2 : h ≤ n) :
  VStep C o st (.row ((cs.drop (l * ye.size)).take ((h - l) * ye.size)) (h - l)) st.objs := by
 refine VStep.of_pure fun H a w hi => ?_
 obtain ⟨A, c, vs, hp, hnc, hr, hc⟩ := ev_rel hi hx
 obtain ⟨d, inf, hd, _, hkd, _⟩ := C.ty hy
 rw [hk] at hkd
 obtain rfl := kOf_slice hkd
 obtain ⟨m', hbm, hm1, hm2, hm3⟩ : ∃ m', Bd st c mx m' ∧ h ≤ m' ∧ m' ≤ c ∧ (mx = none → m' = c) := by
  cases mx with
  | none => exact ⟨c, rfl, by omega, Nat.le_refl _, fun _ => rfl⟩
  | some z => obtain ⟨q1, q2, q3⟩ := hm z rfl; exact ⟨m, q1, q2, by omega, fun h => by cases h⟩
 have hb := run_bounds hi (mx := mx) (cap := c) true hl hh hbm hmx h1 hm1 hm2 w
 refine ⟨.slice (if m' = l then A else A.map (·.add (l * ye.size))) (h - l) (m' - l), ?_, ?_⟩
 ·simp only [execOp, hop, hp, Instr.sliceAt, run_underlying hd, Instr.slice, Sem.run_bind, Result.andThen_ok, hb, run_sizeOf hye, Sem.run_pure]
 ·refine ⟨_, _, (vs.drop (l * ye.size)).take ((h - l) * ye.size), rfl, by omega, (hr.drop _).take _, fun hne => ?_⟩
  have hlen := hr.length
  have hpos : 0 < h - l := by
   rcases Nat.eq_zero_or_pos (h - l) with h0 | h0
   ·rw [h0] at hne; simp at hne
   ·exact h0
  obtain ⟨ad, rfl, hat, hwr⟩ := hc (fun e => hne (by subst e; simp))
  refine ⟨ad.add (l * ye.size), by rw [if_neg (by omega)]; rfl, (hat.drop _).take _, by rw [add_blk]; exact hwr⟩
/-- a piece of an array variable -/
theorem v_slice_arr {C : Ctx} {o : Oper} {st : St} {t e : TypeId} {x : Operand} {lo hi' : Option Operand} {ob ver p n esz : Nat} {flat : Bool} {own : Option TypeId} {cs : List AV} {y ye : Ty} {l h : Nat} (hop : o.op = .slice t x lo hi' none)
  (hx : ev st x = some (.ptr ob ver p)) (hob : st.objs[ob]? = some (.cells cs ver esz flat own)) (hy : C.T.at t = some y) (hk : y.k = .array n e) (hye : C.T.at e = some ye)
  (hl : Bd st 0 lo l) (hh : Bd st n hi' h) (h1 : l ≤ h) (h2 : h ≤ n) :
  VStep C o st (.sl ob ver (p + l * ye.size) (h - l) false) st.objs := by
 refine VStep.of_pure fun H a w hi => ?_
 obtain ⟨hv, _⟩ := hi.objs.rel ob _ hob
 obtain ⟨g1, g2, hp⟩ := ev_rel hi hx
 have hp := hp hv
 obtain ⟨d, inf, hd, _, hkd, _⟩ := C.ty hy
 rw [hk] at hkd
 obtain rfl := kOf_array hkd
 have hb := run_bounds hi (mx := none) (cap := n) false hl hh rfl (by simp) h1 h2 (Nat.le_refl _) w
 simp only [Option.map_none] at hb
 refine ⟨.slice (some (if n = l then ⟨H.blk ob, H.off ob + p, none⟩ else (⟨H.blk ob, H.off ob + p, none⟩ : Addr).add (l * ye.size))) (h - l) (n - l), ?_, g1, g2, fun _ => ?_⟩
 ·simp only [execOp, hop, hp, Instr.sliceAt, run_underlying hd, Instr.sureAddr, Sem.run_bind, Result.andThen_ok, Option.map_none, hb, run_sizeOf hye, Sem.run_pure]
 ·refine ⟨_, _, rfl, by omega, fun hpos => ?_, fun hf => by cases hf⟩
  rw [if_neg (by omega), add_mk, Nat.add_assoc]
/-- len -/
def lenAV : AV → Option Int
  | .str s => some s.length
  | .nils => some 0
  | .sl _ _ _ n _ => some n
  | .row _ n => some n
  | .clip _ n => some n
  | _ => none
end Go.Lens

set_option linter.unusedVariables false
set_option linter.unusedSimpArgs false
namespace Go.Lens
open Go Go.RowKit
mutual
/-- it names no object -/
def AV.plain : AV → Bool
  | .ptr .. | .sl .. | .mp .. => false
  | .agg cs => plainL cs
  | .tup cs => plainL cs
  | .func _ x y => plainL x && plainL y
  | _ => true
def plainL : List AV → Bool
  | [] => true
  | c :: cs => c.plain && plainL cs
end
mutual
theorem RelV.bare {w : World} {H : View} : ∀ (c : AV) {v : Value}, c.plain = true → RelV w c H v → RelV w c H.bare v
  | .any, _, _, _ => trivial
  | .int .., _, _, h => h
  | .bool .., _, _, h => h
  | .str .., _, _, h => h
  | .nilp, _, _, h => h
  | .nils, _, _, h => h
  | .nilFunc, _, _, h => h
  | .nilm, _, _, h => h
  | .row .., _, _, h => h
  | .clip .., _, _, h => h
  | .radr .., _, _, h => h
  | .agg cs, _, hp, ⟨vs, e, h⟩ => ⟨vs, e, RelL.bare cs (by simpa [AV.plain] using hp) h⟩
  | .tup cs, _, hp, ⟨vs, e, h⟩ => ⟨vs, e, RelL.bare cs (by simpa [AV.plain] using hp) h⟩
  | .func _ x y, _, hp, ⟨xs, ys, e, h, h'⟩ => by
    simp only [AV.plain, Bool.and_eq_true] at hp
    exact ⟨xs, ys, e, RelL.bare x hp.1 h, RelL.bare y hp.2 h'⟩
theorem RelL.bare {w : World} {H : View} : ∀ (cs : List AV) {vs : List Value}, plainL cs = true → RelL w cs H vs → RelL w cs H.bare vs
  | [], _, _, h => h
  | c :: cs, _, hp, ⟨v, vs, e, h, h'⟩ => by
    simp only [plainL, Bool.and_eq_true] at hp
    exact ⟨v, vs, e, RelV.bare c hp.1 h, RelL.bare cs hp.2 h'⟩
end
theorem RelL.flatIf {w : World} {H : View} {cs : List AV} {vs : List Value} {flat : Bool} (hp : flat = true → plainL cs = true) (h : RelL w cs H vs) : RelL w cs (H.flatIf flat) vs := by
 cases flat
 ·exact h
 ·exact h.bare cs (hp rfl)
/-- its value is one cell -/
def One (objs : List AObj) : AV → Prop
  | .any | .agg _ | .tup _ => False
  | .ptr o ver _ | .sl o ver _ _ _ | .mp o ver => ∃ cs esz flat own, objs[o]? = some (.cells cs ver esz flat own)
  | _ => True
theorem One.cell {w : World} {H : View} {objs : List AObj} (ho : Objs w H objs) {c : AV} (h1 : One objs c) {v : Value} (h : RelV w c H v) : v.oneCell' = true ∧ v.cells = #[v] := by
 have key : ∀ u : Value, (match u with | .agg _ | .tuple _ => false | _ => true) = true → u.oneCell' = true ∧ u.cells = #[u] := by
  intro u hu
  cases u <;> first | (simp at hu; done) | exact ⟨rfl, rfl⟩
 cases c with
 | any => exact h1.elim
 | agg cs => exact h1.elim
 | tup cs => exact h1.elim
 | int k n => simp only [RelV] at h; subst h; exact key _ rfl
 | bool b => simp only [RelV] at h; subst h; exact key _ rfl
 | str s => simp only [RelV] at h; subst h; exact key _ rfl
 | nilp => simp only [RelV] at h; subst h; exact key _ rfl
 | nils => simp only [RelV] at h; subst h; exact key _ rfl
 | nilFunc => simp only [RelV] at h; subst h; exact key _ rfl
 | nilm => simp only [RelV] at h; subst h; exact key _ rfl
 | radr cs => obtain ⟨a, vs, e, _⟩ := h; subst e; exact key _ rfl
 | row cs n => obtain ⟨a, c, vs, e, _⟩ := h; subst e; exact key _ rfl
 | clip cs n => obtain ⟨a, vs, e, _⟩ := h; subst e; exact key _ rfl
 | func f x y => obtain ⟨xs, ys, e, _⟩ := h; subst e; exact key _ rfl
 | ptr o ver i =>
  obtain ⟨cs, esz, flat, own, hob⟩ := h1
  obtain ⟨_, _, hp⟩ := h
  rw [hp (ho.rel _ _ hob).1]; exact key _ rfl
 | mp o ver =>
  obtain ⟨cs, esz, flat, own, hob⟩ := h1
  obtain ⟨_, _, hp⟩ := h
  rw [hp (ho.rel _ _ hob).1]; exact key _ rfl
 | sl o ver off n full =>
  obtain ⟨cs, esz, flat, own, hob⟩ := h1
  obtain ⟨_, _, hp⟩ := h
  obtain ⟨a, c, e, _⟩ := hp (ho.rel _ _ hob).1
  rw [e]; exact key _ rfl
/-- its value's cells -/
def Cells (objs : List AObj) (c : AV) (ds : List AV) : Prop := c = .agg ds ∨ (One objs c ∧ ds = [c])
theorem Cells.rel {w : World} {H : View} {objs : List AObj} (ho : Objs w H objs) {c : AV} {ds : List AV} (h1 : Cells objs c ds) {v : Value} (h : RelV w c H v) : RelL w ds H v.cells.toList := by
 rcases h1 with rfl | ⟨h1, rfl⟩
 ·obtain ⟨vs, rfl, h⟩ := h
  simpa [Value.cells] using h
 ·rw [(h1.cell ho h).2]
  exact RelL_cons h RelL_nil
theorem Inv.newCells {C : Ctx} {H : View} {st : St} {a : Act} {w : World} (h : Inv C H st a w) {ds : List AV} {vs : List Value} (e : TypeId) (esz cap : Nat) (flat : Bool) (own : Option TypeId) (c : Array Value)
  (hr : RelL w ds (H.flatIf flat) vs) (hc : ∀ (j : Nat) (u : Value), vs[j]? = some u → c[j]? = some u)
  (hown : ∀ t, own = some t → e = t ∧ c.size = cap * esz ∧ cap ≤ maxLen ∧ ∃ N, vs.length = N * esz ∧ N ≤ cap) :
  Inv C (H.add w.heap.size cap) { st with objs := st.objs ++ [.cells ds 0 esz flat own] } a (w.alloc (.cells c e)) := by
 refine h.new cap ⟨by simp [View.add], .inr (by simp [View.add]), vs, c, e, ?_, ?_, ?_, ?_⟩
 ·simpa [View.add] using heap_alloc_new w (.cells c e)
 ·exact hr.keeps ds ((Keeps.add w H _ cap).flatIf flat)
 ·intro j u hu; simp [View.add]; exact hc j u hu
 ·intro t ht
  obtain ⟨h1, h2, h3, h4⟩ := hown t ht
  simp [View.add]
  exact ⟨h1, h2, h3, h4⟩
theorem new_ptr {C : Ctx} {H : View} {st : St} {a : Act} {w : World} (h : Inv C H st a w) (w' : World) (cap : Nat) : RelV w' (.ptr st.objs.length 0 0) (H.add w.heap.size cap) (.pointer (some ⟨w.heap.size, 0, none⟩)) := by
 have := h.objs.n
 refine ⟨by simp [View.add]; omega, by simp [View.add], fun _ => ?_⟩
 simp [View.add, this]
theorem v_box {C : Ctx} {o : Oper} {st : St} {t : TypeId} {x : Operand} {av : AV} {ds : List AV} (hop : o.op = .box t x) (hx : ev st x = some av) (hd : Cells st.objs av ds) :
  VStep C o st (.ptr st.objs.length 0 0) (st.objs ++ [.cells ds 0 1 false none]) := by
 intro H a w hi
 have hr := hd.rel hi.objs (ev_rel hi hx)
 refine ⟨_, w.alloc (.cells (a.eval x).cells t), H.add w.heap.size 0, ?_, hi.newCells t 1 0 false none _ hr (fun j u hu => by simpa using hu) (fun t h => by cases h), new_ptr hi _ 0⟩
 simp [execOp, hop, Instr.box, newVar, newRow]
theorem v_alloc {C : Ctx} {o : Oper} {st : St} {t : TypeId} {y : Ty} {z : List Value} {ds : List AV} (hop : o.op = .alloc t) (hy : C.T.at t = some y) (hz : y.zero = some z) (hd : ofVals z = some ds) :
  VStep C o st (.ptr st.objs.length 0 0) (st.objs ++ [.cells ds 0 1 false none]) := by
 intro H a w hi
 obtain ⟨v, hv, hc⟩ := run_zeroValue hy hz w
 refine ⟨_, w.alloc (.cells z.toArray t), H.add w.heap.size 0, ?_, hi.newCells t 1 0 false none _ (ofVals_rel hd) (fun j u hu => by simpa using hu) (fun t h => by cases h), new_ptr hi _ 0⟩
 simp [execOp, hop, Instr.alloc, newVar, newRow, hv, hc]
/-! ### stores -/
def splice {α : Type} (cs : List α) (i : Nat) (ds : List α) : List α := cs.take i ++ ds ++ cs.drop (i + ds.length)
theorem RelL.splice {w : World} {H : View} {cs ds : List AV} {vs us : List Value} (h : RelL w cs H vs) (h' : RelL w ds H us) (i : Nat) : RelL w (splice cs i ds) H (splice vs i us) := by
 unfold Lens.splice
 rw [h'.length]
 exact ((h.take i).append h').append (h.drop _)
theorem splice_one {α : Type} {cs : List α} {i : Nat} (h : i < cs.length) (d : α) : splice cs i [d] = cs.set i d := by
 unfold splice
 rw [List.set_eq_take_append_cons_drop, if_pos h]
 simp
theorem get_splice {α : Type} {cs ds : List α} {i : Nat} (h : i + ds.length ≤ cs.length) (j : Nat) : (splice cs i ds)[j]? = if i ≤ j ∧ j < i + ds.length then ds[j - i]? else cs[j]? := by
 unfold splice
 rw [List.append_assoc, List.getElem?_append]
 have hl : (cs.take i).length = i := by simp; omega
 rw [hl]
 by_cases h1 : j < i
 ·rw [if_pos h1, if_neg (by omega), List.getElem?_take, if_pos h1]
 ·rw [if_neg h1, List.getElem?_append]
  by_cases h2 : j - i < ds.length
  ·rw [if_pos h2, if_pos (by omega)]
  ·rw [if_neg h2, if_neg (by omega), List.getElem?_drop]
   congr 1; omega
theorem s_store {C : Ctx} {o : Oper} {st : St} {t : TypeId} {x v : Operand} {ob ver i esz : Nat} {cs ds : List AV} {flat : Bool} {own : Option TypeId} {y : Ty} {av : AV} (hop : o.op = .store t x v)
  (hx : ev st x = some (.ptr ob ver i)) (hob : st.objs[ob]? = some (.cells cs ver esz flat own)) (hv : ev st v = some av) (hd : Cells st.objs av ds) (hone : ∀ d ∈ ds, One st.objs d) (hp : flat = true → plainL ds = true)
  (hy : C.T.at t = some y) (hsz : y.size = ds.length) (hpos : 0 < ds.length) (hle : i + ds.length ≤ cs.length) : SStep C o st (st.objs.set ob (.cells (splice cs i ds) ver esz flat own)) := by
 intro H a w hi
 obtain ⟨h1, h2, vs, c, e, h3, h4, h5, h6⟩ := hi.objs.rel ob _ hob
 obtain ⟨_, _, hpt⟩ := ev_rel hi hx
 have hpt := hpt h1
 have hr := hd.rel hi.objs (ev_rel hi hv)
 generalize hus : (a.eval v).cells = us at hr
 have hlen := hr.length
 have hlv := h4.length
 have hones : ∀ u ∈ us.toList, u.oneCell' = true := by
  intro u hu
  obtain ⟨j, hj⟩ := List.getElem?_of_mem hu
  have hjl : j < ds.length := by rw [hlen]; exact (List.getElem?_eq_some_iff.1 hj).1
  obtain ⟨u', hu', hru⟩ := hr.get j ds[j] (by simp [hjl])
  rw [hj] at hu'
  injection hu' with hu'; subst hu'
  exact ((hone _ (List.getElem_mem hjl)).cell hi.objs hru).1
 have hcs : ∀ j, j < vs.length → H.off ob + j < c.size := by
  intro j hj
  have := h5 j vs[j] (by simp [hj])
  exact (Array.getElem?_eq_some_iff.1 this).1
 have hfit : H.off ob + i + us.toList.length ≤ c.size := by
  have := hcs (i + us.toList.length - 1) (by omega)
  omega
 have hst := run_storeCells_at (P := C.P) (H.blk ob) (H.off ob + i) e us.toList 0 c w h3 (by simpa using hfit) hones
 simp only [Nat.add_zero] at hst
 refine ⟨w.setRow (H.blk ob) (splice c.toList (H.off ob + i) us.toList).toArray, H, ?_, ?_⟩
 ·have hsize : us.size = y.size := by rw [hsz, hlen]; simp
  simp only [execOp, hop, hpt, Instr.storeAt, Instr.sureAddr, storeVar, hus, run_sizeOf hy, hsize, Sem.run_bind, Sem.run_pure, Result.andThen_ok, ne_eq, not_true_eq_false, if_false, Lens.splice, hst]
 ·refine hi.write (ob := .cells cs ver esz flat own) hob rfl (by cases own <;> simp [AObj.mine]) ⟨rfl, fun x _ => ⟨rfl, rfl, rfl, rfl⟩⟩ (.inl ⟨rfl, rfl, rfl, rfl⟩) (.inl rfl) (fun hok => ⟨rfl, rfl, rfl, ?_, ?_⟩) (fun b => ⟨.inl, fun hb => hb.elim id fun hb => ?_⟩) (fun b _ hne => setRow_other w _ _ _ hne) (by simp) rfl rfl rfl ?_
  ·intro cs' ver' esz' flat' own' he
   injection he with he
   rw [← he, ← hi.lens ob cs ver esz flat own hok hob]
   simp only [Lens.splice, List.length_append, List.length_take, List.length_drop]
   omega
  ·intro c' e' hc'
   rw [setRow_heap w _ _ _ _ _ h3] at hc'
   injection hc' with hc'
   injection hc' with hc1 hc2
   subst hc2
   refine ⟨c, h3, ?_, fun j hj => ?_⟩
   ·rw [← hc1]
    simp only [Lens.splice, List.size_toArray, List.length_append, List.length_take, List.length_drop, Array.length_toList]
    simp only [Array.length_toList] at hfit
    omega
   ·rw [← hc1]
    simp only [List.getElem?_toArray]
    rw [get_splice (by simpa using hfit), if_neg]
    ·simp
    ·rw [← hi.lens ob cs ver esz flat own hok hob] at hj
     omega
  ·have := hi.objs.lt _ h2
   omega
  ·have hk : Keeps w H (w.setRow (H.blk ob) (splice c.toList (H.off ob + i) us.toList).toArray) H := by
    refine ⟨fun ad u hc hx => ?_, fun _ _ hb => hb, Nat.le_refl _, fun _ _ => Nat.le_refl _, fun _ _ _ => ⟨rfl, rfl, rfl⟩⟩
    rw [cell_setRow_other w _ _ _ (fun e => hx (e ▸ h2))]; exact hc
   refine ⟨h1, h2, splice vs i us.toList, _, e, setRow_heap w _ _ _ _ _ h3, ?_, ?_, ?_⟩
   ·exact (h4.splice (hr.flatIf hp) i).keeps _ (hk.flatIf flat)
   ·intro j u hu
    rw [get_splice (by omega)] at hu
    simp only [List.getElem?_toArray]
    rw [get_splice (by simpa using hfit)]
    split at hu
    ·rename_i hj
     rw [if_pos (by omega), show H.off ob + j - (H.off ob + i) = j - i by omega]
     exact hu
    ·rename_i hj
     rw [if_neg (by omega)]
     simpa using h5 j u hu
   ·intro t' ht'
    obtain ⟨q1, q2, q3, q4, N, q5, q6⟩ := h6 t' ht'
    refine ⟨q1, q2, ?_, q4, N, ?_, q6⟩
    ·rw [← q3]
     simp only [Lens.splice, List.size_toArray, List.length_append, List.length_take, List.length_drop, Array.length_toList]
     simp only [Array.length_toList] at hfit
     omega
    ·rw [← q5]
     simp only [Lens.splice, List.length_append, List.length_take, List.length_drop]
     omega
theorem s_store1 {C : Ctx} {o : Oper} {st : St} {t : TypeId} {x v : Operand} {ob ver i esz : Nat} {cs : List AV} {flat : Bool} {own : Option TypeId} {y : Ty} {av : AV} (hop : o.op = .store t x v)
  (hx : ev st x = some (.ptr ob ver i)) (hob : st.objs[ob]? = some (.cells cs ver esz flat own)) (hv : ev st v = some av) (hone : One st.objs av) (hp : flat = true → av.plain = true)
  (hy : C.T.at t = some y) (hsz : y.size = 1) (hle : i < cs.length) : SStep C o st (st.objs.set ob (.cells (cs.set i av) ver esz flat own)) := by
 rw [← splice_one hle]
 exact s_store hop hx hob hv (.inr ⟨hone, rfl⟩) (by simpa using hone) (by simpa [plainL] using hp) hy hsz (by simp) (by simp; omega)
end Go.Lens

set_option linter.unusedVariables false
set_option linter.unusedSimpArgs false
namespace Go.Lens
open Go Go.RowKit
/-- what stands behind a piece of code -/
def Post (C : Ctx) (Q : Exit → St → Prop) : Exit → Act → World → Prop := fun e a w => ∃ st, Q e st ∧ Rel C st a w
/-- from every frame and world that the state tells, the code comes to an exit and a state of which Q holds -/
def W (C : Ctx) (c : Code) (st : St) (Q : Exit → St → Prop) : Prop := ∀ a w, Rel C st a w → c.wp C.P (Post C Q) a w
theorem W.mono {C : Ctx} {c : Code} {st : St} {Q Q' : Exit → St → Prop} (h : W C c st Q) (hq : ∀ e st, Q e st → Q' e st) : W C c st Q' :=
 fun a w hr => wp_mono (h a w hr) fun e a' w' ⟨st', h1, h2⟩ => ⟨st', hq _ _ h1, h2⟩
/-- less is known: of the frame these slots, of the store the first objects -/
def EnvLe : List (Nat × AV) → List (Nat × AV) → Prop
  | [], _ => True
  | (t, v) :: r, env => look env t = some v ∧ EnvLe r env
theorem EnvLe.look {env0 env : List (Nat × AV)} (h : EnvLe env0 env) {t : Nat} {v : AV} (ht : look env0 t = some v) : Lens.look env t = some v := by
 induction env0 with
 | nil => cases ht
 | cons p r ih =>
  obtain ⟨k, u⟩ := p
  simp only [Lens.look] at ht
  split at ht
  ·rename_i hk
   have : k = t := by simpa using hk
   subst this
   injection ht with ht; subst ht
   exact h.1
  ·exact ih h.2 ht
mutual
def AV.inside (k : Nat) : AV → Bool
  | .ptr o _ _ => decide (o < k)
  | .sl o _ _ _ _ => decide (o < k)
  | .mp o _ => decide (o < k)
  | .agg cs => scopedL k cs
  | .tup cs => scopedL k cs
  | .func _ x y => scopedL k x && scopedL k y
  | _ => true
def scopedL (k : Nat) : List AV → Bool
  | [] => true
  | c :: cs => c.inside k && scopedL k cs
end
mutual
theorem RelV.inside {w : World} {H : View} {k : Nat} : ∀ (c : AV) {v : Value}, c.inside k = true → RelV w c H v → RelV w c { H with n := k } v
  | .any, _, _, _ => trivial
  | .int .., _, _, h => h
  | .bool .., _, _, h => h
  | .str .., _, _, h => h
  | .nilp, _, _, h => h
  | .nils, _, _, h => h
  | .nilFunc, _, _, h => h
  | .nilm, _, _, h => h
  | .row .., _, _, h => h
  | .clip .., _, _, h => h
  | .radr .., _, _, h => h
  | .ptr .., _, hp, ⟨_, h2, h3⟩ => ⟨by simpa [AV.inside] using hp, h2, h3⟩
  | .sl .., _, hp, ⟨_, h2, h3⟩ => ⟨by simpa [AV.inside] using hp, h2, h3⟩
  | .mp .., _, hp, ⟨_, h2, h3⟩ => ⟨by simpa [AV.inside] using hp, h2, h3⟩
  | .agg cs, _, hp, ⟨vs, e, h⟩ => ⟨vs, e, RelL.inside cs (by simpa [AV.inside] using hp) h⟩
  | .tup cs, _, hp, ⟨vs, e, h⟩ => ⟨vs, e, RelL.inside cs (by simpa [AV.inside] using hp) h⟩
  | .func _ x y, _, hp, ⟨xs, ys, e, h, h'⟩ => by
    simp only [AV.inside, Bool.and_eq_true] at hp
    exact ⟨xs, ys, e, RelL.inside x hp.1 h, RelL.inside y hp.2 h'⟩
theorem RelL.inside {w : World} {H : View} {k : Nat} : ∀ (cs : List AV) {vs : List Value}, scopedL k cs = true → RelL w cs H vs → RelL w cs { H with n := k } vs
  | [], _, _, h => h
  | c :: cs, _, hp, ⟨v, vs, e, h, h'⟩ => by
    simp only [scopedL, Bool.and_eq_true] at hp
    exact ⟨v, vs, e, RelV.inside c hp.1 h, RelL.inside cs hp.2 h'⟩
end
def envScoped (k : Nat) : List (Nat × AV) → Bool
  | [] => true
  | p :: r => p.2.inside k && envScoped k r
theorem envScoped_look {k : Nat} {env : List (Nat × AV)} (h : envScoped k env = true) {t : Nat} {v : AV} (ht : look env t = some v) : v.inside k = true := by
 induction env with
 | nil => cases ht
 | cons p r ih =>
  obtain ⟨j, u⟩ := p
  simp only [envScoped, Bool.and_eq_true] at h
  simp only [Lens.look] at ht
  split at ht
  ·injection ht with ht; subst ht; exact h.1
  ·exact ih h.2 ht
/-- `objs0`: of the first objects, each as it is, or given up -/
def ObjsLe (k : Nat) : List AObj → List AObj → Prop
  | [], _ => True
  | o0 :: r0, o :: r => (o0 = .dead ∨ (o0 = o ∧ (match o0 with | .cells cs _ _ false _ => scopedL k cs = true | _ => True))) ∧ ObjsLe k r0 r
  | _ :: _, [] => False
theorem ObjsLe.get {k : Nat} : ∀ {objs0 objs : List AObj}, ObjsLe k objs0 objs → ∀ {o : Nat} {ob : AObj}, objs0[o]? = some ob → ob = .dead ∨ (objs[o]? = some ob ∧ (match ob with | .cells cs _ _ false _ => scopedL k cs = true | _ => True))
 | o0 :: r0, o1 :: r, h, 0, ob, hi => by
  simp at hi; subst hi
  rcases h.1 with h1 | ⟨h1, h2⟩
  ·exact .inl h1
  ·subst h1; exact .inr ⟨rfl, h2⟩
 | o0 :: r0, o1 :: r, h, o + 1, ob, hi => by
  simpa using ObjsLe.get h.2 (o := o) (by simpa using hi)
 | [], _, _, _, _, hi => by simp at hi
 | _ :: _, [], h, _, _, _ => h.elim
theorem Rel.weak {C : Ctx} {st : St} {a : Act} {w : World} {env0 : List (Nat × AV)} {objs0 : List AObj} (h : Rel C st a w) (he : EnvLe env0 st.env)
  (ho : ObjsLe objs0.length objs0 st.objs) (hs : envScoped objs0.length env0 = true) (hk : C.k ≤ objs0.length) (hsv : C.sv = []) : Rel C ⟨env0, objs0⟩ a w := by
 obtain ⟨H, h⟩ := h
 refine ⟨{ H with n := objs0.length }, h.size, h.defers, ?_, ⟨rfl, ?_, ?_, h.objs.lt⟩, h.wr0, hk, h.byref, ?_, h.out, ?_, h.frame, h.le, h.os, h.tape, h.output, fun p hp => by rw [hsv] at hp; cases hp⟩
 ·intro t av ht
  exact (h.env t av (he.look ht)).inside av (envScoped_look hs ht)
 ·intro o ob hi
  rcases ho.get hi with rfl | ⟨h1, h2⟩
  ·trivial
  ·have := h.objs.rel o ob h1
   cases ob with
   | dead => trivial
   | slot => exact this
   | iter => exact this
   | bytes => exact this
   | kv => exact this
   | cells cs ver esz flat own =>
    obtain ⟨g1, g2, vs, c, e, g3, g4, g5, g6⟩ := this
    refine ⟨g1, g2, vs, c, e, g3, ?_, g5, g6⟩
    cases flat
    ·exact RelL.inside cs h2 g4
    ·exact g4
 ·intro o o' ob ob' hi hi' hl hl' hb
  rcases ho.get hi with rfl | ⟨h1, _⟩
  ·cases hl
  rcases ho.get hi' with rfl | ⟨h2, _⟩
  ·cases hl'
  exact h.objs.inj o o' ob ob' h1 h2 hl hl' hb
 ·intro o cs ver esz flat own hlt hi
  rcases ho.get hi with h1 | ⟨h1, _⟩
  ·cases h1
  ·exact h.lens o cs ver esz flat own hlt h1
 ·intro o ob hi hl
  rcases ho.get hi with rfl | ⟨h1, _⟩
  ·cases hl
  exact h.own o ob h1 hl
theorem W.weak {C : Ctx} {c : Code} {st : St} {Q : Exit → St → Prop} (env0 : List (Nat × AV)) (objs0 : List AObj) (he : EnvLe env0 st.env)
  (ho : ObjsLe objs0.length objs0 st.objs) (hs : envScoped objs0.length env0 = true) (hk : C.k ≤ objs0.length) (hsv : C.sv = []) (h : W C c ⟨env0, objs0⟩ Q) : W C c st Q :=
 fun a w hr => h a w (hr.weak he ho hs hk hsv)
/-! ### the forms of code -/
theorem W.skip {C : Ctx} {st : St} {Q : Exit → St → Prop} (h : Q .normal st) : W C .skip st Q := fun _ _ hr => wp_skip ⟨st, h, hr⟩
theorem W.ret {C : Ctx} {st : St} {Q : Exit → St → Prop} (h : Q .ret st) : W C .ret st Q := fun _ _ hr => wp_ret ⟨st, h, hr⟩
theorem W.exit {C : Ctx} {st : St} {Q : Exit → St → Prop} {id : Nat} (h : Q (.exit id) st) : W C (.exit id) st Q := fun _ _ hr => wp_exit ⟨st, h, hr⟩
def QThen (next : St → Prop) (Q : Exit → St → Prop) : Exit → St → Prop
  | .normal, st => next st
  | e, st => Q e st
theorem W.seq {C : Ctx} {x y : Code} {st : St} {Q : Exit → St → Prop} (h : W C x st (QThen (fun st' => W C y st' Q) Q)) : W C (.seq x y) st Q := by
 intro a w hr
 refine wp_seq (wp_mono (h a w hr) fun e a' w' ⟨st', h1, h2⟩ => ?_)
 cases e <;> first | exact h1 a' w' h2 | exact ⟨st', h1, h2⟩
def QBlock (id : Nat) (Q : Exit → St → Prop) : Exit → St → Prop
  | .exit id', st => if id' = id then Q .normal st else Q (.exit id') st
  | e, st => Q e st
theorem W.block {C : Ctx} {id : Nat} {c : Code} {st : St} {Q : Exit → St → Prop} (h : W C c st (QBlock id Q)) : W C (.block id c) st Q := by
 intro a w hr
 refine wp_block (wp_mono (h a w hr) fun e a' w' ⟨st', h1, h2⟩ => ?_)
 cases e with
 | exit id' =>
  simp only [Exit.inBlock]
  simp only [QBlock] at h1
  split at h1
  ·rename_i he; rw [if_pos he]; exact ⟨st', h1, h2⟩
  ·rename_i he; rw [if_neg he]; exact ⟨st', h1, h2⟩
 | _ => exact ⟨st', h1, h2⟩
theorem W.cond {C : Ctx} {x : Operand} {c d : Code} {st : St} {Q : Exit → St → Prop} {b : Bool} (hx : ev st x = some (.bool b)) (h1 : b = true → W C c st Q) (h2 : b = false → W C d st Q) : W C (.cond x c d) st Q := by
 intro a w hr
 obtain ⟨H, hi⟩ := hr
 have := ev_rel hi hx
 simp only [RelV] at this
 exact wp_cond_split this (fun e => h1 e a w ⟨H, hi⟩) (fun e => h2 e a w ⟨H, hi⟩)
theorem W.cond_true {C : Ctx} {x : Operand} {c d : Code} {st : St} {Q : Exit → St → Prop} (hx : ev st x = some (.bool true)) (h1 : W C c st Q) : W C (.cond x c d) st Q := W.cond hx (fun _ => h1) (fun h => by cases h)
theorem W.cond_false {C : Ctx} {x : Operand} {c d : Code} {st : St} {Q : Exit → St → Prop} (hx : ev st x = some (.bool false)) (h1 : W C d st Q) : W C (.cond x c d) st Q := W.cond hx (fun h => by cases h) (fun _ => h1)
theorem least {p : Nat → Prop} (h : ∃ n, p n) : ∃ n, p n ∧ ∀ m, p m → n ≤ m := by
 obtain ⟨n, hn⟩ := h
 induction n using Nat.strongRecOn with
 | _ n ih =>
  by_cases hx : ∃ m, m < n ∧ p m
  ·obtain ⟨m, h1, h2⟩ := hx; exact ih m h1 h2
  ·exact ⟨n, hn, fun m hm => Nat.le_of_not_lt fun hlt => hx ⟨m, hlt, hm⟩⟩
open Classical in
theorem W.loop {C : Ctx} {c : Code} {st : St} {Q : Exit → St → Prop} (I : Nat → St → Prop) (n : Nat) (h0 : I n st)
    (hr : ∀ n st, I n st → W C c st (QThen (fun st' => ∃ m, m < n ∧ ∃ env0 objs0, I m ⟨env0, objs0⟩ ∧ EnvLe env0 st'.env ∧ ObjsLe objs0.length objs0 st'.objs ∧ envScoped objs0.length env0 = true ∧ C.k ≤ objs0.length) Q)) (hsv : C.sv = []) : W C (.loop c) st Q := by
  intro a w hrel
  let J : Act → World → Nat → Prop := fun a w n => ∃ st, I n st ∧ Rel C st a w
  refine wp_loop (fun a w => ∃ n, J a w n) (fun a w => if h : ∃ n, J a w n then Classical.choose (least h) else 0) ⟨n, st, h0, hrel⟩ ?_
  intro a w hJ
  have hsp := Classical.choose_spec (least hJ)
  obtain ⟨⟨st1, hI, hR⟩, hmin⟩ := hsp
  refine wp_mono (hr _ st1 hI a w hR) fun e a' w' ⟨st', h1, h2⟩ => ?_
  cases e with
  | normal =>
    obtain ⟨m, hm, env0, objs0, hI0, he, ho, hs, hk⟩ := h1
    have hJ' : J a' w' m := ⟨⟨env0, objs0⟩, hI0, h2.weak he ho hs hk hsv⟩
    have hex : ∃ n, J a' w' n := ⟨m, hJ'⟩
    refine ⟨hex, ?_⟩
    simp only [dif_pos hJ, dif_pos hex]
    exact Nat.lt_of_le_of_lt ((Classical.choose_spec (least hex)).2 m hJ') hm
  | _ => exact ⟨st', h1, h2⟩
/-! ### regions -/
/-- the operations that are left of a region -/
def WL (C : Ctx) (ops : Array Oper) (l : List Oper) (st : St) (Q : Exit → St → Prop) : Prop := ∀ a w, Rel C st a w → wpList C.P ops (Post C Q) l a w
theorem W.region {C : Ctx} {id : Nat} {ops : Array Oper} {st : St} {Q : Exit → St → Prop} (h : WL C ops ops.toList st Q) : W C (.region id ops false) st Q :=
 fun a w hr => wp_region_list (h a w hr)
theorem WL.nil {C : Ctx} {ops : Array Oper} {st : St} {Q : Exit → St → Prop} (h : Q .normal st) : WL C ops [] st Q := fun _ _ hr => wpList_nil ⟨st, h, hr⟩
/-- is the operation wanted? -/
def gd (ops : Array Oper) (st : St) (o : Oper) : Option Bool :=
  match o.guard with
  | none => some true
  | some (g, want) => match (ops[g]?).bind (·.dst) with
    | some t => match look st.env t with
      | some (.bool b) => some (b == want)
      | some (.tup _) => some false
      | _ => none
    | none => none
theorem gd_rel {C : Ctx} {H : View} {ops : Array Oper} {st : St} {a : Act} {w : World} {o : Oper} {b : Bool} (h : gd ops st o = some b) (hi : Inv C H st a w) : Region.wanted o (yielded ops a.tmps) = b := by
 unfold gd at h
 unfold Region.wanted
 cases hg : o.guard with
 | none => rw [hg] at h; injection h
 | some gw =>
  obtain ⟨g, want⟩ := gw
  rw [hg] at h
  dsimp only at h ⊢
  split at h
  ·rename_i t ht
   split at h
   ·rename_i b' hb
    have hv := hi.env t _ hb
    simp only [RelV] at hv
    have hy : yielded ops a.tmps g = some b' := by
     unfold yielded
     have hv' : a.tmps[t]?.getD undef = .bool b' := by simpa using hv
     cases hq : a.tmps[t]? with
     | none => rw [hq] at hv'; cases hv'
     | some v => rw [hq] at hv'; simp at hv'; subst hv'; rw [ht]; simp [hq]
    rw [hy]
    exact Option.some.inj h
   ·rename_i cs hb
    obtain ⟨vs, hv, _⟩ := hi.env t _ hb
    have hy : yielded ops a.tmps g = none := by
     unfold yielded
     have hv' : a.tmps[t]?.getD undef = .tuple vs.toArray := by simpa using hv
     rw [ht]
     simp only [Option.bind_some]
     cases hq : a.tmps[t]? with
     | none => rfl
     | some v => rw [hq] at hv'; simp at hv'; subst hv'; rfl
    rw [hy]
    exact Option.some.inj h
   ·cases h
  ·cases h
theorem WL.val {C : Ctx} {ops : Array Oper} {o : Oper} {rest : List Oper} {st : St} {Q : Exit → St → Prop} {av : AV} {objs' : List AObj} (hs : VStep C o st av objs') (hg : gd ops st o = some true)
  (hd : ∀ t, o.dst = some t → t < C.nt) (h : WL C ops rest (({ st with objs := objs' } : St).put o.dst av) Q) : WL C ops (o :: rest) st Q := by
 intro a w ⟨H, hi⟩
 obtain ⟨v, w', H', hr, hi', hv⟩ := hs H a w hi
 unfold wpList
 rw [gd_rel hg hi, if_pos rfl]
 refine .inl ?_
 unfold Oper.wp
 rw [hr]
 exact h _ _ ⟨H', hi'.put o.dst hd hv⟩
theorem WL.st {C : Ctx} {ops : Array Oper} {o : Oper} {rest : List Oper} {st : St} {Q : Exit → St → Prop} {objs' : List AObj} (hs : SStep C o st objs') (hg : gd ops st o = some true)
  (hd : o.dst = none) (h : WL C ops rest { st with objs := objs' } Q) : WL C ops (o :: rest) st Q := by
 intro a w ⟨H, hi⟩
 obtain ⟨w', H', hr, hi'⟩ := hs H a w hi
 unfold wpList
 rw [gd_rel hg hi, if_pos rfl]
 refine .inl ?_
 unfold Oper.wp
 rw [hr]
 simp only [Oper.upon, hd]
 exact h _ _ ⟨H', hi'⟩
theorem WL.off {C : Ctx} {ops : Array Oper} {o : Oper} {rest : List Oper} {st : St} {Q : Exit → St → Prop} (hg : gd ops st o = some false)
  (hd : ∀ t, o.dst = some t → t < C.nt) (h : WL C ops rest (st.put o.dst (.tup [])) Q) : WL C ops (o :: rest) st Q := by
 intro a w ⟨H, hi⟩
 unfold wpList
 rw [gd_rel hg hi, if_neg (by simp)]
 exact h _ _ ⟨H, hi.put o.dst hd ⟨[], rfl, rfl⟩⟩
end Go.Lens
