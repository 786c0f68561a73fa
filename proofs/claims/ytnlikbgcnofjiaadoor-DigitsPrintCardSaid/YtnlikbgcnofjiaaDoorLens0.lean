/- Lens, part 0: abstract values and what they say of a Go value in a world. -/
import Derived.WalkKit
import Derived.Below
import Derived.Orders
namespace Go.Lens
open Go Go.RowKit

/-- An abstract value: what is known of a Go value, without addresses. `sl` and `ptr` name an object of the call's own store. -/
inductive AV where
  | any
  | int (k : IntKind) (n : Int)
  | bool (b : Bool)
  | str (s : List UInt8)
  | nilp
  | ptr (o ver i : Nat)
  | radr (cs : List AV)
  | nils
  | sl (o ver off n : Nat) (full : Bool)
  | row (cs : List AV) (n : Nat)
  | agg (cs : List AV)
  | tup (cs : List AV)
  | func (f : Fn) (x y : List AV)
  | nilFunc
  | nilm
  | mp (o ver : Nat)
  deriving Inhabited

/-- Where the objects lie. -/
structure View where
  n : Nat
  blk : Nat → Nat
  off : Nat → Nat
  cap : Nat → Nat
  ver : Nat → Nat
  wr : Nat → Prop

def View.bare (H : View) : View := { H with n := 0 }
@[simp] theorem View.bare_wr (H : View) : H.bare.wr = H.wr := rfl
@[simp] theorem View.bare_n (H : View) : H.bare.n = 0 := rfl

/-- the cells `vs` stand at address `a` -/
def At (w : World) (a : Addr) (vs : List Value) : Prop := ∀ j u, vs[j]? = some u → w.cell? (a.add j) = some u

mutual
def RelV (w : World) : AV → View → Value → Prop
  | .any, _, _ => True
  | .int k n, _, v => v = .int k n
  | .bool b, _, v => v = .bool b
  | .str s, _, v => v = .string ⟨s.toArray⟩
  | .nilp, _, v => v = .pointer none
  | .ptr o ver i, H, v => o < H.n ∧ ver ≤ H.ver o ∧ (H.ver o = ver → v = .pointer (some ⟨H.blk o, H.off o + i, none⟩))
  | .radr cs, H, v => ∃ a vs, v = .pointer (some a) ∧ RelL w cs H.bare vs ∧ (vs ≠ [] → At w a vs ∧ ¬ H.wr a.block)
  | .nils, _, v => v = .slice none 0 0
  | .sl o ver off n full, H, v => o < H.n ∧ ver ≤ H.ver o ∧ (H.ver o = ver → ∃ a c, v = .slice (some a) n c ∧ n ≤ c ∧
      (0 < n → a = ⟨H.blk o, H.off o + off, none⟩) ∧ (full = true → a = ⟨H.blk o, 0, none⟩ ∧ off = 0 ∧ c = H.cap o))
  | .row cs n, H, v => ∃ A c vs, v = .slice A n c ∧ n ≤ c ∧ RelL w cs H.bare vs ∧ (vs ≠ [] → ∃ a, A = some a ∧ At w a vs ∧ ¬ H.wr a.block)
  | .agg cs, H, v => ∃ vs, v = .agg (List.toArray vs) ∧ RelL w cs H vs
  | .tup cs, H, v => ∃ vs, v = .tuple (List.toArray vs) ∧ RelL w cs H vs
  | .func f x y, H, v => ∃ xs ys, v = .func f (List.toArray xs) (List.toArray ys) ∧ RelL w x H xs ∧ RelL w y H ys
  | .nilFunc, _, v => v = .nilFunc
  | .nilm, _, v => v = .map none
  | .mp o ver, H, v => o < H.n ∧ ver ≤ H.ver o ∧ (H.ver o = ver → v = .map (some (H.blk o)))
def RelL (w : World) : List AV → View → List Value → Prop
  | [], _, vs => vs = []
  | c :: cs, H, vs => ∃ v vs', vs = v :: vs' ∧ RelV w c H v ∧ RelL w cs H vs'
end

theorem RelL_nil {w : World} {H : View} : RelL w [] H [] := rfl
theorem RelL_cons {w : World} {H : View} {c : AV} {cs : List AV} {v : Value} {vs : List Value} (h : RelV w c H v) (h' : RelL w cs H vs) : RelL w (c :: cs) H (v :: vs) := ⟨v, vs, rfl, h, h'⟩
theorem RelL.length {w : World} {H : View} : ∀ {cs : List AV} {vs : List Value}, RelL w cs H vs → cs.length = vs.length
  | [], _, h => by cases h; rfl
  | _ :: _, _, ⟨_, _, e, _, h⟩ => by subst e; simp [RelL.length h]
theorem RelL.get {w : World} {H : View} : ∀ {cs : List AV} {vs : List Value}, RelL w cs H vs → ∀ (j : Nat) (c : AV), cs[j]? = some c → ∃ v, vs[j]? = some v ∧ RelV w c H v
  | _ :: _, _, ⟨v, _, e, hv, _⟩, 0, c, hc => by subst e; simp at hc; subst hc; exact ⟨v, rfl, hv⟩
  | _ :: _, _, ⟨_, _, e, _, h⟩, j + 1, c, hc => by subst e; simpa using RelL.get h j c (by simpa using hc)
  | [], _, _, j, c, hc => by simp at hc
theorem RelL.of_get {w : World} {H : View} : ∀ {cs : List AV} {vs : List Value}, cs.length = vs.length → (∀ (j : Nat) (c : AV) (v : Value), cs[j]? = some c → vs[j]? = some v → RelV w c H v) → RelL w cs H vs
  | [], [], _, _ => rfl
  | c :: cs, v :: vs, hl, h => ⟨v, vs, rfl, h 0 c v rfl rfl, RelL.of_get (by simpa using hl) fun j c' v' hc hv => h (j + 1) c' v' (by simpa using hc) (by simpa using hv)⟩
  | [], _ :: _, hl, _ => by simp at hl
  | _ :: _, [], hl, _ => by simp at hl
theorem RelL.append {w : World} {H : View} : ∀ {cs ds : List AV} {vs us : List Value}, RelL w cs H vs → RelL w ds H us → RelL w (cs ++ ds) H (vs ++ us)
  | [], _, _, _, h, h' => by cases h; exact h'
  | _ :: _, _, _, _, ⟨v, vs, e, hv, h⟩, h' => by subst e; exact ⟨v, _, rfl, hv, RelL.append h h'⟩
theorem RelL.take {w : World} {H : View} (k : Nat) : ∀ {cs : List AV} {vs : List Value}, RelL w cs H vs → RelL w (cs.take k) H (vs.take k) := by
  induction k with
  | zero => intro cs vs _; simp [RelL]
  | succ k ih =>
    intro cs vs h
    cases cs with
    | nil => cases h; simp [RelL]
    | cons c cs => obtain ⟨v, vs, rfl, hv, h⟩ := h; exact ⟨v, _, rfl, hv, ih h⟩
theorem RelL.drop {w : World} {H : View} (k : Nat) : ∀ {cs : List AV} {vs : List Value}, RelL w cs H vs → RelL w (cs.drop k) H (vs.drop k) := by
  induction k with
  | zero => intro cs vs h; exact h
  | succ k ih =>
    intro cs vs h
    cases cs with
    | nil => cases h; simp [RelL]
    | cons c cs => obtain ⟨v, vs, rfl, hv, h⟩ := h; simpa using ih h
theorem RelL.set {w : World} {H : View} {c : AV} {v : Value} (hv : RelV w c H v) (k : Nat) : ∀ {cs : List AV} {vs : List Value}, RelL w cs H vs → RelL w (cs.set k c) H (vs.set k v) := by
  induction k with
  | zero =>
    intro cs vs h
    cases cs with
    | nil => cases h; simp [RelL]
    | cons c cs => obtain ⟨u, us, rfl, _, h⟩ := h; exact ⟨v, us, rfl, hv, h⟩
  | succ k ih =>
    intro cs vs h
    cases cs with
    | nil => cases h; simp [RelL]
    | cons c cs => obtain ⟨u, us, rfl, hu, h⟩ := h; exact ⟨u, _, rfl, hu, ih h⟩
theorem RelL.replicate {w : World} {H : View} {c : AV} {v : Value} (hv : RelV w c H v) : ∀ n, RelL w (List.replicate n c) H (List.replicate n v)
  | 0 => rfl
  | n + 1 => ⟨v, _, rfl, hv, RelL.replicate hv n⟩

/-- A step of the world and of the view that keeps what is known. -/
structure Keeps (w : World) (H : View) (w' : World) (H' : View) : Prop where
  cell : ∀ a v, w.cell? a = some v → ¬ H.wr a.block → w'.cell? a = some v
  wr : ∀ b, b < w.heap.size → H'.wr b → H.wr b
  n : H.n ≤ H'.n
  ver : ∀ o, o < H.n → H.ver o ≤ H'.ver o
  at_ : ∀ o, o < H.n → H'.ver o = H.ver o → H'.blk o = H.blk o ∧ H'.off o = H.off o ∧ H'.cap o = H.cap o

theorem Keeps.refl (w : World) (H : View) : Keeps w H w H := ⟨fun _ _ h _ => h, fun _ _ h => h, Nat.le_refl _, fun _ _ => Nat.le_refl _, fun _ _ _ => ⟨rfl, rfl, rfl⟩⟩

theorem At.keeps {w w' : World} {H H' : View} (hk : Keeps w H w' H') {a : Addr} {vs : List Value} (h : At w a vs) (hm : ¬ H.wr a.block) : At w' a vs := by
  intro j u hu
  refine hk.cell _ _ (h j u hu) ?_
  unfold Addr.add
  split <;> exact hm

theorem At.block_lt {w : World} {a : Addr} {vs : List Value} (h : At w a vs) (hne : vs ≠ []) : a.block < w.heap.size := by
  cases vs with
  | nil => exact absurd rfl hne
  | cons v vs => have := h 0 v rfl; simp [Addr.add] at this; exact World.block_lt_of_cell? w a this

theorem Keeps.bare {w w' : World} {H H' : View} (hk : Keeps w H w' H') : Keeps w H.bare w' H'.bare :=
  ⟨hk.cell, hk.wr, Nat.le_refl _, fun _ h => absurd h (Nat.not_lt_zero _), fun _ h => absurd h (Nat.not_lt_zero _)⟩

mutual
theorem RelV.keeps {w w' : World} : ∀ (c : AV) {H H' : View} {v : Value}, Keeps w H w' H' → RelV w c H v → RelV w' c H' v
  | .any, _, _, _, _, _ => trivial
  | .int _ _, _, _, _, _, h => h
  | .bool _, _, _, _, _, h => h
  | .str _, _, _, _, _, h => h
  | .nilp, _, _, _, _, h => h
  | .nils, _, _, _, _, h => h
  | .nilFunc, _, _, _, _, h => h
  | .nilm, _, _, _, _, h => h
  | .ptr o ver i, H, H', v, hk, h => by
    obtain ⟨h1, h2, h3⟩ := h
    refine ⟨Nat.lt_of_lt_of_le h1 hk.n, Nat.le_trans h2 (hk.ver o h1), fun e => ?_⟩
    have e2 : H.ver o = ver := Nat.le_antisymm (e ▸ hk.ver o h1) h2
    obtain ⟨b1, b2, _⟩ := hk.at_ o h1 (e.trans e2.symm)
    rw [b1, b2]; exact h3 e2
  | .mp o ver, H, H', v, hk, h => by
    obtain ⟨h1, h2, h3⟩ := h
    refine ⟨Nat.lt_of_lt_of_le h1 hk.n, Nat.le_trans h2 (hk.ver o h1), fun e => ?_⟩
    have e2 : H.ver o = ver := Nat.le_antisymm (e ▸ hk.ver o h1) h2
    obtain ⟨b1, _, _⟩ := hk.at_ o h1 (e.trans e2.symm)
    rw [b1]; exact h3 e2
  | .sl o ver off n full, H, H', v, hk, h => by
    obtain ⟨h1, h2, h3⟩ := h
    refine ⟨Nat.lt_of_lt_of_le h1 hk.n, Nat.le_trans h2 (hk.ver o h1), fun e => ?_⟩
    have e2 : H.ver o = ver := Nat.le_antisymm (e ▸ hk.ver o h1) h2
    obtain ⟨b1, b2, b3⟩ := hk.at_ o h1 (e.trans e2.symm)
    rw [b1, b2, b3]; exact h3 e2
  | .radr cs, H, H', v, hk, h => by
    obtain ⟨a, vs, e, h1, h2⟩ := h
    refine ⟨a, vs, e, RelL.keeps cs hk.bare h1, fun hne => ?_⟩
    obtain ⟨h3, h4⟩ := h2 hne
    exact ⟨h3.keeps hk h4, fun hw => h4 (hk.wr _ (h3.block_lt hne) hw)⟩
  | .row cs n, H, H', v, hk, h => by
    obtain ⟨A, c, vs, e, hn, h1, h2⟩ := h
    refine ⟨A, c, vs, e, hn, RelL.keeps cs hk.bare h1, fun hne => ?_⟩
    obtain ⟨a, e1, h3, h4⟩ := h2 hne
    exact ⟨a, e1, h3.keeps hk h4, fun hw => h4 (hk.wr _ (h3.block_lt hne) hw)⟩
  | .agg cs, _, _, _, hk, ⟨vs, e, h⟩ => ⟨vs, e, RelL.keeps cs hk h⟩
  | .tup cs, _, _, _, hk, ⟨vs, e, h⟩ => ⟨vs, e, RelL.keeps cs hk h⟩
  | .func _ x y, _, _, _, hk, ⟨xs, ys, e, h, h'⟩ => ⟨xs, ys, e, RelL.keeps x hk h, RelL.keeps y hk h'⟩
theorem RelL.keeps {w w' : World} : ∀ (cs : List AV) {H H' : View} {vs : List Value}, Keeps w H w' H' → RelL w cs H vs → RelL w' cs H' vs
  | [], _, _, _, _, h => h
  | c :: cs, _, _, _, hk, ⟨v, vs, e, h, h'⟩ => ⟨v, vs, e, RelV.keeps c hk h, RelL.keeps cs hk h'⟩
end

inductive TyK where
  | bool | int (k : IntKind) | string
  | pointer (e : TypeId) | slice (e : TypeId) | array (n : Nat) (e : TypeId)
  | struct (fs : List (Nat × TypeId))
  | func | map (k e : TypeId) | other
  deriving Inhabited

structure Ty where
  k : TyK
  size : Nat
  bytes : Nat
  zero : Option (List Value)
  deriving Inhabited

def kOf : TypeDesc → TyK
  | .bool => .bool
  | .int k => .int k
  | .string => .string
  | .pointer e => .pointer e
  | .slice e => .slice e
  | .array n e => .array n e
  | .struct fs => .struct (fs.toList.map fun f => (f.offset, f.type))
  | .func .. => .func
  | .map k e => .map k e
  | _ => .other

/-- what the program's tables say of a type -/
def tyOf (P : Program) (t : TypeId) : Option Ty :=
  match P.underlying t, P.info? t with
  | some d, some i => some { k := kOf d, size := i.size, bytes := i.bytes, zero := i.zero.map fun z => z.cells.toList }
  | _, _ => none

abbrev Tab := List (Option Ty)
def Tab.at (T : Tab) (t : TypeId) : Option Ty := match T[t]? with | some r => r | none => none
def TabOK (P : Program) (T : Tab) : Prop := ∀ t y, T.at t = some y → tyOf P t = some y

/-- the types that the logic speaks of -/
def tyOfK (P : Program) (t : TypeId) : Option Ty := match tyOf P t with
  | some y => match y.k with | .other => none | _ => some y
  | none => none
theorem TabOK.of_map {P : Program} {T : Tab} {n : Nat} (h : (List.range n).map (tyOfK P) = T) : TabOK P T := by
  subst h
  intro t y hy
  unfold Tab.at at hy
  by_cases hlt : t < n
  · simp [hlt] at hy
    unfold tyOfK at hy
    split at hy
    · rename_i y' hy'
      split at hy
      · cases hy
      · injection hy with hy; subst hy; exact hy'
    · cases hy
  · simp [hlt] at hy

theorem tyOf_spec {P : Program} {t : TypeId} {y : Ty} (h : tyOf P t = some y) : ∃ d i, P.underlying t = some d ∧ P.info? t = some i ∧ y.k = kOf d ∧ y.size = i.size ∧ y.bytes = i.bytes ∧ y.zero = i.zero.map fun z => z.cells.toList := by
  unfold tyOf at h
  split at h
  · rename_i d i hd hi
    injection h with h; subst h
    exact ⟨d, i, hd, hi, rfl, rfl, rfl, rfl⟩
  · cases h


end Go.Lens
