/- Lens, part 2: constants; arithmetic on abstract values. -/
import Derived.Test.YtnlikbgcnofjiaaDoorLens1
import Derived.Lib.Strings
import Derived.WalkLawsBesides
namespace Go.Lens
open Go Go.RowKit

/-- a constant of one cell -/
def ofVal : Value → Option AV
  | .bool b => some (.bool b)
  | .int k n => some (.int k n)
  | .string ⟨⟨l⟩⟩ => some (.str l)
  | .pointer none => some .nilp
  | .slice none 0 0 => some .nils
  | .nilFunc => some .nilFunc
  | .map none => some .nilm
  | _ => none
theorem ofVal_rel {w : World} {H : View} {v : Value} {c : AV} (h : ofVal v = some c) : RelV w c H v := by
  unfold ofVal at h
  split at h <;> first | (injection h with h; subst h; simp [RelV]) | cases h

def ofVals : List Value → Option (List AV)
  | [] => some []
  | v :: vs => match ofVal v, ofVals vs with | some c, some cs => some (c :: cs) | _, _ => none
theorem ofVals_rel {w : World} {H : View} : ∀ {vs : List Value} {cs : List AV}, ofVals vs = some cs → RelL w cs H vs
  | [], _, h => by simp [ofVals] at h; subst h; rfl
  | v :: vs, cs, h => by
    unfold ofVals at h
    split at h
    · rename_i c cs' h1 h2
      injection h with h; subst h
      exact RelL_cons (ofVal_rel h1) (ofVals_rel h2)
    · cases h

def ev (st : St) : Operand → Option AV
  | .tmp t => look st.env t
  | .const (.agg ⟨l⟩) => (ofVals l).map .agg
  | .const v => ofVal v
  | .func f => some (.func (.func f) [] [])
  | .global _ => none

theorem ev_rel {C : Ctx} {H : View} {st : St} {a : Act} {w : World} (h : Inv C H st a w) {x : Operand} {c : AV} (hx : ev st x = some c) : RelV w c H (a.eval x) := by
  unfold ev at hx
  split at hx
  · exact h.env _ _ hx
  · rename_i l
    cases hl : ofVals l with
    | none => simp [hl] at hx
    | some cs => simp [hl] at hx; subst hx; exact ⟨l, rfl, ofVals_rel hl⟩
  · exact ofVal_rel hx
  · injection hx with hx; subst hx; exact ⟨[], [], rfl, rfl, rfl⟩
  · cases hx

/-! ### arithmetic -/
def intAV (op : BinOp) (k : IntKind) (x y : Int) : Option AV :=
  match op with
  | .add => some (.int k (k.wrap (x + y)))
  | .sub => some (.int k (k.wrap (x - y)))
  | .mul => some (.int k (k.wrap (x * y)))
  | .quo => if y = 0 then none else some (.int k (k.wrap (x.tdiv y)))
  | .rem => if y = 0 then none else some (.int k (x.tmod y))
  | .and => some (.int k (bits .and k x y))
  | .or => some (.int k (bits .or k x y))
  | .xor => some (.int k (bits .xor k x y))
  | .andNot => some (.int k (bits .andNot k x y))
  | .eql => some (.bool (x == y))
  | .neq => some (.bool (x != y))
  | .lss => some (.bool (decide (x < y)))
  | .leq => some (.bool (decide (x ≤ y)))
  | .gtr => some (.bool (decide (x > y)))
  | .geq => some (.bool (decide (x ≥ y)))
  | _ => none

def shAV (op : BinOp) (k : IntKind) (x y : Int) : Option AV :=
  if y < 0 then none else match op with
  | .shl => some (.int k (k.wrap (x * 2 ^ (min y.toNat k.bits))))
  | .shr => some (.int k (x.fdiv (2 ^ (min y.toNat k.bits))))
  | _ => none

def strAV (op : BinOp) (s t : List UInt8) : Option AV :=
  match op with
  | .add => if s.length + t.length ≤ 9223372036854775807 then some (.str (s ++ t)) else none
  | .eql => some (.bool (s == t))
  | .neq => some (.bool (!(s == t)))
  | .lss => some (.bool (Op.bytesLess s t))
  | .leq => some (.bool (Op.bytesLess s t || s == t))
  | .gtr => some (.bool (!(Op.bytesLess s t || s == t)))
  | .geq => some (.bool (!(Op.bytesLess s t)))
  | _ => none

def isShift : BinOp → Bool
  | .shl | .shr => true
  | _ => false

def binAV (op : BinOp) (a b : AV) : Option AV :=
  match a, b with
  | .int k x, .int k' y => if isShift op then shAV op k x y else if k = k' then intAV op k x y else none
  | .str s, .str t => strAV op s t
  | _, _ => none

def unAV (op : UnOp) (a : AV) : Option AV :=
  match op, a with
  | .neg, .int k n => some (.int k (k.wrap (0 - n)))
  | .not, .bool b => some (.bool (!b))
  | .xor, .int k n => some (.int k (bits .xor k (if k.signed then -1 else k.max) n))
  | _, _ => none

theorem toList_mk (s : List UInt8) : (ByteArray.mk s.toArray).toList = s := by rw [Lib.toList_data]
theorem size_mk (s : List UInt8) : (ByteArray.mk s.toArray).size = s.length := by rw [Lib.size_eq]
theorem append_mk (s t : List UInt8) : ByteArray.mk s.toArray ++ ByteArray.mk t.toArray = ByteArray.mk (s ++ t).toArray := by
  have h := Lib.mk_data (ByteArray.mk s.toArray ++ ByteArray.mk t.toArray)
  rw [← h]
  congr 2

section
variable {P : Program} {w : World} {H : View}

theorem int_sound {op : BinOp} {k : IntKind} {x y : Int} {t : TypeId} {r : AV} (hs : isShift op = false) (h : intAV op k x y = some r) :
    ∃ v, (binOp op t (.int k x) (.int k y)).run P w = .ok v w ∧ RelV w r H v := by
  cases op <;> simp only [intAV, isShift] at h hs <;> try (first | (simp at hs; done) | (simp at h; done))
  all_goals first
    | (injection h with h; subst h; simp [binOp, Op.intArith, Op.intCmp, RelV]; done)
    | (injection h with h; subst h; simp [binOp, intBits_and, intBits_or, intBits_xor, intBits_andNot, RelV]; done)
    | skip
  all_goals
    split at h
    · cases h
    · rename_i hy
      injection h with h; subst h
      simp [binOp, Op.intDiv, hy, RelV]

theorem sh_sound {op : BinOp} {k k' : IntKind} {x y : Int} {t : TypeId} {r : AV} (hs : isShift op = true) (h : shAV op k x y = some r) :
    ∃ v, (binOp op t (.int k x) (.int k' y)).run P w = .ok v w ∧ RelV w r H v := by
  unfold shAV at h
  split at h
  · cases h
  · rename_i hy
    cases op <;> simp [isShift] at hs <;> (simp only [Option.some.injEq] at h; subst h; simp [binOp, Op.shift, hy, RelV])

theorem str_sound {op : BinOp} {s u : List UInt8} {t : TypeId} {r : AV} (h : strAV op s u = some r) :
    ∃ v, (binOp op t (.string ⟨s.toArray⟩) (.string ⟨u.toArray⟩)).run P w = .ok v w ∧ RelV w r H v := by
  cases op <;> simp only [strAV] at h <;> try (simp at h; done)
  case add =>
    split at h
    · rename_i hl
      injection h with h; subst h
      have : ¬ (((ByteArray.mk s.toArray).size + (ByteArray.mk u.toArray).size : Nat) : Int) > IntKind.i64.max := by
        rw [size_mk, size_mk, IntKind.max_i64]; omega
      refine ⟨_, ?_, rfl⟩
      simp only [binOp, Op.stringOp, if_neg this, append_mk]
      rfl
    · cases h
  all_goals
    injection h with h; subst h
    refine ⟨_, ?_, rfl⟩
    simp only [binOp, Op.stringOp, toList_mk]
    first | rfl | simp

theorem bin_sound {op : BinOp} {X Y : Operand} {x y r : AV} {u v : Value} {t : TypeId} (h : binAV op x y = some r) (hx : RelV w x H u) (hy : RelV w y H v) :
    ∃ z, (do eqGuard op t X Y u v; binOp op t u v : Sem Value).run P w = .ok z w ∧ RelV w r H z := by
  unfold binAV at h
  split at h
  · rename_i k a k' b
    simp only [RelV] at hx hy
    subst hx; subst hy
    simp only [eqGuard_at_int]
    split at h
    · rename_i hs
      simpa using sh_sound hs h
    · rename_i hs
      split at h
      · rename_i hk; subst hk
        simpa using int_sound (by simpa using hs) h
      · cases h
  · rename_i a b
    simp only [RelV] at hx hy
    subst hx; subst hy
    simp only [eqGuard_at_string]
    simpa using str_sound h
  · cases h

theorem un_sound {op : UnOp} {x r : AV} {u : Value} (h : unAV op x = some r) (hx : RelV w x H u) :
    ∃ z, (Op.unary op u).run P w = .ok z w ∧ RelV w r H z := by
  unfold unAV at h
  split at h <;> first | (cases h; done) | skip
  all_goals
    injection h with h; subst h
    simp only [RelV] at hx
    subst hx
    simp [Op.unary, Op.intArith, intBits_xor, RelV]
end

end Go.Lens
