/- Lens, part 18: a slice that begins as nil and grows, one element at a time. -/
import Derived.Test.YtnlikbgcnofjiaaDoorLens15
set_option linter.unusedVariables false
set_option linter.unusedSimpArgs false
namespace Go.Lens
open Go Go.RowKit

/-- the slice of `n` elements, whose array is the object `o` -/
def growV (o n : Nat) : AV := match n with | 0 => .nils | n + 1 => .sl o n 0 (n + 1) true
/-- its array, if there is one -/
def growO (e : TypeId) (esz : Nat) (l : List AV) (n : Nat) : List AObj := match n with | 0 => [] | n + 1 => [.cells l n esz true (some e)]
theorem grow0 (o : Nat) : growV o 0 = .nils := rfl
theorem growO0 (e : TypeId) (esz : Nat) : growO e esz [] 0 = [] := rfl
theorem growO_length (e : TypeId) (esz : Nat) (l : List AV) (n : Nat) : (growO e esz l n).length = min n 1 := by cases n <;> simp [growO]

theorem v_grow {C : Ctx} {o : Oper} {env : List (Nat × AV)} {base : List AObj} {s x : Operand} {t e : TypeId} {y ye : Ty} {n esz : Nat} {l ds : List AV} {z : List Value} (ob : Nat) (hop : o.op = .call { callee := .builtin .append, args := #[s, x], argTypes := #[t, t] })
    (hob : ob = base.length) (hs : ev ⟨env, base ++ growO e esz l n⟩ s = some (growV ob n)) (hl : l.length = n * esz) (hx : ev ⟨env, base ++ growO e esz l n⟩ x = some (.row ds 1)) (hds : ds.length = esz) (hy : C.T.at t = some y) (hk : y.k = .slice e)
    (hye : C.T.at e = some ye) (hz : ye.zero = some z) (hzl : z.length = ye.size) (hesz : ye.size = esz) (hsz : 0 < ye.size) (hone : ds.all AV.oneB = true) (hbytes : (n + 1) * ye.bytes ≤ 140737488355328) (hn : n + 1 ≤ 9223372036854775807) :
    VStep C o ⟨env, base ++ growO e esz l n⟩ (growV ob (n + 1)) (base ++ growO e esz (l ++ ds) (n + 1)) := by
  subst hob; subst hesz
  have hone' : ∀ d ∈ ds, d.oneB = true := fun d hd => List.all_eq_true.1 hone d hd
  cases n with
  | zero =>
    have h0 : l = [] := List.length_eq_zero_iff.1 (by simpa using hl)
    subst h0
    simp only [growO, List.append_nil] at hs hx ⊢
    have := v_append_nil (st := ⟨env, base⟩) (m := 1) (ds := ds) hop hs hx hy hk hye hz hzl hsz (.inr (.inl ⟨rfl, by simpa using hds⟩)) (by omega) hone' (by omega) (by simpa using hbytes)
    simpa [growV] using this
  | succ n =>
    simp only [growO] at hs hx ⊢
    have hob : (base ++ [AObj.cells l n ye.size true (some e)])[base.length]? = some (.cells l n ye.size true (some e)) := by simp
    have := v_append_own (st := ⟨env, base ++ [AObj.cells l n ye.size true (some e)]⟩) (m := 1) (ds := ds) hop hs hob hl hx hy hk hye hz hzl hsz (.inr (.inl ⟨rfl, by simpa using hds⟩)) hone' (by omega) hbytes
    simpa [growV, List.set_append_right] using this

theorem growV_in (o n k : Nat) (h : o + min n 1 ≤ k) : (growV o n).inside k = true := by
  cases n with
  | zero => rfl
  | succ n => simp only [growV, AV.inside, decide_eq_true_eq]; omega
theorem growO_le (k : Nat) (e : TypeId) (esz : Nat) (l : List AV) (n : Nat) : ObjsLe k (growO e esz l n) (growO e esz l n) := by
  cases n with
  | zero => trivial
  | succ n => exact ⟨.inr ⟨rfl, trivial⟩, trivial⟩
/-- the same step, less told of its value -/
theorem VStep.sub {C : Ctx} {o : Oper} {st : St} {av av' : AV} {objs' : List AObj} (h : VStep C o st av objs') (hs : Sub av av') : VStep C o st av' objs' := by
  intro H a w hi
  obtain ⟨v, w', H', h1, h2, h3⟩ := h H a w hi
  exact ⟨v, w', H', h1, h2, hs _ _ _ h3⟩

/-- what holds behind a part -/
theorem W.cutE {C : Ctx} {c : Code} {st : St} {Q : Exit → St → Prop} (I : St → Prop) (h : W C c st (fun e s => e = .normal ∧ ∃ env1 objs1, I ⟨env1, objs1⟩ ∧ Fits C.k env1 objs1 s)) (h2 : ∀ s, I s → Q .normal s) (hsv : C.sv = [] := by rfl) : W C c st Q := by
  intro a w hr
  refine wp_mono (h a w hr) fun e a' w' hp => ?_
  obtain ⟨s, ⟨he, env1, objs1, hI, hf⟩, hr'⟩ := hp
  subst he
  exact ⟨_, h2 _ hI, hr'.weak hf.1 hf.2.1 hf.2.2.1 hf.2.2.2 hsv⟩

end Go.Lens
