/- Lens, part 12: regions that draw their order. Lens, part 13: weaker values, literals, ranges over strings, functions without a body, equality. Lens, part 14: the steps as they are used by walks. Plain law: numbers as limbs. -/
import Derived.Test.YtejpblopbdgkaaaGreatDoorKDL1
import Derived.Laws.Small
import Derived.Laws.Cover3
import Derived.Laws.Pointers
import Derived.Laws.StructEq
import Derived.Laws.BitsLemmas
import Derived.Laws.Bits64
import Derived.Laws.Closers25

set_option linter.unusedVariables false
set_option linter.unusedSimpArgs false
namespace Go.Lens
open Go Go.RowKit
/-- the operations that an operation waits for -/
def depsOf (o : Oper) : List Nat := (o.after.toList.filter fun e => Region.binds .any e).map (·.on)
def depEnv (ds : List Nat) (E : List AV) : List Nat → List (Nat × AV)
  | [] => []
  | j :: l => match ds[j]?, E[j]? with | some d, some c => (d, c) :: depEnv ds E l | _, _ => depEnv ds E l
def clean (ds : List Nat) : List (Nat × AV) → List (Nat × AV)
  | [] => []
  | p :: l => if ds.contains p.1 then clean ds l else p :: clean ds l
/-- does an operation come behind another one, at one or more removes? -/
def behind (ops : Array Oper) : Nat → Nat → Nat → Bool
  | 0, _, _ => false
  | f + 1, i, j => match ops[i]? with
    | none => false
    | some o => (depsOf o).contains j || (depsOf o).any fun k => behind ops f k j
/-- the first ones yield the temporaries `ds`, each its own; each of the rest waits for all ahead of it -/
def drawOK (ops : Array Oper) (ds : List Nat) : Bool :=
  decide ds.Nodup && decide (ds.length ≤ ops.size) && (List.range ds.length).all (fun i => (ops[i]?).any fun o => o.dst == ds[i]?) &&
  ((List.range' ds.length (ops.size - ds.length)).all fun i => (List.range i).all fun j => behind ops 24 i j) &&
  (List.range ops.size).all fun i => (ops[i]?).any fun o => (depsOf o).all fun j => decide (j < i)
theorem drawOK_back {ops : Array Oper} {ds : List Nat} (h : drawOK ops ds = true) {i : Nat} {o : Oper} (hi : ops[i]? = some o) {e : Edge} (he : e ∈ o.after.toList) (hb : Region.binds .any e = true) : e.on < i := by
 simp only [drawOK, Bool.and_eq_true] at h
 have h1 := h.2
 rw [List.all_eq_true] at h1
 have h2 := h1 i (by rw [List.mem_range]; exact (Array.getElem?_eq_some_iff.1 hi).1)
 rw [hi] at h2
 simp only [Option.any_some, List.all_eq_true, decide_eq_true_eq] at h2
 exact h2 e.on (by simp only [depsOf, List.mem_map, List.mem_filter]; exact ⟨e, ⟨he, hb⟩, rfl⟩)
theorem drawOK_tail {ops : Array Oper} {ds : List Nat} (h : drawOK ops ds = true) {i : Nat} (hi : i < ops.size) (hge : ds.length ≤ i) {j : Nat} (hj : j < i) : behind ops 24 i j = true := by
 simp only [drawOK, Bool.and_eq_true] at h
 have h1 := h.1.2
 rw [List.all_eq_true] at h1
 have h2 := h1 i (by rw [List.mem_range'_1]; omega)
 simp only [List.all_eq_true] at h2
 exact h2 j (by rw [List.mem_range]; exact hj)
/-- with each operation all that it waits for is listed -/
def Closed (ops : Array Oper) (listed : Array Bool) : Prop := ∀ (i : Nat) (o : Oper), ops[i]? = some o → listed.getD i false = true → ∀ j ∈ depsOf o, listed.getD j false = true
theorem Closed.behind {ops : Array Oper} {listed : Array Bool} (hc : Closed ops listed) {j : Nat} : ∀ (f i : Nat) (o : Oper), ops[i]? = some o → (∀ k ∈ depsOf o, listed.getD k false = true) → Lens.behind ops f i j = true → listed.getD j false = true
 | 0, _, _, _, _, h => by cases h
 | f + 1, i, o, ho, hd, h => by
  simp only [Lens.behind, ho, Bool.or_eq_true, List.any_eq_true, List.contains_iff_mem] at h
  rcases h with h | ⟨k, hk, h⟩
  ·exact hd j h
  ·cases f with
   | zero => cases h
   | succ f =>
    cases hk' : ops[k]? with
    | none => simp only [Lens.behind, hk'] at h; cases h
    | some o' => exact Closed.behind hc (f + 1) k o' hk' (hc k o' hk' (hd k hk)) h
theorem Closed.set {ops : Array Oper} {listed : Array Bool} (hc : Closed ops listed) {i : Nat} {o : Oper} (ho : ops[i]? = some o) (hd : ∀ k ∈ depsOf o, listed.getD k false = true) : Closed ops (listed.setIfInBounds i true) := by
 have hmono : ∀ k, listed.getD k false = true → (listed.setIfInBounds i true).getD k false = true := by
  intro k hk
  simp only [Array.getD_eq_getD_getElem?, Array.getElem?_setIfInBounds] at hk ⊢
  split
  ·split
   ·rfl
   ·rename_i h1 h2; subst h1; simp [show ¬ i < listed.size from h2] at hk
  ·exact hk
 intro x o' hx hl k hk
 by_cases e : x = i
 ·subst e; rw [ho] at hx; injection hx with hx; subst hx
  exact hmono k (hd k hk)
 ·refine hmono k (hc x o' hx ?_ k hk)
  simp only [Array.getD_eq_getD_getElem?, Array.getElem?_setIfInBounds] at hl ⊢
  rwa [if_neg (fun h => e h.symm)] at hl
theorem drawOK_dst {ops : Array Oper} {ds : List Nat} (h : drawOK ops ds = true) {i : Nat} {o : Oper} (hi : ops[i]? = some o) (hlt : i < ds.length) : o.dst = some ds[i] := by
 simp only [drawOK, Bool.and_eq_true] at h
 have h1 := h.1.1.2
 rw [List.all_eq_true] at h1
 have h2 := h1 i (by rw [List.mem_range]; exact hlt)
 rw [hi] at h2
 simpa [hlt] using h2
theorem drawOK_nodup {ops : Array Oper} {ds : List Nat} (h : drawOK ops ds = true) : ds.Nodup ∧ ds.length ≤ ops.size := by
 simp only [drawOK, Bool.and_eq_true, decide_eq_true_eq] at h
 exact h.1.1.1
theorem look_append {l r : List (Nat × AV)} {t : Nat} : look (l ++ r) t = (look l t).or (look r t) := by
 induction l with
 | nil => rfl
 | cons p l ih =>
  obtain ⟨k, v⟩ := p
  simp only [List.cons_append, look]
  split
  ·rfl
  ·exact ih
theorem look_depEnv {ds : List Nat} {E : List AV} {l : List Nat} {t : Nat} {v : AV} (h : look (depEnv ds E l) t = some v) : ∃ j ∈ l, ds[j]? = some t ∧ E[j]? = some v := by
 induction l with
 | nil => cases h
 | cons j l ih =>
  simp only [depEnv] at h
  split at h
  ·rename_i d c h1 h2
   simp only [look] at h
   split at h
   ·rename_i he
    injection h with h; subst h
    have : d = t := by simpa using he
    subst this
    exact ⟨j, .head _, h1, h2⟩
   ·obtain ⟨j', h3, h4⟩ := ih h; exact ⟨j', .tail _ h3, h4⟩
  ·obtain ⟨j', h3, h4⟩ := ih h; exact ⟨j', .tail _ h3, h4⟩
theorem look_clean {ds : List Nat} {env : List (Nat × AV)} {t : Nat} {v : AV} (h : look (clean ds env) t = some v) : t ∉ ds ∧ look env t = some v := by
 induction env with
 | nil => cases h
 | cons p l ih =>
  obtain ⟨k, c⟩ := p
  simp only [clean] at h
  split at h
  ·rename_i hk
   obtain ⟨h1, h2⟩ := ih h
   refine ⟨h1, ?_⟩
   have : k ≠ t := fun e => h1 (by subst e; simpa using hk)
   simp [look, this, h2]
  ·rename_i hk
   simp only [look] at h ⊢
   split at h
   ·rename_i he
    have : k = t := by simpa using he
    subst this
    rw [if_pos (by simp)]
    exact ⟨by simpa using hk, h⟩
   ·rename_i he
    obtain ⟨h1, h2⟩ := ih h
    rw [if_neg he]
    exact ⟨h1, h2⟩
/-- An operation alone, whatever else the frame holds. -/
def DrawStep (C : Ctx) (ops : Array Oper) (o : Oper) (env : List (Nat × AV)) (objs : List AObj) (c : AV) : Prop :=
  ∀ more, WL C ops [o] ⟨env ++ more, objs⟩ (fun e st' => e = .normal ∧ st' = St.put ⟨env ++ more, objs⟩ o.dst c)
def DrawSteps (C : Ctx) (ops : Array Oper) (ds : List Nat) (E : List AV) (env : List (Nat × AV)) (objs : List AObj) : List Oper → List AV → Prop
  | _, [] => True
  | [], _ :: _ => False
  | o :: os, c :: cs => DrawStep C ops o (depEnv ds E (depsOf o) ++ clean ds env) objs c ∧ DrawSteps C ops ds E env objs os cs
theorem DrawSteps.get {C : Ctx} {ops : Array Oper} {ds : List Nat} {E : List AV} {env : List (Nat × AV)} {objs : List AObj} : ∀ {os : List Oper} {cs : List AV}, DrawSteps C ops ds E env objs os cs →
  ∀ {i : Nat} {c : AV}, cs[i]? = some c → ∃ o, os[i]? = some o ∧ DrawStep C ops o (depEnv ds E (depsOf o) ++ clean ds env) objs c
 | o :: os, c :: cs, ⟨h, _⟩, 0, c', hc => by simp at hc; subst hc; exact ⟨o, rfl, h⟩
 | o :: os, c :: cs, ⟨_, h⟩, i + 1, c', hc => by simpa using DrawSteps.get h (i := i) (by simpa using hc)
 | [], _ :: _, h, _, _, _ => h.elim
 | _, [], _, _, _, hc => by simp at hc
theorem Rel.drew {C : Ctx} {st : St} {a : Act} {w : World} (h : Rel C st a w) : Rel C st a w.drew := by
 obtain ⟨H, h⟩ := h
 have hk := Keeps.drew w H
 refine ⟨H, h.move hk ⟨h.objs.n, fun o ob ho => ?_, h.objs.inj, h.objs.lt⟩ (fun _ _ => Iff.rfl) h.klen (fun _ _ => ⟨rfl, rfl, rfl⟩) h.lens (fun o ho => Outside.of_eq rfl _ _) h.own (fun _ _ _ => rfl) (Nat.le_refl _) rfl rfl rfl⟩
 have := h.objs.rel o ob ho
 cases ob with
 | dead => trivial
 | iter => exact this
 | bytes => exact this
 | kv k es =>
  obtain ⟨g1, g2, es', cl, g3, g4, g5⟩ := this
  exact ⟨g1, g2, es', cl, g3, g4, RelL.keeps _ hk.bare g5⟩
 | slot => exact this
 | cells cs ver esz flat own =>
  obtain ⟨g1, g2, vs, c, e, g3, g4, g5, g6⟩ := this
  exact ⟨g1, g2, vs, c, e, g3, g4.keeps cs (hk.flatIf flat), g5, g6⟩
/-- a frame that is known better -/
theorem Rel.env {C : Ctx} {st : St} {a : Act} {w : World} (h : Rel C st a w) {env : List (Nat × AV)} (he : ∀ t v, look env t = some v → look st.env t = some v) : Rel C ⟨env, st.objs⟩ a w := by
 obtain ⟨H, h⟩ := h
 exact ⟨H, h.size, h.defers, fun t av ht => h.env t av (he t av ht), h.objs, h.wr0, h.klen, h.byref, h.lens, h.out, h.own, h.frame, h.le, h.os, h.tape, h.output, h.saved⟩
theorem wpOp_of_WL {C : Ctx} {ops : Array Oper} {o : Oper} {st st' : St} {i : Nat} {a : Act} {w : World} {K : Act → World → Prop} {Q : Exit → Act → World → Prop} (hi : ops[i]? = some o)
  (h : WL C ops [o] st (fun e s => e = .normal ∧ s = st')) (hr : Rel C st a w) (hK : ∀ a w, Rel C st' a w → K a w) : wpOp C.P ops Q i K a w := by
 have h1 := h a w hr
 unfold wpList at h1
 unfold wpOp
 simp only [hi]
 have hno : ¬ LetsOut (Post C (fun e s => e = Exit.normal ∧ s = st')) := fun ⟨_, _, _, ⟨he, _⟩, _⟩ => by cases he
 have hnext : ∀ a w, wpList C.P ops (Post C (fun e s => e = Exit.normal ∧ s = st')) [] a w → K a w := fun a w ⟨s, ⟨_, hs⟩, hr⟩ => hK a w (hs ▸ hr)
 split
 ·rename_i hw
  rw [if_pos hw] at h1
  rcases h1 with h1 | ⟨_, h1⟩
  ·left
   unfold Oper.wp at h1 ⊢
   generalize (execOp a.eval o).run C.P w = r at h1 ⊢
   cases r with
   | ok n w' =>
    cases n <;> simp only [Oper.upon] at h1 ⊢ <;>
     first
      | exact hnext _ _ h1
      | exact Calls.mono h1 (fun e w'' he => by cases e <;> first | exact hnext _ _ he | exact absurd he hno | (obtain ⟨_, ⟨he, _⟩, _⟩ := he; cases he))
      | exact Rows.mono h1 (fun _ _ he => hnext _ _ he)
   | halt x w' => cases x <;> simp only [Oper.upon] at h1 ⊢ <;> (obtain ⟨_, ⟨he, _⟩, _⟩ := h1; cases he)
  ·exact absurd h1 hno
 ·rename_i hw
  rw [if_neg hw] at h1
  exact hnext _ _ h1
theorem mem_ready {md : Region.Mode} {ops : Array Oper} {listed : Array Bool} {i : Nat} (h : i ∈ Region.ready md ops listed) : i < ops.size ∧ listed.getD i true = false ∧ ∃ o, ops[i]? = some o ∧ ∀ e ∈ o.after.toList, Region.binds md e = true → listed.getD e.on false = true := by
 unfold Region.ready at h
 rw [List.mem_filter] at h
 obtain ⟨h1, h2⟩ := h
 rw [List.mem_range] at h1
 simp only [Bool.and_eq_true, Bool.not_eq_true'] at h2
 refine ⟨h1, h2.1, ops[i], by simp [h1], fun e he hb => ?_⟩
 have h3 := h2.2
 rw [Array.getElem?_eq_getElem h1] at h3
 simp only [Option.map_some, Option.getD_some, Array.all_eq_true'] at h3
 have := h3 e (by simpa using he)
 simp only [hb, Bool.not_true, Bool.false_or] at this
 exact this
theorem getD_set (l : Array Bool) (i j : Nat) (b d : Bool) : (l.setIfInBounds i b).getD j d = if i = j ∧ j < l.size then b else l.getD j d := by
 simp only [Array.getD_eq_getD_getElem?, Array.getElem?_setIfInBounds]
 by_cases h : i = j
 ·subst h
  by_cases h2 : i < l.size
  ·simp [h2]
  ·simp [h2]
 ·simp [h]
/-- what is known while the values come, in whatever order -/
structure Midst (ops : Array Oper) (ds : List Nat) (E : List AV) (env0 env : List (Nat × AV)) (listed : Array Bool) : Prop where
  size : listed.size = ops.size
  tail : ∀ j, ds.length ≤ j → j < ops.size → listed.getD j true = false
  vals : ∀ j d c, ds[j]? = some d → E[j]? = some c → listed.getD j true = true → look env d = some c
  rest : ∀ t v, t ∉ ds → look env0 t = some v → look env t = some v
  closed : Closed ops listed
theorem W.draw_tail {C : Ctx} {ops : Array Oper} {Q : Exit → Act → World → Prop} {m0 : Nat} (hback : ∀ (i : Nat) (o : Oper), ops[i]? = some o → ∀ e ∈ o.after.toList, Region.binds .any e = true → e.on < i) (htail : ∀ i, i < ops.size → m0 ≤ i → ∀ j, j < i → behind ops 24 i j = true) : ∀ (fuel m : Nat) (listed : Array Bool) (a : Act) (w : World), m0 ≤ m → m ≤ ops.size → fuel = ops.size - m → listed.size = ops.size →
  (∀ j, j < ops.size → (listed.getD j true = true ↔ j < m)) → wpList C.P ops Q (ops.toList.drop m) a w → wpAny C.P .any ops Q fuel listed a w := by
 intro fuel
 have hready : ∀ m (listed : Array Bool), listed.size = ops.size → m0 ≤ m → (∀ j, j < ops.size → (listed.getD j true = true ↔ j < m)) → ∀ i ∈ Region.ready .any ops listed, i = m ∧ m < ops.size := by
  intro m listed hsz0 hm hl i hi
  obtain ⟨h1, h2, o, ho, h3⟩ := mem_ready hi
  have hge : m ≤ i := by
   rcases Nat.lt_or_ge i m with h | h
   ·have := (hl i h1).2 h; rw [h2] at this; cases this
   ·exact h
  refine ⟨?_, by omega⟩
  rcases Nat.lt_or_ge m i with hlt | h
  ·have hcl : Closed ops listed := by
    intro x o' hx hlx k hk
    have hxs := (Array.getElem?_eq_some_iff.1 hx).1
    have hxm : x < m := (hl x hxs).1 (by
     by_cases hsz : x < listed.size
     ·simpa [Array.getD, hsz] using hlx
     ·simp [Array.getD, hsz])
    simp only [depsOf, List.mem_map, List.mem_filter] at hk
    obtain ⟨e, ⟨he1, he2⟩, rfl⟩ := hk
    have hb := hback x o' hx e he1 he2
    have h5 := (hl e.on (by omega)).2 (by omega)
    have : e.on < listed.size := by omega
    simpa [Array.getD, this] using h5
   have h4 := hcl.behind 24 i o ho (fun k hk => by
    simp only [depsOf, List.mem_map, List.mem_filter] at hk
    obtain ⟨e, ⟨he1, he2⟩, rfl⟩ := hk
    exact h3 e he1 he2) (htail i h1 (by omega) m hlt)
   have hms : m < ops.size := by omega
   have h5 : listed.getD m true = true := by
    by_cases hsz : m < listed.size
    ·simpa [Array.getD, hsz] using h4
    ·simp [Array.getD, hsz]
   have := (hl m hms).1 h5
   omega
  ·omega
 induction fuel with
 | zero =>
  intro m listed a w hm hle hf hsz hl h
  have : m = ops.size := by omega
  subst this
  refine ⟨?_, ?_⟩
  ·rw [List.eq_nil_iff_forall_not_mem]
   intro i hi
   have := hready _ listed hsz hm hl i hi
   omega
  ·rw [List.drop_eq_nil_of_le (by simp)] at h
   exact h
 | succ fuel ih =>
  intro m listed a w hm hle hf hsz hl h
  have hlt : m < ops.size := by omega
  have hmem : m ∈ Region.ready .any ops listed ∨ m ∉ Region.ready .any ops listed := Classical.em _
  have hdrop : ops.toList.drop m = ops[m] :: ops.toList.drop (m + 1) := by
   rw [List.drop_eq_getElem_cons (by simpa using hlt)]; simp
  have hlm : listed.getD m true = false := by
   cases h1 : listed.getD m true with
   | false => rfl
   | true => have := (hl m hlt).1 h1; omega
  refine ⟨fun h0 => ?_, fun i hi => ?_⟩
  ·-- m is ready
   exfalso
   have : m ∈ Region.ready .any ops listed := by
    unfold Region.ready
    rw [List.mem_filter, List.mem_range]
    refine ⟨hlt, ?_⟩
    simp only [hlm, Bool.not_false, Bool.true_and, Array.getElem?_eq_getElem hlt, Option.map_some, Option.getD_some, Array.all_eq_true']
    intro e he
    by_cases hb : Region.binds .any e = true
    ·simp only [hb, Bool.not_true, Bool.false_or]
     have hback := hback m _ (Array.getElem?_eq_getElem hlt) e (by simpa using he) hb
     have h5 := (hl e.on (by omega)).2 hback
     have : e.on < listed.size := by omega
     simpa [Array.getD, this] using h5
    ·simp [hb]
   rw [h0] at this; cases this
  ·obtain ⟨rfl, _⟩ := hready m listed hsz hm hl i hi
   rw [hdrop] at h
   unfold wpList at h
   unfold wpOp
   simp only [Array.getElem?_eq_getElem hlt]
   have hnext : ∀ a w, wpList C.P ops Q (ops.toList.drop (i + 1)) a w → wpAny C.P .any ops Q fuel (listed.setIfInBounds i true) a w := fun a w hw =>
    ih (i + 1) _ a w (by omega) (by omega) (by omega) (by simp [hsz]) (fun j hj => by
     rw [getD_set]
     by_cases e : i = j
     ·subst e; simp [hsz, hlt]
     ·have := hl j hj
      simp only [e, false_and, if_false, this]; omega) hw
   split
   ·rename_i hw
    rw [if_pos hw] at h
    exact h.imp (Oper.wp_mono hnext) id
   ·rename_i hw
    rw [if_neg hw] at h
    exact hnext _ _ h
/-- A region that draws its order: its values, each by itself, then the rest in its order. -/
theorem W.draw {C : Ctx} {id : Nat} {ops : Array Oper} {st : St} {Q : Exit → St → Prop} (hmix : C.P.follows .mixedOrders = true) (ds : List Nat) (E : List AV) (hlen : E.length = ds.length) (hchk : drawOK ops ds = true)
  (hs : DrawSteps C ops ds E st.env st.objs ops.toList E) (ht : WL C ops (ops.toList.drop ds.length) ⟨ds.zip E ++ st.env, st.objs⟩ Q) : W C (.region id ops true) st Q := by
 obtain ⟨hnd, hle⟩ := drawOK_nodup hchk
 have main : ∀ (fuel : Nat) (listed : Array Bool) (env : List (Nat × AV)) (a : Act) (w : World), fuel = ((List.range ops.size).filter fun j => !listed.getD j true).length → Midst ops ds E st.env env listed → Rel C ⟨env, st.objs⟩ a w → wpAny C.P .any ops (Post C Q) fuel listed a w := by
  intro fuel
  have hall : ∀ (listed : Array Bool) (env : List (Nat × AV)) (a : Act) (w : World), Midst ops ds E st.env env listed → Rel C ⟨env, st.objs⟩ a w → (∀ j, j < ds.length → listed.getD j true = true) →
    wpAny C.P .any ops (Post C Q) (ops.size - ds.length) listed a w := by
   intro listed env a w hm hr hvals
   refine W.draw_tail (fun i o hi e he hb => drawOK_back hchk hi he hb) (fun i h1 h2 j h3 => drawOK_tail hchk h1 h2 h3) _ ds.length listed a w (Nat.le_refl _) hle rfl hm.size (fun j hj => ⟨fun h => ?_, fun h => hvals j h⟩) (ht a w ?_)
   ·rcases Nat.lt_or_ge j ds.length with h1 | h1
    ·exact h1
    ·rw [hm.tail j h1 hj] at h; cases h
   ·refine hr.env fun t v hv => ?_
    rw [look_append] at hv
    cases hz : look (ds.zip E) t with
    | some v' =>
     rw [hz, Option.some_or] at hv
     injection hv with hv; subst hv
     have : ∃ j : Nat, ds[j]? = some t ∧ E[j]? = some v' := by
      have aux : ∀ (ds : List Nat) (E : List AV), look (ds.zip E) t = some v' → ∃ j : Nat, ds[j]? = some t ∧ E[j]? = some v' := by
       intro ds
       induction ds with
       | nil => intro E h; simp [look] at h
       | cons d ds ih =>
        intro E h
        cases E with
        | nil => simp [look] at h
        | cons c E =>
         simp only [List.zip_cons_cons, look] at h
         split at h
         ·rename_i he
          injection h with h; subst h
          exact ⟨0, by simpa using he, rfl⟩
         ·obtain ⟨j, h1, h2⟩ := ih E h
          exact ⟨j + 1, by simpa using h1, by simpa using h2⟩
      exact aux ds E hz
     obtain ⟨j, h1, h2⟩ := this
     exact hm.vals j t v' h1 h2 (hvals j (List.getElem?_eq_some_iff.1 h1).1)
    | none =>
     rw [hz, Option.none_or] at hv
     refine hm.rest t v (fun hin => ?_) hv
     obtain ⟨j, hj⟩ := List.getElem?_of_mem hin
     have aux : ∀ (ds : List Nat) (E : List AV), E.length = ds.length → t ∈ ds → look (ds.zip E) t ≠ none := by
      intro ds
      induction ds with
      | nil => intro E _ h; cases h
      | cons d ds ih =>
       intro E hl h
       cases E with
       | nil => simp at hl
       | cons c E =>
        simp only [List.zip_cons_cons, look]
        split
        ·simp
        ·rename_i hne
         rcases List.mem_cons.1 h with h | h
         ·subst h; simp at hne
         ·exact ih E (by simpa using hl) h
     exact aux ds E hlen hin hz
  induction fuel with
  | zero =>
   intro listed env a w hf hm hr
   have hnone : ∀ j, j < ops.size → listed.getD j true = true := by
    intro j hj
    have h0 := List.eq_nil_of_length_eq_zero hf.symm
    cases h1 : listed.getD j true with
    | true => rfl
    | false =>
     have : j ∈ (List.range ops.size).filter fun j => !listed.getD j true := by
      rw [List.mem_filter, List.mem_range]; exact ⟨hj, by simp [h1]⟩
     rw [h0] at this; cases this
   have h2 : ops.size - ds.length = 0 := by
    rcases Nat.lt_or_ge ds.length ops.size with h | h
    ·have := hnone _ h; rw [hm.tail _ (Nat.le_refl _) h] at this; cases this
    ·omega
   have := hall listed env a w hm hr (fun j hj => hnone j (by omega))
   rw [h2] at this; exact this
  | succ fuel ih =>
   intro listed env a w hf hm hr
   by_cases hv : ∀ j, j < ds.length → listed.getD j true = true
   ·have h1 := hall listed env a w hm hr hv
    have h2 : fuel + 1 = ops.size - ds.length := by
     rw [hf]
     have h3 : (List.range ops.size).filter (fun j => !listed.getD j true) = List.range' ds.length (ops.size - ds.length) := by
      have h4 : List.range ops.size = List.range ds.length ++ List.range' ds.length (ops.size - ds.length) := by
       rw [List.range_eq_range', List.range_eq_range', show ops.size = ds.length + (ops.size - ds.length) by omega]
       have := List.range'_append (s := 0) (m := ds.length) (n := ops.size - ds.length) (step := 1)
       simp at this
       rw [← this]; simp
      rw [h4, List.filter_append]
      rw [List.filter_eq_nil_iff.2, List.nil_append, List.filter_eq_self.2]
      ·intro j hj
       rw [List.mem_range'_1] at hj
       simp [hm.tail j hj.1 (by omega)]
      ·intro j hj
       rw [List.mem_range] at hj
       simp [hv j hj]
     rw [h3, List.length_range']
    rw [h2]; exact h1
   ·-- a value comes
    refine ⟨fun h0 => ?_, fun i hi => ?_⟩
    ·exfalso
     have hex : ∃ j, j < ds.length ∧ listed.getD j true = false := by
      apply Classical.byContradiction
      intro hn
      exact hv fun j hj => by
       cases h1 : listed.getD j true with
       | true => rfl
       | false => exact absurd ⟨j, hj, h1⟩ hn
     obtain ⟨m, ⟨hm1, hm2⟩, hmin⟩ := least hex
     have : m ∈ Region.ready .any ops listed := by
      unfold Region.ready
      have hlt : m < ops.size := by omega
      rw [List.mem_filter, List.mem_range]
      refine ⟨hlt, ?_⟩
      simp only [hm2, Bool.not_false, Bool.true_and, Array.getElem?_eq_getElem hlt, Option.map_some, Option.getD_some, Array.all_eq_true']
      intro e he
      by_cases hb : Region.binds .any e = true
      ·simp only [hb, Bool.not_true, Bool.false_or]
       have hback := drawOK_back hchk (Array.getElem?_eq_getElem hlt) (by simpa using he) hb
       have h5 : listed.getD e.on true = true := by
        cases h6 : listed.getD e.on true with
        | true => rfl
        | false => have := hmin e.on ⟨by omega, h6⟩; omega
       have : e.on < listed.size := by rw [hm.size]; omega
       simpa [Array.getD, this] using h5
      ·simp [hb]
     rw [h0] at this; cases this
    ·obtain ⟨h1, h2, o, ho, h3⟩ := mem_ready hi
     have hik : i < ds.length := by
      rcases Nat.lt_or_ge i ds.length with h | h
      ·exact h
      ·exfalso
       refine hv fun j hj => ?_
       have h4 := hm.closed.behind 24 i o ho (fun k hk => by
        simp only [depsOf, List.mem_map, List.mem_filter] at hk
        obtain ⟨e, ⟨he1, he2⟩, rfl⟩ := hk
        exact h3 e he1 he2) (drawOK_tail hchk h1 h (show j < i by omega))
       have : j < listed.size := by rw [hm.size]; omega
       simpa [Array.getD, this] using h4
     have hiE : i < E.length := by omega
     obtain ⟨o', ho', hstep⟩ := hs.get (i := i) (c := E[i]) (by simp [hiE])
     have : o' = o := by
      rw [Array.getElem?_toList] at ho'
      rw [ho] at ho'; injection ho' with ho'; exact ho'.symm
     subst this
     have hdst := drawOK_dst hchk ho hik
     have hpre : ∀ t v, look ((depEnv ds E (depsOf o') ++ clean ds st.env) ++ env) t = some v → look env t = some v := by
      intro t v hl
      rw [look_append, look_append] at hl
      cases h5 : look (depEnv ds E (depsOf o')) t with
      | some v' =>
       rw [h5] at hl
       simp only [Option.some_or, Option.some.injEq] at hl
       subst hl
       obtain ⟨j, h6, h7, h8⟩ := look_depEnv h5
       simp only [depsOf, List.mem_map, List.mem_filter] at h6
       obtain ⟨e, ⟨he1, he2⟩, rfl⟩ := h6
       have h9 := h3 e he1 he2
       have : e.on < listed.size := by rw [hm.size]; have := (List.getElem?_eq_some_iff.1 h7).1; omega
       exact hm.vals e.on t v' h7 h8 (by simpa [Array.getD, this] using h9)
      | none =>
       rw [h5, Option.none_or] at hl
       cases h6 : look (clean ds st.env) t with
       | some v' =>
        rw [h6] at hl
        simp only [Option.some_or, Option.some.injEq] at hl
        subst hl
        obtain ⟨h7, h8⟩ := look_clean h6
        exact hm.rest t v' h7 h8
       | none => rw [h6, Option.none_or] at hl; exact hl
     refine wpOp_of_WL (st := ⟨(depEnv ds E (depsOf o') ++ clean ds st.env) ++ env, st.objs⟩) ho (hstep env) (hr.env hpre) fun a' w' hr' => ih _ ((ds[i], E[i]) :: env) a' w' ?_ ?_ ?_
     ·-- one fewer is left
      have aux : ∀ (l : List Nat), l.Nodup → i ∈ l → (l.filter fun j => !listed.getD j true).length = (l.filter fun j => !(listed.setIfInBounds i true).getD j true).length + 1 := by
       intro l
       induction l with
       | nil => intro _ h; cases h
       | cons x l ih2 =>
        intro hn hin
        rw [List.nodup_cons] at hn
        by_cases hx : x = i
        ·subst hx
         have hsz : x < listed.size := by rw [hm.size]; exact h1
         have hsame : (l.filter fun j => !listed.getD j true) = (l.filter fun j => !(listed.setIfInBounds x true).getD j true) := by
          apply List.filter_congr
          intro j hj
          rw [getD_set, if_neg]
          rintro ⟨rfl, _⟩
          exact hn.1 hj
         rw [List.filter_cons_of_pos (by simp [h2]), List.filter_cons_of_neg (by rw [getD_set]; simp [hsz]), List.length_cons, hsame]
        ·have hin' : i ∈ l := by
          rcases List.mem_cons.1 hin with h | h
          ·exact absurd h.symm hx
          ·exact h
         have hg : (listed.setIfInBounds i true).getD x true = listed.getD x true := by
          rw [getD_set, if_neg]
          rintro ⟨rfl, _⟩
          exact hx rfl
         have := ih2 hn.2 hin'
         by_cases hc : listed.getD x true = true
         ·rw [List.filter_cons_of_neg (by simp [hc]), List.filter_cons_of_neg (by rw [hg]; simp [hc])]; exact this
         ·rw [List.filter_cons_of_pos (by simpa using hc), List.filter_cons_of_pos (by rw [hg]; simpa using hc), List.length_cons, List.length_cons, this]
      have := aux (List.range ops.size) List.nodup_range (by rw [List.mem_range]; exact h1)
      omega
     ·refine ⟨by simp [hm.size], fun j hj1 hj2 => ?_, fun j d c hj1 hj2 hj3 => ?_, fun t v ht hl => ?_, hm.closed.set ho fun k hk => by
       simp only [depsOf, List.mem_map, List.mem_filter] at hk
       obtain ⟨e, ⟨he1, he2⟩, rfl⟩ := hk
       exact h3 e he1 he2⟩
      ·rw [getD_set, if_neg (by omega)]; exact hm.tail j hj1 hj2
      ·by_cases e : i = j
       ·subst e
        rw [List.getElem?_eq_getElem hik] at hj1
        rw [List.getElem?_eq_getElem hiE] at hj2
        injection hj1 with hj1; injection hj2 with hj2
        simp [look, hj1, hj2]
       ·rw [getD_set, if_neg (fun h => e h.1)] at hj3
        have hne : ds[i] ≠ d := fun h => e (nodup_get hnd (by rw [List.getElem?_eq_getElem hik, h]) hj1)
        simp only [look]
        rw [if_neg (by simpa using hne)]
        exact hm.vals j d c hj1 hj2 hj3
      ·have hne : ds[i] ≠ t := fun h => ht (h ▸ List.getElem_mem hik)
       simp only [look]
       rw [if_neg (by simpa using hne)]
       exact hm.rest t v ht hl
     ·rw [hdst] at hr'
      refine Rel.env (st := ⟨(ds[i], E[i]) :: ((depEnv ds E (depsOf o') ++ clean ds st.env) ++ env), st.objs⟩) hr' fun t v hl => ?_
      simp only [look] at hl ⊢
      split at hl
      ·rename_i he; rw [if_pos he]; exact hl
      ·rename_i he
       rw [if_neg he]
       cases h5 : look ((depEnv ds E (depsOf o') ++ clean ds st.env) ++ env) t with
       | some v' => have := hpre t v' h5; rw [hl] at this; exact this.symm
       | none => rw [look_append, hl] at h5; cases h6 : look (depEnv ds E (depsOf o') ++ clean ds st.env) t <;> rw [h6] at h5 <;> cases h5
 intro a w hr
 refine wp_region_any hmix (main ops.size _ st.env a _ ?_ ⟨by simp, fun j h1 h2 => by simp [Array.getD, h2], fun j d c h1 h2 h3 => ?_, fun t v _ h => h, fun i o ho hl => by
  have := (Array.getElem?_eq_some_iff.1 ho).1
  simp [Array.getD, this] at hl⟩ hr.drew)
 ·rw [List.filter_eq_self.2, List.length_range]
  intro j hj
  rw [List.mem_range] at hj
  simp [Array.getD, hj]
 ·have := (List.getElem?_eq_some_iff.1 h1).1
  have hlt : j < ops.size := by omega
  simp [Array.getD, hlt] at h3
/-- the walk through a region that draws its order -/
def DrawFrom (C : Ctx) (ops : Array Oper) (ds : List Nat) (env : List (Nat × AV)) (objs : List AObj) (Q : Exit → St → Prop) : List Oper → List Nat → List AV → Prop
  | o :: os, _ :: dr, E => ∃ c, DrawStep C ops o (depEnv ds E (depsOf o) ++ clean ds env) objs c ∧ DrawFrom C ops ds env objs Q os dr (E ++ [c])
  | [], _ :: _, _ => False
  | l, [], E => WL C ops l ⟨ds.zip E ++ env, objs⟩ Q
theorem DrawFrom.step {C : Ctx} {ops : Array Oper} {ds : List Nat} {env : List (Nat × AV)} {objs : List AObj} {Q : Exit → St → Prop} {o : Oper} {os : List Oper} {d : Nat} {dr : List Nat} {E : List AV} {c : AV}
  (h : DrawStep C ops o (depEnv ds E (depsOf o) ++ clean ds env) objs c) (h' : DrawFrom C ops ds env objs Q os dr (E ++ [c])) : DrawFrom C ops ds env objs Q (o :: os) (d :: dr) E := ⟨c, h, h'⟩
theorem DrawFrom.done {C : Ctx} {ops : Array Oper} {ds : List Nat} {env : List (Nat × AV)} {objs : List AObj} {Q : Exit → St → Prop} {l : List Oper} {E : List AV}
  (h : WL C ops l ⟨ds.zip E ++ env, objs⟩ Q) : DrawFrom C ops ds env objs Q l [] E := by cases l <;> exact h
theorem depEnv_more {ds : List Nat} {E E' : List AV} : ∀ {l : List Nat}, (∀ j ∈ l, j < E.length) → depEnv ds (E ++ E') l = depEnv ds E l
 | [], _ => rfl
 | j :: l, h => by
  simp only [depEnv]
  rw [List.getElem?_append_left (h j (by simp)), depEnv_more (fun x hx => h x (by simp [hx]))]
theorem DrawFrom.sound {C : Ctx} {ops : Array Oper} {ds : List Nat} {env : List (Nat × AV)} {objs : List AObj} {Q : Exit → St → Prop} (hchk : drawOK ops ds = true) : ∀ {os : List Oper} {dr : List Nat} {E : List AV}, DrawFrom C ops ds env objs Q os dr E →
  os = ops.toList.drop E.length → dr = ds.drop E.length → ∃ E', DrawSteps C ops ds (E ++ E') env objs os E' ∧ E'.length = dr.length ∧ WL C ops (os.drop dr.length) ⟨ds.zip (E ++ E') ++ env, objs⟩ Q
 | o :: os, d :: dr, E, h, ho, hd => by
  obtain ⟨c, h1, h2⟩ := h
  have hlt : E.length < ops.toList.length := by
   rcases Nat.lt_or_ge E.length ops.toList.length with h | h
   ·exact h
   ·rw [List.drop_eq_nil_of_le h] at ho; cases ho
  have hltd : E.length < ds.length := by
   rcases Nat.lt_or_ge E.length ds.length with h | h
   ·exact h
   ·rw [List.drop_eq_nil_of_le h] at hd; cases hd
  rw [List.drop_eq_getElem_cons hlt] at ho
  rw [List.drop_eq_getElem_cons hltd] at hd
  injection ho with ho1 ho2
  injection hd with hd1 hd2
  obtain ⟨E', g1, g2, g3⟩ := DrawFrom.sound hchk h2 (by simpa using ho2) (by simpa using hd2)
  refine ⟨c :: E', ⟨?_, by simpa [List.append_assoc] using g1⟩, by simp [g2], by simpa [List.append_assoc] using g3⟩
  rw [depEnv_more]
  ·exact h1
  ·intro j hj
   simp only [depsOf, List.mem_map, List.mem_filter] at hj
   obtain ⟨e, ⟨he1, he2⟩, rfl⟩ := hj
   exact drawOK_back hchk (i := E.length) (o := o) (by rw [← Array.getElem?_toList, List.getElem?_eq_getElem hlt, ho1]) he1 he2
 | [], _ :: _, _, h, _, _ => h.elim
 | l, [], E, h, _, _ => ⟨[], by cases l <;> trivial, rfl, by cases l <;> simpa [DrawFrom] using h⟩
theorem W.drawn {C : Ctx} {id : Nat} {ops : Array Oper} {env : List (Nat × AV)} {objs : List AObj} {Q : Exit → St → Prop} (hmix : C.P.follows .mixedOrders = true) (ds : List Nat) (hchk : drawOK ops ds = true)
  (h : DrawFrom C ops ds env objs Q ops.toList ds []) : W C (.region id ops true) ⟨env, objs⟩ Q := by
 obtain ⟨E, h1, h2, h3⟩ := h.sound hchk rfl rfl
 exact W.draw hmix ds E h2 hchk h1 h3
end Go.Lens

set_option linter.unusedVariables false
set_option linter.unusedSimpArgs false
namespace Go.Lens
open Go Go.RowKit
/-! ### weaker values -/
def Sub (c c' : AV) : Prop := ∀ (w : World) (H : View) (v : Value), RelV w c H v → RelV w c' H v
theorem Sub.refl (c : AV) : Sub c c := fun _ _ _ h => h
theorem Sub.nils : Sub .nils (.row [] 0) := by
 intro w H v h
 simp only [RelV] at h
 exact ⟨none, 0, [], h, Nat.le_refl _, rfl, fun hn => absurd rfl hn⟩
theorem Sub.agg1 {c c' : AV} {ds : List AV} (h : Sub c c') : Sub (.agg (c :: ds)) (.agg (c' :: ds)) := by
 rintro w H v ⟨vs, rfl, u, us, rfl, h1, h2⟩
 exact ⟨_, rfl, u, us, rfl, h _ _ _ h1, h2⟩
theorem Inv.sub {C : Ctx} {H : View} {st : St} {a : Act} {w : World} (hi : Inv C H st a w) {t : Nat} {c c' : AV} (ht : look st.env t = some c) (hs : Sub c c') : Inv C H ⟨(t, c') :: st.env, st.objs⟩ a w := by
 refine ⟨hi.size, hi.defers, ?_, hi.objs, hi.wr0, hi.klen, hi.byref, hi.lens, hi.out, hi.own, hi.frame, hi.le, hi.os, hi.tape, hi.output, hi.saved⟩
 intro t' av hl
 simp only [look] at hl
 split at hl
 ·rename_i he
  have : t = t' := by simpa using he
  subst this
  injection hl with hl; subst hl
  exact hs _ _ _ (hi.env t c ht)
 ·exact hi.env t' av hl
theorem W.sub {C : Ctx} {code : Code} {st : St} {Q : Exit → St → Prop} {t : Nat} {c c' : AV} (ht : look st.env t = some c) (hs : Sub c c') (h : W C code ⟨(t, c') :: st.env, st.objs⟩ Q) : W C code st Q :=
 fun a w ⟨H, hi⟩ => h a w ⟨H, hi.sub ht hs⟩
theorem WL.sub {C : Ctx} {ops : Array Oper} {l : List Oper} {st : St} {Q : Exit → St → Prop} (t : Nat) {c c' : AV} (ht : look st.env t = some c) (hs : Sub c c') (h : WL C ops l ⟨(t, c') :: st.env, st.objs⟩ Q) : WL C ops l st Q :=
 fun a w ⟨H, hi⟩ => h a w ⟨H, hi.sub ht hs⟩
/-! ### literals -/
def cellsAV : AV → Option (List AV)
  | .agg ds => some ds
  | c => if c.oneB then some [c] else none
theorem cellsAV_Cells {objs : List AObj} {c : AV} {ds : List AV} (h : cellsAV c = some ds) : Cells objs c ds := by
 cases c <;> simp only [cellsAV] at h
 case agg => injection h with h; subst h; exact .inl rfl
 all_goals
  split at h
  ·rename_i ho
   injection h with h; subst h
   exact .inr ⟨One.of_oneB ho, rfl⟩
  ·cases h
def fillAV (place : Nat → Option (Nat × Nat)) (cs : List AV) : List (Nat × List AV) → Option (List AV)
  | [] => some cs
  | (i, ds) :: rest => match place i with
    | none => none
    | some (off, size) => if ds.length = size ∧ off + ds.length ≤ cs.length then fillAV place (splice cs off ds) rest else none
theorem foldl_splice (off : Nat) : ∀ (us : List Value) (j : Nat) (c : Array Value), off + j + us.length ≤ c.size →
  (us.zipIdx j).foldl (fun cs (p : Value × Nat) => cs.setIfInBounds (off + p.2) p.1) c = (splice c.toList (off + j) us).toArray := by
 intro us
 induction us with
 | nil => intro j c _; simp [splice]
 | cons u us ih =>
  intro j c h
  simp only [List.length_cons] at h
  rw [List.zipIdx_cons, List.foldl_cons, ih (j + 1) _ (by simp; omega)]
  congr 1
  apply List.ext_getElem?
  intro k
  rw [get_splice (by simp; omega), get_splice (by simp; omega)]
  simp only [Array.toList_setIfInBounds, List.getElem?_set, List.length_cons, Array.length_toList]
  by_cases h1 : off + j ≤ k
  ·by_cases h2 : k = off + j
   ·subst h2
    rw [if_neg (by omega), if_pos rfl, if_pos (by omega), if_pos (by omega)]
    simp
   ·by_cases h3 : k < off + j + (us.length + 1)
    ·rw [if_pos (by omega), if_pos (by omega)]
     rw [show k - (off + j) = (k - (off + (j + 1))) + 1 by omega, List.getElem?_cons_succ]
    ·rw [if_neg (by omega), if_neg (by omega), if_neg (by omega)]
  ·rw [if_neg (by omega), if_neg (by omega), if_neg (by omega)]
theorem fill_rel {w : World} {H : View} {objs : List AObj} (ho : Objs w H objs) {place : Nat → Option (Nat × Nat)} : ∀ {parts : List (Nat × List AV)} {cs rs : List AV}, fillAV place cs parts = some rs →
  ∀ {c : Array Value} {vs : List (Nat × Value)}, RelL w cs H c.toList → vs.length = parts.length → (∀ (j i : Nat) (ds : List AV), parts[j]? = some (i, ds) → ∃ v, vs[j]? = some (i, v) ∧ RelL w ds H v.cells.toList) →
  ∃ r, Instr.fill place c vs = some r ∧ RelL w rs H r.toList
 | [], _, _, h, c, vs, hc, hl, _ => by
  simp only [fillAV, Option.some.injEq] at h; subst h
  have : vs = [] := List.eq_nil_of_length_eq_zero (by simpa using hl)
  subst this
  exact ⟨c, rfl, hc⟩
 | (i, ds) :: rest, cs, rs, h, c, vs, hc, hl, hp => by
  obtain ⟨v, hv, hr⟩ := hp 0 i ds rfl
  cases vs with
  | nil => simp at hv
  | cons p vs =>
   simp at hv; subst hv
   simp only [fillAV] at h
   unfold Instr.fill
   cases hpl : place i with
   | none => rw [hpl] at h; cases h
   | some os =>
    obtain ⟨off, size⟩ := os
    rw [hpl] at h
    simp only at h ⊢
    split at h
    ·rename_i hcond
     have hlen := hr.length
     have hclen := hc.length
     simp only [Array.length_toList] at hlen hclen
     rw [if_neg (by
      simp only [ne_eq, Bool.or_eq_true, decide_eq_true_eq, not_or]
      omega)]
     have hfold : (v.cells.zipIdx.foldl (fun cs (p : Value × Nat) => cs.setIfInBounds (off + p.2) p.1) c) = (splice c.toList off v.cells.toList).toArray := by
      have := foldl_splice off v.cells.toList 0 c (by simp only [Array.length_toList]; omega)
      rw [Nat.add_zero] at this
      rw [← this, ← Array.foldl_toList]
      simp [Array.toList_zipIdx]
     have := fill_rel ho h (c := (splice c.toList off v.cells.toList).toArray) (vs := vs) (by simpa using hc.splice hr off) (by simpa using hl) (fun j i' ds' hj => by
      obtain ⟨v', h1, h2⟩ := hp (j + 1) i' ds' (by simpa using hj)
      exact ⟨v', by simpa using h1, h2⟩)
     obtain ⟨r, h1, h2⟩ := this
     refine ⟨r, ?_, h2⟩
     rw [← h1]
     congr 1
    ·cases h
def partsAV (st : St) : List (Nat × Operand) → Option (List (Nat × List AV))
  | [] => some []
  | (i, x) :: r => match ev st x with
    | some c => match cellsAV c, partsAV st r with | some ds, some l => some ((i, ds) :: l) | _, _ => none
    | none => none
theorem partsAV_rel {C : Ctx} {H : View} {st : St} {a : Act} {w : World} (hi : Inv C H st a w) : ∀ {ps : List (Nat × Operand)} {l : List (Nat × List AV)}, partsAV st ps = some l →
  (ps.map fun p => (p.1, a.eval p.2)).length = l.length ∧ ∀ (j i : Nat) (ds : List AV), l[j]? = some (i, ds) → ∃ v, (ps.map fun p => (p.1, a.eval p.2))[j]? = some (i, v) ∧ RelL w ds H v.cells.toList
 | [], _, h => by simp only [partsAV, Option.some.injEq] at h; subst h; exact ⟨rfl, fun j i ds h => by simp at h⟩
 | (i, x) :: r, l, h => by
  simp only [partsAV] at h
  split at h
  ·rename_i c hc
   split at h
   ·rename_i ds l' h1 h2
    injection h with h; subst h
    obtain ⟨g1, g2⟩ := partsAV_rel hi h2
    refine ⟨by simpa using g1, fun j i' ds' hj => ?_⟩
    cases j with
    | zero => simp at hj; obtain ⟨rfl, rfl⟩ := hj; exact ⟨_, rfl, (cellsAV_Cells h1).rel hi.objs (ev_rel hi hc)⟩
    | succ j => simpa using g2 j i' ds' (by simpa using hj)
   ·cases h
  ·cases h
/-- where the parts of a type lie -/
def placeAV (T : Tab) (k : TyK) : Option (Nat → Option (Nat × Nat)) :=
  match k with
  | .array _ e => match T.at e with | some y => some fun i => some (i * y.size, y.size) | none => none
  | .struct fs => match (fs.mapM fun f => (T.at f.2).map fun y => (f.1, y.size)) with | some l => some (l[·]?) | none => none
  | _ => none
theorem v_buildG {C : Ctx} {o : Oper} {st : St} {t : TypeId} {parts : Array (Nat × Operand)} {y : Ty} {z : List Value} {zs rs : List AV} {l : List (Nat × List AV)} {place : Nat → Option (Nat × Nat)} (hop : o.op = .build t parts)
  (hy : C.T.at t = some y) (hz : y.zero = some z) (hzs : ofVals z = some zs) (hpl : placeAV C.T y.k = some place)
  (hl : ∀ H a w, Inv C H st a w → (parts.toList.map fun p => (p.1, a.eval p.2)).length = l.length ∧ ∀ (j i : Nat) (ds : List AV), l[j]? = some (i, ds) → ∃ v, (parts.toList.map fun p => (p.1, a.eval p.2))[j]? = some (i, v) ∧ RelL w ds H v.cells.toList)
  (hf : fillAV place zs l = some rs) : VStep C o st (.agg rs) st.objs := by
 refine VStep.of_pure fun H a w hi => ?_
 obtain ⟨d, i, hd, _, hkd, _⟩ := C.ty hy
 obtain ⟨v, hv, hc⟩ := run_zeroValue hy hz w
 obtain ⟨p1, p2⟩ := hl H a w hi
 obtain ⟨r, h1, h2⟩ := fill_rel hi.objs hf (c := z.toArray) (by simpa using ofVals_rel hzs) p1 p2
 have hparts : (parts.map fun (i, x) => (i, a.eval x)).toList = parts.toList.map fun p => (p.1, a.eval p.2) := by simp
 refine ⟨.agg r, ?_, r.toList, by simp, h2⟩
 cases hk : y.k <;> rw [hk] at hpl hkd <;> simp only [placeAV] at hpl <;> try (cases hpl; done)
 case array n e =>
  obtain rfl := kOf_array hkd
  split at hpl
  ·rename_i ye hye
   injection hpl with hpl; subst hpl
   simp only [execOp, hop, Instr.build, run_underlying hd, hv, hc, run_sizeOf hye, hparts, h1, Sem.run_bind, Sem.run_pure, Result.andThen_ok]
  ·cases hpl
 case struct fs =>
  obtain ⟨f, rfl, rfl⟩ := kOf_struct hkd
  split at hpl
  ·rename_i ls hls
   injection hpl with hpl; subst hpl
   have hplaces : (f.mapM fun f => do pure (f.offset, ← sizeOf f.type) : Sem (Array (Nat × Nat))).run C.P w = .ok ls.toArray w := by
    rw [← Array.toArray_toList (xs := f), List.mapM_toArray, Sem.run_map]
    have aux : ∀ (fl : List Field) (ls : List (Nat × Nat)), (fl.map fun f => (f.offset, f.type)).mapM (fun f => (C.T.at f.2).map fun y => (f.1, y.size)) = some ls →
      (fl.mapM fun f => do pure (f.offset, ← sizeOf f.type) : Sem (List (Nat × Nat))).run C.P w = .ok ls w := by
     intro fl
     induction fl with
     | nil => intro ls h; simp at h; subst h; rfl
     | cons f fl ih =>
      intro ls h
      simp only [List.map_cons, List.mapM_cons, Option.bind_eq_bind, Option.pure_def] at h
      cases hy' : C.T.at f.type with
      | none => rw [hy'] at h; simp at h
      | some yf =>
       rw [hy'] at h
       simp only [Option.map_some, Option.bind_some] at h
       obtain ⟨ls', h3, h4⟩ := Option.bind_eq_some_iff.1 h
       injection h4 with h4; subst h4
       rw [List.mapM_cons]
       simp only [Sem.run_bind, run_sizeOf hy', Result.andThen_ok, Sem.run_pure, ih ls' h3]
    rw [aux _ _ (by simpa using hls)]
    rfl
   simp only [execOp, hop, Instr.build, run_underlying hd, hv, hc, hplaces, hparts, Sem.run_bind, Sem.run_pure, Result.andThen_ok]
   have he : (fun (x : Nat) => ls.toArray[x]?) = (fun (x : Nat) => ls[x]?) := by funext x; simp
   rw [he, h1]
   rfl
  ·cases hpl
theorem v_build {C : Ctx} {o : Oper} {st : St} {t : TypeId} {parts : Array (Nat × Operand)} {y : Ty} {z : List Value} {zs rs : List AV} {l : List (Nat × List AV)} {place : Nat → Option (Nat × Nat)} (hop : o.op = .build t parts)
  (hy : C.T.at t = some y) (hz : y.zero = some z) (hzs : ofVals z = some zs) (hpl : placeAV C.T y.k = some place) (hl : partsAV st parts.toList = some l) (hf : fillAV place zs l = some rs) : VStep C o st (.agg rs) st.objs :=
 v_buildG hop hy hz hzs hpl (fun H a w hi => partsAV_rel hi hl) hf
theorem Keeps.grow (w : World) (H : View) (o : Obj) : Keeps w H (w.alloc o) H :=
 ⟨fun a v h _ => by rw [World.cell?_alloc_lt]; exact h; exact World.block_lt_of_cell? w a h, fun _ _ h => h, Nat.le_refl _, fun _ _ => Nat.le_refl _, fun _ _ _ => ⟨rfl, rfl, rfl⟩⟩
/-- a block more, of which nothing is kept -/
theorem Inv.grow {C : Ctx} {H : View} {st : St} {a : Act} {w : World} (h : Inv C H st a w) (o : Obj) : Inv C H st a (w.alloc o) := by
 have hk := Keeps.grow w H o
 have hold : ∀ b, b < w.heap.size → (w.alloc o).heap[b]? = w.heap[b]? := fun b hb => heap_alloc_old w o hb
 refine h.move hk ⟨h.objs.n, fun i ob hob => ?_, h.objs.inj, fun b hb => Nat.lt_of_lt_of_le (h.objs.lt b hb) (by simp)⟩ (fun _ _ => Iff.rfl) h.klen (fun _ _ => ⟨rfl, rfl, rfl⟩) h.lens (fun x hx => Outside.of_eq (hold _ (Nat.lt_of_lt_of_le (C.hk x hx) h.le)) _ _) h.own (fun b hb _ => hold b (Nat.lt_of_lt_of_le hb h.le)) (by simp) rfl rfl rfl
 by_cases hl : ob.live = true
 ·exact (h.objs.rel i ob hob).keeps hk rfl rfl rfl rfl id (hold _ (h.objs.lt _ (h.objs.wr_blk hob hl)))
 ·cases ob <;> first | trivial | (simp [AObj.live] at hl; done) | exact h.objs.rel i _ hob
theorem v_buildSlice {C : Ctx} {o : Oper} {st : St} {t e : TypeId} {n : Nat} {parts : Array (Nat × Operand)} {y ye : Ty} {z : List Value} {zs rs : List AV} {l : List (Nat × List AV)} (hop : o.op = .buildSlice t n parts)
  (hy : C.T.at t = some y) (hk : y.k = .slice e) (hye : C.T.at e = some ye) (hz : ye.zero = some z) (hzs : ofVals z = some zs) (hl : partsAV st parts.toList = some l) (hlim : n * ye.size ≤ 16777216) (hlim2 : n ≤ 16777216) (hzl : zs.length = ye.size)
  (hf : fillAV (fun i => some (i * ye.size, ye.size)) ((List.range (n * ye.size)).map fun i => zs.getD (i % zs.length) .nilp) l = some rs) (hp : plainL rs = true) (hrs : rs.length = n * ye.size) :
  VStep C o st (.sl st.objs.length 0 0 n true) (st.objs ++ [.cells rs 0 ye.size true (some e)]) := by
 intro H a w hi
 obtain ⟨d, i, hd, _, hkd, _⟩ := C.ty hy
 rw [hk] at hkd
 obtain rfl := kOf_slice hkd
 obtain ⟨v, hv, hc⟩ := run_zeroValue hye hz w
 obtain ⟨p1, p2⟩ := partsAV_rel hi hl
 have hzr : RelL w zs H z := ofVals_rel hzs
 have hzlen := hzr.length
 have hparts : (parts.map fun (i, x) => (i, a.eval x)).toList = parts.toList.map fun p => (p.1, a.eval p.2) := by simp
 let cells : Array Value := (Array.range (n * ye.size)).map fun i => (z.toArray)[i % z.toArray.size]!
 have hcells : RelL w ((List.range (n * ye.size)).map fun i => zs.getD (i % zs.length) .nilp) H cells.toList := by
  refine RelL.of_get (by simp [cells]) fun j c u hj hu => ?_
  have hjl : j < n * ye.size := by have := (List.getElem?_eq_some_iff.1 hj).1; simpa using this
  have hpos : 0 < ye.size := by
   rcases Nat.eq_zero_or_pos ye.size with h | h
   ·rw [h] at hjl; simp at hjl
   ·exact h
  have hm : j % zs.length < zs.length := Nat.mod_lt _ (by omega)
  simp only [List.getElem?_map, List.getElem?_range hjl, Option.map_some, Option.some.injEq] at hj
  obtain ⟨u', hu', hr⟩ := hzr.get (j % zs.length) zs[j % zs.length] (by simp [hm])
  have hc' : c = zs[j % zs.length] := by rw [← hj]; simp [List.getD, hm]
  subst hc'
  have hu2 : u = u' := by
   have : cells.toList[j]? = some ((z.toArray)[j % z.toArray.size]!) := by simp [cells, hjl]
   rw [hu] at this
   injection this with this
   rw [this]
   have hzl' : j % z.toArray.size < z.toArray.size := by simpa [← hzlen] using hm
   rw [getElem!_pos z.toArray (j % z.toArray.size) hzl']
   have : z[j % z.length]? = some u' := by rw [← hzlen]; exact hu'
   simp only [List.size_toArray, List.getElem_toArray]
   exact (List.getElem?_eq_some_iff.1 this).2
  rw [hu2]; exact hr
 obtain ⟨r, h1, h2⟩ := fill_rel hi.objs hf (c := cells) hcells p1 p2
 have hrl := h2.length
 have hn := hi.objs.n
 have hrun : (Instr.buildSlice t n (parts.map fun (i, x) => (i, a.eval x))).run C.P w = .ok (.slice (some ⟨w.heap.size, 0, none⟩) n n) (w.alloc (.cells r e)) := by
  have hlim' : ¬ n * ye.size > 2 ^ 24 := by simpa using hlim
  unfold Instr.buildSlice
  simp only [run_underlying hd, run_sizeOf hye, Sem.run_bind, Result.andThen_ok, if_neg hlim', Sem.run_pure, hparts]
  by_cases h0 : n * ye.size = 0
  ·have hcz : cells = #[] := by simp [cells, h0]
   rw [hcz] at h1
   simp only [h0, if_true, Sem.run_bind, Sem.run_pure, Result.andThen_ok]
   have : (Array.range 0).map (fun x => (#[] : Array Value)[x % (#[] : Array Value).size]!) = #[] := by simp
   rw [this, h1]
   simp [newRow]
  ·simp only [h0, if_false, Sem.run_bind, hv, Result.andThen_ok, Sem.run_pure, hc]
   show ((match Instr.fill (fun i => some (i * ye.size, ye.size)) cells _ with | some cells => _ | _ => _ : Sem Value).run C.P w) = _
   rw [h1]
   simp [newRow]
 refine ⟨.slice (some ⟨w.heap.size, 0, none⟩) n n, w.alloc (.cells r e), H.add w.heap.size n, ?_, hi.newCells (vs := r.toList) e ye.size n true (some e) r ?_ (fun j u hu => by simpa using hu) ?_, ?_⟩
 ·simp only [execOp, hop, Sem.run_bind, hrun, Result.andThen_ok, Sem.run_pure]
 ·exact h2.bare _ hp
 ·intro t' ht'
  injection ht' with ht'
  simp only [Array.length_toList] at hrl ⊢
  refine ⟨ht', by omega, ?_, n, by omega, Nat.le_refl _⟩
  simp only [maxLen]; omega
 ·refine ⟨by simp [View.add]; omega, by simp [View.add, hn], fun _ => ⟨⟨w.heap.size, 0, none⟩, n, rfl, Nat.le_refl _, fun _ => ?_, fun _ => ⟨?_, rfl, ?_⟩⟩⟩ <;> simp [View.add, hn]
/-- the same, of a slice that is only read -/
theorem v_buildRow {C : Ctx} {o : Oper} {st : St} {t e : TypeId} {n : Nat} {parts : Array (Nat × Operand)} {y ye : Ty} {z : List Value} {zs rs : List AV} {l : List (Nat × List AV)} (hop : o.op = .buildSlice t n parts)
  (hy : C.T.at t = some y) (hk : y.k = .slice e) (hye : C.T.at e = some ye) (hz : ye.zero = some z) (hzs : ofVals z = some zs) (hl : partsAV st parts.toList = some l) (hlim : n * ye.size ≤ 16777216) (hlim2 : n ≤ 16777216) (hzl : zs.length = ye.size)
  (hf : fillAV (fun i => some (i * ye.size, ye.size)) ((List.range (n * ye.size)).map fun i => zs.getD (i % zs.length) .nilp) l = some rs) (hp : plainL rs = true) (hrs : rs.length = n * ye.size) :
  VStep C o st (.row rs n) st.objs := by
 intro H a w hi
 obtain ⟨d, i, hd, _, hkd, _⟩ := C.ty hy
 rw [hk] at hkd
 obtain rfl := kOf_slice hkd
 obtain ⟨v, hv, hc⟩ := run_zeroValue hye hz w
 obtain ⟨p1, p2⟩ := partsAV_rel hi hl
 have hzr : RelL w zs H z := ofVals_rel hzs
 have hzlen := hzr.length
 have hparts : (parts.map fun (i, x) => (i, a.eval x)).toList = parts.toList.map fun p => (p.1, a.eval p.2) := by simp
 let cells : Array Value := (Array.range (n * ye.size)).map fun i => (z.toArray)[i % z.toArray.size]!
 have hcells : RelL w ((List.range (n * ye.size)).map fun i => zs.getD (i % zs.length) .nilp) H cells.toList := by
  refine RelL.of_get (by simp [cells]) fun j c u hj hu => ?_
  have hjl : j < n * ye.size := by have := (List.getElem?_eq_some_iff.1 hj).1; simpa using this
  have hpos : 0 < ye.size := by
   rcases Nat.eq_zero_or_pos ye.size with h | h
   ·rw [h] at hjl; simp at hjl
   ·exact h
  have hm : j % zs.length < zs.length := Nat.mod_lt _ (by omega)
  simp only [List.getElem?_map, List.getElem?_range hjl, Option.map_some, Option.some.injEq] at hj
  obtain ⟨u', hu', hr⟩ := hzr.get (j % zs.length) zs[j % zs.length] (by simp [hm])
  have hc' : c = zs[j % zs.length] := by rw [← hj]; simp [List.getD, hm]
  subst hc'
  have hu2 : u = u' := by
   have : cells.toList[j]? = some ((z.toArray)[j % z.toArray.size]!) := by simp [cells, hjl]
   rw [hu] at this
   injection this with this
   rw [this]
   have hzl' : j % z.toArray.size < z.toArray.size := by simpa [← hzlen] using hm
   rw [getElem!_pos z.toArray (j % z.toArray.size) hzl']
   have : z[j % z.length]? = some u' := by rw [← hzlen]; exact hu'
   simp only [List.size_toArray, List.getElem_toArray]
   exact (List.getElem?_eq_some_iff.1 this).2
  rw [hu2]; exact hr
 obtain ⟨r, h1, h2⟩ := fill_rel hi.objs hf (c := cells) hcells p1 p2
 have hrl := h2.length
 have hn := hi.objs.n
 have hrun : (Instr.buildSlice t n (parts.map fun (i, x) => (i, a.eval x))).run C.P w = .ok (.slice (some ⟨w.heap.size, 0, none⟩) n n) (w.alloc (.cells r e)) := by
  have hlim' : ¬ n * ye.size > 2 ^ 24 := by simpa using hlim
  unfold Instr.buildSlice
  simp only [run_underlying hd, run_sizeOf hye, Sem.run_bind, Result.andThen_ok, if_neg hlim', Sem.run_pure, hparts]
  by_cases h0 : n * ye.size = 0
  ·have hcz : cells = #[] := by simp [cells, h0]
   rw [hcz] at h1
   simp only [h0, if_true, Sem.run_bind, Sem.run_pure, Result.andThen_ok]
   have : (Array.range 0).map (fun x => (#[] : Array Value)[x % (#[] : Array Value).size]!) = #[] := by simp
   rw [this, h1]
   simp [newRow]
  ·simp only [h0, if_false, Sem.run_bind, hv, Result.andThen_ok, Sem.run_pure, hc]
   show ((match Instr.fill (fun i => some (i * ye.size, ye.size)) cells _ with | some cells => _ | _ => _ : Sem Value).run C.P w) = _
   rw [h1]
   simp [newRow]
 refine ⟨.slice (some ⟨w.heap.size, 0, none⟩) n n, w.alloc (.cells r e), H, ?_, hi.grow _, some ⟨w.heap.size, 0, none⟩, n, r.toList, rfl, Nat.le_refl _, ?_, fun _ => ⟨⟨w.heap.size, 0, none⟩, rfl, fun j u hu => ?_, fun hw => ?_⟩⟩
 ·simp only [execOp, hop, Sem.run_bind, hrun, Result.andThen_ok, Sem.run_pure]
 ·exact (h2.bare _ hp).keeps _ (Keeps.bare (Keeps.grow w H _))
 ·rw [add_mk, Nat.zero_add]
  simp only [World.cell?, heap_alloc_new, Option.isSome_none, Bool.false_eq_true, if_false]
  simpa using hu
 ·exact absurd (hi.objs.lt _ hw) (Nat.lt_irrefl _)
/-! ### ranges over strings -/
theorem v_range {C : Ctx} {o : Oper} {st : St} {t : TypeId} {x : Operand} {y : Ty} {s : List UInt8} (hop : o.op = .range t x) (hx : ev st x = some (.str s)) (hy : C.T.at t = some y) (hk : y.k = .string) :
  VStep C o st (.ptr st.objs.length 0 0) (st.objs ++ [.iter s 0]) := by
 intro H a w hi
 obtain ⟨d, i, hd, _, hkd, _⟩ := C.ty hy
 rw [hk] at hkd
 obtain rfl := kOf_string hkd
 have hr := ev_rel hi hx
 simp only [RelV] at hr
 refine ⟨_, w.iter ⟨s.toArray⟩ 0, H.add w.heap.size 0, ?_, hi.new 0 ⟨by simp [View.add], .inr (by simp [View.add]), by simp [View.add], ?_⟩, new_ptr hi _ 0⟩
 ·simp only [execOp, hop, hr, Sem.run_bind, run_range_string w t _ hd, Result.andThen_ok, Sem.run_pure]
 ·simpa [View.add, World.iter] using World.iter_heap w ⟨s.toArray⟩ 0
theorem getElem_mk (s : List UInt8) (i : Nat) (h : i < (ByteArray.mk s.toArray).size) (h' : i < s.length) : (ByteArray.mk s.toArray)[i]'h = s[i] := by
 show s.toArray[i] = s[i]
 simp
/-- the next sign of a string, a plain one -/
theorem v_next_ascii {C : Ctx} {o : Oper} {st : St} {it : Operand} {s : List UInt8} {ob pos : Nat} {b : UInt8} (hop : o.op = .next it true) (hx : ev st it = some (.ptr ob 0 0)) (hob : st.objs[ob]? = some (.iter s pos))
  (hb : s[pos]? = some b) (ha : b.toNat < 128) : VStep C o st (.tup [.bool true, .int .i64 pos, .int .i32 b.toNat]) (st.objs.set ob (.iter s (pos + 1))) := by
 intro H a w hi
 obtain ⟨g0, g1, g2, g3⟩ := hi.objs.rel ob _ hob
 obtain ⟨p1, p2, p3⟩ := ev_rel hi hx
 have hp := p3 g0
 rw [g2] at hp
 obtain ⟨hlt, hget⟩ := List.getElem?_eq_some_iff.1 hb
 have hsz : pos < (ByteArray.mk s.toArray).size := by rw [size_mk]; exact hlt
 have hdec : Utf8.decode ⟨s.toArray⟩ pos = (b.toNat, 1) := by
  have := decode_ascii ⟨s.toArray⟩ pos hsz (by rw [getElem_mk s pos hsz hlt, hget]; exact ha)
  rw [getElem_mk s pos hsz hlt, hget] at this; exact this
 have hbl := hi.objs.lt _ g1
 refine ⟨.tuple #[.bool true, .int .i64 pos, .int .i32 b.toNat], { w with heap := w.heap.setIfInBounds (H.blk ob) (.stringIter ⟨s.toArray⟩ (pos + 1)) }, H, ?_, ?_, ?_⟩
 ·simp only [execOp, hop, hp, Nat.add_zero, Instr.next, getObj, setObj, Sem.run_bind, Sem.run, g3, Result.andThen, hsz, if_true, hdec]
  simp [goInt, Sem.run, g3]
 ·refine hi.write (ob := .iter s pos) hob rfl (fun h => by cases h) ⟨rfl, fun x _ => ⟨rfl, rfl, rfl, rfl⟩⟩ (.inl ⟨rfl, rfl, rfl, rfl⟩) (.inl rfl) (fun hok => ⟨rfl, rfl, rfl, fun _ _ _ _ _ h => (by cases h), ?_⟩) (fun b' => ⟨.inl, fun hb => hb.elim id fun hb => by omega⟩) (fun b' _ hne => ?_) (by simp) rfl rfl rfl ?_
  ·intro c e hc
   simp only [Array.getElem?_setIfInBounds_self_of_lt hbl] at hc
   cases hc
  ·simp only
   rw [Array.getElem?_setIfInBounds_ne (fun h => hne h.symm)]
  ·exact ⟨g0, g1, g2, by simp [hbl]⟩
 ·exact ⟨_, rfl, RelL_cons rfl (RelL_cons rfl (RelL_cons rfl RelL_nil))⟩
theorem v_next_end {C : Ctx} {o : Oper} {st : St} {it : Operand} {s : List UInt8} {ob pos : Nat} (hop : o.op = .next it true) (hx : ev st it = some (.ptr ob 0 0)) (hob : st.objs[ob]? = some (.iter s pos))
  (hb : s.length ≤ pos) : VStep C o st (.tup [.bool false]) st.objs := by
 refine VStep.of_pure fun H a w hi => ?_
 obtain ⟨g0, g1, g2, g3⟩ := hi.objs.rel ob _ hob
 obtain ⟨p1, p2, p3⟩ := ev_rel hi hx
 have hp := p3 g0
 rw [g2] at hp
 have hsz : ¬ pos < (ByteArray.mk s.toArray).size := by rw [size_mk]; omega
 refine ⟨.tuple #[.bool false], ?_, ⟨_, rfl, RelL_cons rfl RelL_nil⟩⟩
 simp only [execOp, hop, hp, Nat.add_zero, Instr.next, getObj, Sem.run_bind, Sem.run, g3, Result.andThen, hsz, if_false]
 rfl
/-! ### functions without a body -/
def Ext (P : Program) (f : FuncId) (args : List AV) (r : AV) : Prop :=
  ∀ (H : View) (w : World) (vs : List Value), RelL w args H vs → ∃ v, (callFunc f vs.toArray).run P w = .ok (.value v) w ∧ RelV w r H v
theorem v_ext {C : Ctx} {o : Oper} {st : St} {x : Operand} {xs : Array Operand} {ts : Array TypeId} {f : FuncId} {avs : List AV} {r : AV} (hs : Ext C.P f avs r)
  (hop : o.op = .call { callee := .value x, args := xs, argTypes := ts }) (hx : ev st x = some (.func (.func f) [] [])) (hxs : evL st xs.toList = some avs) : VStep C o st r st.objs := by
 refine VStep.of_pure fun H a w hi => ?_
 obtain ⟨us, us', e, h1, h2⟩ := ev_rel hi hx
 simp only [RelL] at h1 h2
 subst h1; subst h2
 obtain ⟨v, h3, h4⟩ := hs H w _ (evL_rel hi hxs)
 refine ⟨v, ?_, h4⟩
 simp only [execOp, hop, resolve, e, Deferred.ofValue, invoke, Sem.run_bind, Sem.run_pure, Result.andThen_ok]
 rw [← h3]
 congr 2
 apply Array.ext'
 simp
/-! ### equality -/
theorem v_eq_bool {C : Ctx} {o : Oper} {st : St} {t t' : TypeId} {x x' : Operand} {y : Ty} {b b' : Bool} (hop : o.op = .binOp .eql t x x' t') (hx : ev st x = some (.bool b)) (hx' : ev st x' = some (.bool b'))
  (hy : C.T.at t = some y) (hk : y.k = .bool) : VStep C o st (.bool (b == b')) st.objs := by
 refine VStep.of_pure fun H a w hi => ?_
 obtain ⟨d, i, hd, _, hkd, _⟩ := C.ty hy
 rw [hk] at hkd
 obtain rfl := kOf_bool hkd
 have h1 := ev_rel hi hx
 have h2 := ev_rel hi hx'
 simp only [RelV] at h1 h2
 refine ⟨_, ?_, rfl⟩
 simp only [execOp, hop, h1, h2, Sem.run_bind, eqGuard_at_bool, Sem.run_pure, Result.andThen_ok, binOp, run_equal_bool w t b b' hd]
/-- a slice against nil: an empty row may be nil or not -/
theorem WL.eqnil {C : Ctx} {ops : Array Oper} {o : Oper} {rest : List Oper} {st : St} {Q : Exit → St → Prop} {t t' e : TypeId} {x : Operand} {y : Ty} {cs : List AV} {n : Nat} (hop : o.op = .binOp .eql t x (.const (.slice none 0 0)) t')
  (hx : ev st x = some (.row cs n)) (hy : C.T.at t = some y) (hk : y.k = .slice e) (hg : gd ops st o = some true) (hd : ∀ t, o.dst = some t → t < C.nt)
  (h : ∀ b, (b = true → cs = []) → WL C ops rest (st.put o.dst (.bool b)) Q) : WL C ops (o :: rest) st Q := by
 intro a w ⟨H, hi⟩
 obtain ⟨d, i, hdd, _, hkd, _⟩ := C.ty hy
 rw [hk] at hkd
 obtain rfl := kOf_slice hkd
 obtain ⟨A, c, vs, h1, h2, h3, h4⟩ := ev_rel hi hx
 unfold wpList
 rw [gd_rel hg hi, if_pos rfl]
 refine .inl ?_
 unfold Oper.wp
 have hrun : (execOp a.eval o).run C.P w = .ok (.value (.bool A.isNone)) w := by
  have hc0 : a.eval (.const (.slice none 0 0)) = .slice none 0 0 := rfl
  simp only [execOp, hop, h1, hc0, Sem.run_bind, eqGuard_at_slice, Sem.run_pure, Result.andThen_ok, binOp, run_equal_slice_nil w t e A n c hdd]
 rw [hrun]
 refine h A.isNone (fun hb => ?_) _ _ ⟨H, hi.put o.dst hd rfl⟩
 have hl := h3.length
 cases cs with
 | nil => rfl
 | cons c0 cs =>
  obtain ⟨ad, hA, _⟩ := h4 (fun e => by rw [e] at hl; simp at hl)
  rw [hA] at hb; cases hb
end Go.Lens

set_option linter.unusedVariables false
set_option linter.unusedSimpArgs false
namespace Go.Lens
open Go Go.RowKit
/-- a step that leaves the objects -/
theorem sp {C : Ctx} {ops : Array Oper} {o : Oper} {rest : List Oper} {env : List (Nat × AV)} {objs : List AObj} {Q : Exit → St → Prop} {av : AV} {d : Nat} (hs : VStep C o ⟨env, objs⟩ av objs) (hg : gd ops ⟨env, objs⟩ o = some true)
  (hd : o.dst = some d) (hlt : Nat.blt d C.nt = true) (h : WL C ops rest ⟨(d, av) :: env, objs⟩ Q) : WL C ops (o :: rest) ⟨env, objs⟩ Q :=
 WL.val hs hg (fun t ht => by rw [hd] at ht; injection ht with ht; subst ht; exact Nat.le_of_ble_eq_true hlt) (by rw [hd]; exact h)
/-- the same, the value told otherwise -/
theorem sq {C : Ctx} {ops : Array Oper} {o : Oper} {rest : List Oper} {env : List (Nat × AV)} {objs : List AObj} {Q : Exit → St → Prop} {av av' : AV} {d : Nat} (hs : VStep C o ⟨env, objs⟩ av objs) (ha : av = av') (hg : gd ops ⟨env, objs⟩ o = some true)
  (hd : o.dst = some d) (hlt : Nat.blt d C.nt = true) (h : WL C ops rest ⟨(d, av') :: env, objs⟩ Q) : WL C ops (o :: rest) ⟨env, objs⟩ Q := by
 subst ha; exact sp hs hg hd hlt h
/-- a step that turns the objects -/
theorem sn {C : Ctx} {ops : Array Oper} {o : Oper} {rest : List Oper} {env : List (Nat × AV)} {objs objs' objs'' : List AObj} {Q : Exit → St → Prop} {av av' : AV} {d : Nat} (hs : VStep C o ⟨env, objs⟩ av objs') (ha : av = av') (he : objs' = objs'') (hg : gd ops ⟨env, objs⟩ o = some true)
  (hd : o.dst = some d) (hlt : Nat.blt d C.nt = true) (h : WL C ops rest ⟨(d, av') :: env, objs''⟩ Q) : WL C ops (o :: rest) ⟨env, objs⟩ Q := by
 subst ha; subst he
 exact WL.val hs hg (fun t ht => by rw [hd] at ht; injection ht with ht; subst ht; exact Nat.le_of_ble_eq_true hlt) (by rw [hd]; exact h)
theorem so {C : Ctx} {ops : Array Oper} {o : Oper} {rest : List Oper} {env : List (Nat × AV)} {objs : List AObj} {Q : Exit → St → Prop} {d : Nat} (hg : gd ops ⟨env, objs⟩ o = some false)
  (hd : o.dst = some d) (hlt : Nat.blt d C.nt = true) (h : WL C ops rest ⟨(d, .tup []) :: env, objs⟩ Q) : WL C ops (o :: rest) ⟨env, objs⟩ Q :=
 WL.off hg (fun t ht => by rw [hd] at ht; injection ht with ht; subst ht; exact Nat.le_of_ble_eq_true hlt) (by rw [hd]; exact h)
theorem ss {C : Ctx} {ops : Array Oper} {o : Oper} {rest : List Oper} {env : List (Nat × AV)} {objs objs' objs'' : List AObj} {Q : Exit → St → Prop} (hs : SStep C o ⟨env, objs⟩ objs') (he : objs' = objs'') (hg : gd ops ⟨env, objs⟩ o = some true)
  (hd : o.dst = none) (h : WL C ops rest ⟨env, objs''⟩ Q) : WL C ops (o :: rest) ⟨env, objs⟩ Q := by
 subst he; exact WL.st hs hg hd h
theorem a_alloc {C : Ctx} {o : Oper} {env : List (Nat × AV)} {objs : List AObj} {t : TypeId} {y : Ty} {z : List Value} {ds : List AV} (hop : o.op = .alloc t) (hy : C.T.at t = some y) (hz : y.zero = some z) (hd : ofVals z = some ds) :
  VStep C o ⟨env, objs⟩ (.ptr objs.length 0 0) (objs ++ [.cells ds 0 1 false none]) := v_alloc hop hy hz hd
theorem a_box {C : Ctx} {o : Oper} {env : List (Nat × AV)} {objs : List AObj} {t : TypeId} {x : Operand} {av : AV} {ds : List AV} (hop : o.op = .box t x) (hx : ev ⟨env, objs⟩ x = some av) (hd : Cells objs av ds) :
  VStep C o ⟨env, objs⟩ (.ptr objs.length 0 0) (objs ++ [.cells ds 0 1 false none]) := v_box hop hx hd
theorem a_storeA {C : Ctx} {o : Oper} {env : List (Nat × AV)} {objs : List AObj} {t : TypeId} {x v : Operand} {ob ver i esz : Nat} {cs ds : List AV} {flat : Bool} {own : Option TypeId} {y : Ty} (hop : o.op = .store t x v)
  (hx : ev ⟨env, objs⟩ x = some (.ptr ob ver i)) (hob : objs[ob]? = some (.cells cs ver esz flat own)) (hv : ev ⟨env, objs⟩ v = some (.agg ds)) (hone : ds.all AV.oneB = true) (hp : flat = true → plainL ds = true)
  (hy : C.T.at t = some y) (hsz : y.size = ds.length) (hpos : Nat.blt 0 ds.length = true) (hle : i + ds.length ≤ cs.length) : SStep C o ⟨env, objs⟩ (objs.set ob (.cells (splice cs i ds) ver esz flat own)) :=
 s_store hop hx hob hv (.inl rfl) (fun d hd => One.of_oneB (by rw [List.all_eq_true] at hone; exact hone d hd)) hp hy hsz (Nat.le_of_ble_eq_true hpos) hle
theorem a_store1 {C : Ctx} {o : Oper} {env : List (Nat × AV)} {objs : List AObj} {t : TypeId} {x v : Operand} {ob ver i esz : Nat} {cs : List AV} {flat : Bool} {own : Option TypeId} {y : Ty} {av : AV} (hop : o.op = .store t x v)
  (hx : ev ⟨env, objs⟩ x = some (.ptr ob ver i)) (hob : objs[ob]? = some (.cells cs ver esz flat own)) (hv : ev ⟨env, objs⟩ v = some av) (hone : One objs av) (hp : flat = true → av.plain = true)
  (hy : C.T.at t = some y) (hsz : y.size = 1) (hle : i < cs.length) : SStep C o ⟨env, objs⟩ (objs.set ob (.cells (cs.set i av) ver esz flat own)) := s_store1 hop hx hob hv hone hp hy hsz hle
theorem wrap_i64_id {n : Int} (h0 : -9223372036854775808 ≤ n) (h1 : n ≤ 9223372036854775807) : IntKind.i64.wrap n = n := by rw [IntKind.wrap_i64]; omega
theorem wrap_u64_id {n : Int} (h0 : 0 ≤ n) (h1 : n ≤ 18446744073709551615) : IntKind.u64.wrap n = n := by rw [IntKind.wrap_u64]; omega
theorem v_i64 {C : Ctx} {o : Oper} {st : St} {op : BinOp} {x y : Operand} {t t' : TypeId} {k' : IntKind} {a b r : Int} (hop : o.op = .binOp op t x y t') (hx : ev st x = some (.int .i64 a)) (hy : ev st y = some (.int k' b))
  (hr : binAV op (.int .i64 a) (.int k' b) = some (.int .i64 (IntKind.i64.wrap r))) (h0 : -9223372036854775808 ≤ r) (h1 : r ≤ 9223372036854775807) : VStep C o st (.int .i64 r) st.objs := by
 refine v_pure ?_
 simp only [pureAV, hop, hx, hy, hr, wrap_i64_id h0 h1]
theorem v_u64 {C : Ctx} {o : Oper} {st : St} {op : BinOp} {x y : Operand} {t t' : TypeId} {k' : IntKind} {a b r : Int} (hop : o.op = .binOp op t x y t') (hx : ev st x = some (.int .u64 a)) (hy : ev st y = some (.int k' b))
  (hr : binAV op (.int .u64 a) (.int k' b) = some (.int .u64 (IntKind.u64.wrap r))) (h0 : 0 ≤ r) (h1 : r ≤ 18446744073709551615) : VStep C o st (.int .u64 r) st.objs := by
 refine v_pure ?_
 simp only [pureAV, hop, hx, hy, hr, wrap_u64_id h0 h1]
/-- the same, the value told otherwise -/
theorem v_bin {C : Ctx} {o : Oper} {st : St} {op : BinOp} {x y : Operand} {t t' : TypeId} {a b r : AV} (hop : o.op = .binOp op t x y t') (hx : ev st x = some a) (hy : ev st y = some b)
  (hr : binAV op a b = some r) : VStep C o st r st.objs := by
 refine v_pure ?_
 simp only [pureAV, hop, hx, hy, hr]
theorem rem_nn {k : IntKind} {a b : Int} (h0 : 0 ≤ a) (h1 : 0 < b) : binAV .rem (.int k a) (.int k b) = some (.int k (a % b)) := by
 simp only [binAV, isShift, intAV, Bool.false_eq_true, if_false, if_true, if_neg (show ¬ b = 0 by omega), Int.tmod_eq_emod_of_nonneg h0]
theorem quo_i64 {a b : Int} (h0 : 0 ≤ a) (ha : a ≤ 9223372036854775807) (h1 : 0 < b) : binAV .quo (.int .i64 a) (.int .i64 b) = some (.int .i64 (a / b)) := by
 simp only [binAV, isShift, intAV, Bool.false_eq_true, if_false, if_true, if_neg (show ¬ b = 0 by omega), Int.tdiv_eq_ediv_of_nonneg h0]
 rw [wrap_i64_ediv a b (by omega) ha (by omega)]
theorem quo_u64 {a b : Int} (h0 : 0 ≤ a) (ha : a ≤ 18446744073709551615) (h1 : 0 < b) : binAV .quo (.int .u64 a) (.int .u64 b) = some (.int .u64 (a / b)) := by
 simp only [binAV, isShift, intAV, Bool.false_eq_true, if_false, if_true, if_neg (show ¬ b = 0 by omega), Int.tdiv_eq_ediv_of_nonneg h0]
 rw [wrap_u64_id (Int.ediv_nonneg h0 (by omega)) (Int.le_trans (Int.ediv_le_self _ h0) ha)]
/-- a comparison whose answer is known -/
theorem v_is {C : Ctx} {o : Oper} {st : St} {op : BinOp} {x y : Operand} {t t' : TypeId} {a b : AV} {p : Bool} (q : Bool) (hop : o.op = .binOp op t x y t') (hx : ev st x = some a) (hy : ev st y = some b)
  (hr : binAV op a b = some (.bool p)) (hp : p = q) : VStep C o st (.bool q) st.objs := by
 subst hp; exact v_bin hop hx hy hr
theorem v_cvt {C : Ctx} {o : Oper} {st : St} {x : Operand} {s d : TypeId} {ys yd : Ty} {k k' : IntKind} {n : Int} (hop : o.op = .convert s d x)
  (hx : ev st x = some (.int k n)) (hs : C.T.at s = some ys) (hd : C.T.at d = some yd) (hk : yd.k = .int k') (hw : k'.wrap n = n) : VStep C o st (.int k' n) st.objs := by
 have := v_conv_int hop hx hs hd hk
 rw [hw] at this; exact this
theorem sc {C : Ctx} {ops : Array Oper} {o : Oper} {rest : List Oper} {env : List (Nat × AV)} {objs : List AObj} {Q : Exit → St → Prop} {x : Operand} {xs : Array Operand} {ts : Array TypeId} {f : FuncId} {fs cs avs avs' : List AV} {r : AV} {d : Nat}
  (hs : Does C.P f avs' r)
  (hop : o.op = .call { callee := .value x, args := xs, argTypes := ts }) (hx : ev ⟨env, objs⟩ x = some (.func (.func f) fs cs)) (hxs : evL ⟨env, objs⟩ xs.toList = some avs) (ha : fs ++ avs ++ cs = avs')
  (hp : plainL avs' = true) (hr : r.plain = true)
  (hg : gd ops ⟨env, objs⟩ o = some true) (hd : o.dst = some d) (hlt : Nat.blt d C.nt = true)
  (h : WL C ops rest ⟨(d, r) :: env, objs⟩ Q) : WL C ops (o :: rest) ⟨env, objs⟩ Q := by
 subst ha
 exact WL.fn hs hop hx hxs hp hr hg (fun t ht => by rw [hd] at ht; injection ht with ht; subst ht; exact Nat.le_of_ble_eq_true hlt) (by rw [hd]; exact h)
/-- the end of a function that hands back plain values -/
theorem fin {T : Tab} {rs : List ResultVar} {st : St} {cs cs' : List AV} {r : AV} (h : resAV T st rs = some cs) (hp : PackL st.objs 0 [] 0 cs cs' []) (hr : tupAV cs' = r) : Fin T rs 0 (fun r' os => r' = r ∧ os = []) .ret st :=
 ⟨.inl rfl, cs, cs', [], h, hp, List.nodup_nil, fun ob hob => by simp at hob, hr, by simp⟩
theorem does {P : Program} {T : Tab} (ok : TabOK P T) {f : FuncId} {fn : Func} {c : Code} (hf : P.funcs[f]? = some fn) (hb : fn.body = some c) (hname : (fn.name == "runtime.NumGoroutine") = false)
  {nt : Nat} (hnt : fn.ntmps = nt) {rs : List ResultVar} (hrs : fn.results.toList = rs) {args : List AV} (hlen : Nat.ble args.length nt = true) {r : AV}
  (h : ∀ w0 H0 hk hj, W ⟨P, T, ok, nt, w0, 0, H0, lnOf [], hk, hj, []⟩ c ⟨envOf 0 args, []⟩ (Fin T rs 0 fun r' os => r' = r ∧ os = [])) : Does P f args r :=
 Spec.of_W ok hf hb hname hnt hrs (Nat.le_of_ble_eq_true hlen) (fun _ h => by cases h) h
def Fits (k : Nat) (env0 : List (Nat × AV)) (objs0 : List AObj) (st : St) : Prop := EnvLe env0 st.env ∧ ObjsLe objs0.length objs0 st.objs ∧ envScoped objs0.length env0 = true ∧ k ≤ objs0.length
theorem W.while {C : Ctx} {c : Code} {st : St} {Q : Exit → St → Prop} (I : Nat → St → Prop) (n : Nat) {env0 : List (Nat × AV)} {objs0 : List AObj} (h0 : I n ⟨env0, objs0⟩) (hf : Fits C.k env0 objs0 st)
  (hr : ∀ n st, I n st → W C c st (QThen (fun st' => ∃ m env0 objs0, m < n ∧ I m ⟨env0, objs0⟩ ∧ Fits C.k env0 objs0 st') Q)) (hsv : C.sv = [] := by rfl) : W C (.loop c) st Q := by
 refine W.weak env0 objs0 hf.1 hf.2.1 hf.2.2.1 hf.2.2.2 hsv (W.loop I n h0 (fun n st hI => (hr n st hI).mono fun e st' h => ?_) hsv)
 cases e with
 | normal =>
  obtain ⟨m, env0, objs0, h1, h2, h3⟩ := h
  exact ⟨m, h1, env0, objs0, h2, h3.1, h3.2.1, h3.2.2.1, h3.2.2.2⟩
 | _ => exact h
theorem W.fits {C : Ctx} {c : Code} {st : St} {Q : Exit → St → Prop} {env0 : List (Nat × AV)} {objs0 : List AObj} (hf : Fits C.k env0 objs0 st) (h : W C c ⟨env0, objs0⟩ Q) (hsv : C.sv = [] := by rfl) : W C c st Q :=
 W.weak env0 objs0 hf.1 hf.2.1 hf.2.2.1 hf.2.2.2 hsv h
theorem loadc_at {y : Ty} {cs : List AV} {i j : Nat} {av : AV} (hk : y.k.agg = false) (hj : j = i) (h : cs[i]? = some av) : loadc y (cs.drop j) 0 = some av := by
 subst hj
 simp [loadc, hk, List.getElem?_drop, h]
theorem Ext.of {P : Program} {f : FuncId} {fn : Func} {e : Array Value → Sem Value} (hf : P.funcs[f]? = some fn) (hb : fn.body.isNone = true) (hn : (fn.name == "runtime.NumGoroutine") = false) (hx : Extern.findNext fn = none) (he : Extern.find fn = some e)
  {args : List AV} {r : AV} (h : ∀ (H : View) (w : World) (vs : List Value), RelL w args H vs → ∃ v, (e vs.toArray).run P w = .ok v w ∧ RelV w r H v) : Ext P f args r := by
 intro H w vs hr
 obtain ⟨v, h1, h2⟩ := h H w vs hr
 refine ⟨v, ?_, h2⟩
 have hn' : ¬ (fn.name == "runtime.NumGoroutine") = true := by rw [hn]; simp
 unfold callFunc
 simp only [Sem.run_bind, run_program, Result.andThen_ok, hf, if_neg hn', hb, if_true, run_mark, hx, he, Sem.run_pure, h1]
theorem add64_row {P : Program} (x y c : Nat) (hc : c ≤ 1) (H : View) (w : World) (vs : List Value) (h : RelL w [.int .u64 x, .int .u64 y, .int .u64 c] H vs) :
  ∃ v, ((Extern.MathBitsCarry.rows[0]'(by decide)).2 vs.toArray).run P w = .ok v w ∧ RelV w (.tup [.int .u64 ((x + y + c) % 18446744073709551616 : Nat), .int .u64 ((x + y + c) / 18446744073709551616 : Nat)]) H v := by
 obtain ⟨v1, _, rfl, h1, v2, _, rfl, h2, v3, _, rfl, h3, rfl⟩ := h
 simp only [RelV] at h1 h2 h3
 subst h1; subst h2; subst h3
 have hc' : ¬ c > 1 := by omega
 refine ⟨.tuple #[.int .u64 ((x + y + c) % 18446744073709551616 : Nat), .int .u64 ((x + y + c) / 18446744073709551616 : Nat)], ?_, ⟨_, rfl, RelL_cons rfl (RelL_cons rfl RelL_nil)⟩⟩
 rcases (show c = 0 ∨ c = 1 by omega) with rfl | rfl <;> rfl
theorem sub64_row {P : Program} (x y c : Nat) (hc : c ≤ 1) (H : View) (w : World) (vs : List Value) (h : RelL w [.int .u64 x, .int .u64 y, .int .u64 c] H vs) :
  ∃ v, ((Extern.MathBitsCarry.rows[1]'(by decide)).2 vs.toArray).run P w = .ok v w ∧ RelV w (.tup [.int .u64 ((x + 18446744073709551616 - y - c) % 18446744073709551616 : Nat), .int .u64 (if x < y + c then 1 else 0 : Nat)]) H v := by
 obtain ⟨v1, _, rfl, h1, v2, _, rfl, h2, v3, _, rfl, h3, rfl⟩ := h
 simp only [RelV] at h1 h2 h3
 subst h1; subst h2; subst h3
 have hc' : ¬ c > 1 := by omega
 refine ⟨.tuple #[.int .u64 ((x + 18446744073709551616 - y - c) % 18446744073709551616 : Nat), .int .u64 (if x < y + c then 1 else 0 : Nat)], ?_, ⟨_, rfl, RelL_cons rfl (RelL_cons rfl RelL_nil)⟩⟩
 rcases (show c = 0 ∨ c = 1 by omega) with rfl | rfl <;> rfl
/-- a slice against nil, in a walk -/
theorem snil {C : Ctx} {ops : Array Oper} {o : Oper} {rest : List Oper} {env : List (Nat × AV)} {objs : List AObj} {Q : Exit → St → Prop} {t t' e : TypeId} {x : Operand} {y : Ty} {cs : List AV} {n d : Nat} (hop : o.op = .binOp .eql t x (.const (.slice none 0 0)) t')
  (hx : ev ⟨env, objs⟩ x = some (.row cs n)) (hy : C.T.at t = some y) (hk : y.k = .slice e) (hg : gd ops ⟨env, objs⟩ o = some true) (hd : o.dst = some d) (hlt : Nat.blt d C.nt = true)
  (h : ∀ b, (b = true → cs = []) → WL C ops rest ⟨(d, .bool b) :: env, objs⟩ Q) : WL C ops (o :: rest) ⟨env, objs⟩ Q :=
 WL.eqnil hop hx hy hk hg (fun t ht => by rw [hd] at ht; injection ht with ht; subst ht; exact Nat.le_of_ble_eq_true hlt) fun b hb => by rw [hd]; exact h b hb
/-- a call that is lent slices, which are given up -/
theorem sk {C : Ctx} {ops : Array Oper} {o : Oper} {rest : List Oper} {env : List (Nat × AV)} {objs objs' : List AObj} {Q : Exit → St → Prop} {x : Operand} {xs : Array Operand} {ts : Array TypeId} {f : FuncId} {fs cs avs avs' args args' : List AV} {r : AV} {L : List Nat} {d : Nat}
  (hs : Does C.P f args' r)
  (hop : o.op = .call { callee := .value x, args := xs, argTypes := ts }) (hx : ev ⟨env, objs⟩ x = some (.func (.func f) fs cs)) (hxs : evL ⟨env, objs⟩ xs.toList = some avs) (ha : fs ++ avs ++ cs = avs')
  (hp : PassL objs 0 avs' args L [] []) (he : args = args') (hr : r.plain = true)
  (hmine : ∀ o, o ∈ L → ∃ (ds : List AV) (ver esz : Nat) (e : TypeId), objs[o]? = some (AObj.cells ds ver esz true (some e))) (hkl : killL objs L = objs')
  (hg : gd ops ⟨env, objs⟩ o = some true) (hd : o.dst = some d) (hlt : Nat.blt d C.nt = true)
  (h : WL C ops rest ⟨(d, r) :: env, objs'⟩ Q) : WL C ops (o :: rest) ⟨env, objs⟩ Q := by
 subst ha; subst he; subst hkl
 exact WL.fnK hs hop hx hxs hp hr hmine hg (fun t ht => by rw [hd] at ht; injection ht with ht; subst ht; exact Nat.le_of_ble_eq_true hlt) (by rw [hd]; exact h)
/-- a call that is lent slices, which are kept -/
theorem sl {C : Ctx} {ops : Array Oper} {o : Oper} {rest : List Oper} {env : List (Nat × AV)} {objs : List AObj} {Q : Exit → St → Prop} {x : Operand} {xs : Array Operand} {ts : Array TypeId} {f : FuncId} {fs cs avs avs' args args' : List AV} {r : AV} {L : List Nat} {d : Nat}
  (hs : Does C.P f args' r)
  (hop : o.op = .call { callee := .value x, args := xs, argTypes := ts }) (hx : ev ⟨env, objs⟩ x = some (.func (.func f) fs cs)) (hxs : evL ⟨env, objs⟩ xs.toList = some avs) (ha : fs ++ avs ++ cs = avs')
  (hp : PassL objs 0 avs' args L [] []) (he : args = args') (hr : r.plain = true) (hr' : r.noRow = true)
  (hg : gd ops ⟨env, objs⟩ o = some true) (hd : o.dst = some d) (hlt : Nat.blt d C.nt = true)
  (h : WL C ops rest ⟨(d, r) :: env, objs⟩ Q) : WL C ops (o :: rest) ⟨env, objs⟩ Q := by
 subst ha; subst he
 exact WL.fnL hs hop hx hxs hp hr hr' hg (fun t ht => by rw [hd] at ht; injection ht with ht; subst ht; exact Nat.le_of_ble_eq_true hlt) (by rw [hd]; exact h)
theorem one_mine {objs : List AObj} {o : Nat} {ds : List AV} {ver esz : Nat} {e : TypeId} (h : objs[o]? = some (AObj.cells ds ver esz true (some e))) : ∀ o', o' ∈ [o] → ∃ (ds : List AV) (ver esz : Nat) (e : TypeId), objs[o']? = some (AObj.cells ds ver esz true (some e)) := by
 intro o' ho'
 simp only [List.mem_singleton] at ho'
 subst ho'
 exact ⟨_, _, _, _, h⟩
/-! ### numbers from 0 on -/
theorem v_addN {C : Ctx} {o : Oper} {st : St} {x y : Operand} {t t' : TypeId} {a b : Nat} (hop : o.op = .binOp .add t x y t') (hx : ev st x = some (.int .u64 (a : Int))) (hy : ev st y = some (.int .u64 (b : Int)))
  (h : a + b ≤ 18446744073709551615) : VStep C o st (.int .u64 ((a + b : Nat) : Int)) st.objs := by
 refine v_bin hop hx hy ?_
 simp only [binAV, isShift, intAV, Bool.false_eq_true, if_false, if_true]
 rw [wrap_u64_id (by omega) (by omega), Int.natCast_add]
theorem v_mulN {C : Ctx} {o : Oper} {st : St} {x y : Operand} {t t' : TypeId} {a b : Nat} (hop : o.op = .binOp .mul t x y t') (hx : ev st x = some (.int .u64 (a : Int))) (hy : ev st y = some (.int .u64 (b : Int)))
  (h : a * b ≤ 18446744073709551615) : VStep C o st (.int .u64 ((a * b : Nat) : Int)) st.objs := by
 refine v_bin hop hx hy ?_
 simp only [binAV, isShift, intAV, Bool.false_eq_true, if_false, if_true]
 rw [← Int.natCast_mul, wrap_u64_id (by omega) (by omega)]
theorem v_mulW {C : Ctx} {o : Oper} {st : St} {x y : Operand} {t t' : TypeId} {a b : Nat} (hop : o.op = .binOp .mul t x y t') (hx : ev st x = some (.int .u64 (a : Int))) (hy : ev st y = some (.int .u64 (b : Int))) :
  VStep C o st (.int .u64 ((a * b % 18446744073709551616 : Nat) : Int)) st.objs := by
 refine v_bin hop hx hy ?_
 simp only [binAV, isShift, intAV, Bool.false_eq_true, if_false, if_true]
 rw [← Int.natCast_mul, IntKind.wrap_u64, Int.natCast_emod]
 rfl
theorem v_subN {C : Ctx} {o : Oper} {st : St} {x y : Operand} {t t' : TypeId} {a b : Nat} (hop : o.op = .binOp .sub t x y t') (hx : ev st x = some (.int .u64 (a : Int))) (hy : ev st y = some (.int .u64 (b : Int)))
  (ha : a ≤ 18446744073709551615) (h : b ≤ a) : VStep C o st (.int .u64 ((a - b : Nat) : Int)) st.objs := by
 refine v_bin hop hx hy ?_
 simp only [binAV, isShift, intAV, Bool.false_eq_true, if_false, if_true]
 rw [wrap_u64_id (by omega) (by omega), Int.natCast_sub h]
theorem v_shrN {C : Ctx} {o : Oper} {st : St} {x y : Operand} {t t' : TypeId} {k' : IntKind} {a : Nat} (b : Nat) (hop : o.op = .binOp .shr t x y t') (hx : ev st x = some (.int .u64 (a : Int))) (hy : ev st y = some (.int k' (b : Int)))
  (hb : b ≤ 64) : VStep C o st (.int .u64 ((a / 2 ^ b : Nat) : Int)) st.objs := by
 refine v_bin hop hx hy ?_
 simp only [binAV, isShift, shAV, if_true]
 rw [if_neg (by omega)]
 have : min (b : Int).toNat IntKind.u64.bits = b := by simp [IntKind.bits]; omega
 rw [this, Int.fdiv_eq_ediv_of_nonneg _ (by exact_mod_cast Nat.zero_le _)]
 congr 2
theorem v_maskN {C : Ctx} {o : Oper} {st : St} {x y : Operand} {t t' : TypeId} {a : Nat} {m : Int} (i : Nat) (hop : o.op = .binOp .and t x y t') (hx : ev st x = some (.int .u64 (a : Int))) (hy : ev st y = some (.int .u64 m))
  (ha : a ≤ 18446744073709551615) (hi : i ≤ 64) (hm : m = 2 ^ i - 1) : VStep C o st (.int .u64 ((a % 2 ^ i : Nat) : Int)) st.objs := by
 refine v_bin hop hx hy ?_
 subst hm
 simp only [binAV, isShift, intAV, Bool.false_eq_true, if_false, if_true]
 rw [bits_mask .u64 64 (by decide) (fun n h0 h1 => wrap_u64_id h0 (by omega)) i hi a (by omega) (by omega)]
 congr 2
/-! ### functions that write what they are handed -/
theorem doesR {P : Program} {T : Tab} (ok : TabOK P T) {f : FuncId} {fn : Func} {c : Code} (hf : P.funcs[f]? = some fn) (hb : fn.body = some c) (hname : (fn.name == "runtime.NumGoroutine") = false)
  {nt : Nat} (hnt : fn.ntmps = nt) {rs : List ResultVar} (hrs : fn.results.toList = rs) {args : List AV} (hlen : Nat.ble args.length nt = true) {objs : List AObj} (hm : objs.all (fun ob => !ob.mine && ob.live) = true) {Q : AV → List AObj → Prop}
  (h : ∀ w0 H0 hk hj, W ⟨P, T, ok, nt, w0, objs.length, H0, lnOf objs, hk, hj, []⟩ c ⟨envOf 0 args, objs⟩ (Fin T rs objs.length Q)) : Spec P f args objs Q :=
 Spec.of_W ok hf hb hname hnt hrs (Nat.le_of_ble_eq_true hlen) (fun ob hob => by
  rw [List.all_eq_true] at hm
  have := hm ob hob
  simpa using this) h
theorem sr {C : Ctx} {ops : Array Oper} {o : Oper} {rest : List Oper} {env : List (Nat × AV)} {objs : List AObj} {Q : Exit → St → Prop} {x : Operand} {xs : Array Operand} {ts : Array TypeId} {f : FuncId} {fs cs avs avs' args args' : List AV} {r : AV} {d ob off esz ver : Nat}
  {ds0 ds1 ds : List AV} {R : List AV → Prop} {flat : Bool} {own : Option TypeId} {esz' : Nat}
  (hs : Spec C.P f args' [.cells ds0 0 esz true none] (fun r' os => r' = r ∧ ∃ ds', R ds' ∧ os = [.cells ds' 0 esz true none]))
  (hop : o.op = .call { callee := .value x, args := xs, argTypes := ts }) (hx : ev ⟨env, objs⟩ x = some (.func (.func f) fs cs)) (hxs : evL ⟨env, objs⟩ xs.toList = some avs) (ha : fs ++ avs ++ cs = avs')
  (hp : PassL objs 0 avs' args [] [(ob, off)] [.cells ds1 0 esz true none]) (he : args = args') (he1 : ds1 = ds0) (hob : objs[ob]? = some (.cells ds ver esz' flat own)) (hr : r.plain = true) (hr' : r.noRow = true) (hR : ∀ ds', R ds' → noRowL ds' = true)
  (hg : gd ops ⟨env, objs⟩ o = some true) (hd : o.dst = some d) (hlt : Nat.blt d C.nt = true)
  (h : ∀ ds', R ds' → ∃ cs2 objs2, splice ds off ds' = cs2 ∧ objs.set ob (.cells cs2 ver esz' flat own) = objs2 ∧ WL C ops rest ⟨(d, r) :: env, objs2⟩ Q) : WL C ops (o :: rest) ⟨env, objs⟩ Q := by
 subst ha; subst he; subst he1
 refine WL.call false hs hop hx hxs hp (by simp) (by simp) (by simp) hg (fun t ht => by rw [hd] at ht; injection ht with ht; subst ht; exact Nat.le_of_ble_eq_true hlt) ?_
 rintro r' O' ⟨rfl, ds', hds, rfl⟩
 refine ⟨fun i _ _ _ _ _ hi => ?_, AV.ge_plain _ _ hr, fun i ob' hi hi' => ?_, .inr ⟨hr', by simpa [AObj.noRow] using hR ds' hds⟩, ?_⟩
 ·cases i with
  | zero => simp at hi; obtain ⟨rfl, rfl, rfl, rfl, rfl⟩ := hi; exact ⟨ds', 0, _, none, rfl, fun h => by cases h⟩
  | succ i => simp at hi
 ·have : i = 0 ∨ 1 ≤ i := by omega
  rcases this with rfl | h
  ·simp at hi
  ·rw [List.getElem?_eq_none (by simpa using h)] at hi'; cases hi'
 ·obtain ⟨_, _, rfl, rfl, this⟩ := h ds' hds
  simp only [wb, Bool.false_eq_true, if_false, AV.up_plain _ _ _ hr, hd, St.put, List.length_cons, List.length_nil, List.drop_succ_cons, List.drop_nil, List.map_nil, List.append_nil, List.getD, hob, Option.getD_some, mergeO]
  exact this
/-- a truth value, each way -/
theorem spb {C : Ctx} {ops : Array Oper} {o : Oper} {rest : List Oper} {env : List (Nat × AV)} {objs : List AObj} {Q : Exit → St → Prop} {p : Bool} {d : Nat} (hs : VStep C o ⟨env, objs⟩ (.bool p) objs) (hg : gd ops ⟨env, objs⟩ o = some true)
  (hd : o.dst = some d) (hlt : Nat.blt d C.nt = true) (h1 : p = true → WL C ops rest ⟨(d, .bool true) :: env, objs⟩ Q) (h2 : p = false → WL C ops rest ⟨(d, .bool false) :: env, objs⟩ Q) : WL C ops (o :: rest) ⟨env, objs⟩ Q := by
 cases p with
 | true => exact sp hs hg hd hlt (h1 rfl)
 | false => exact sp hs hg hd hlt (h2 rfl)
theorem scb {C : Ctx} {ops : Array Oper} {o : Oper} {rest : List Oper} {env : List (Nat × AV)} {objs : List AObj} {Q : Exit → St → Prop} {x : Operand} {xs : Array Operand} {ts : Array TypeId} {f : FuncId} {fs cs avs avs' : List AV} {p : Bool} {d : Nat}
  (hs : Does C.P f avs' (.bool p))
  (hop : o.op = .call { callee := .value x, args := xs, argTypes := ts }) (hx : ev ⟨env, objs⟩ x = some (.func (.func f) fs cs)) (hxs : evL ⟨env, objs⟩ xs.toList = some avs) (ha : fs ++ avs ++ cs = avs')
  (hp : plainL avs' = true)
  (hg : gd ops ⟨env, objs⟩ o = some true) (hd : o.dst = some d) (hlt : Nat.blt d C.nt = true)
  (h1 : p = true → WL C ops rest ⟨(d, .bool true) :: env, objs⟩ Q) (h2 : p = false → WL C ops rest ⟨(d, .bool false) :: env, objs⟩ Q) : WL C ops (o :: rest) ⟨env, objs⟩ Q := by
 refine sc hs hop hx hxs ha hp rfl hg hd hlt ?_
 cases p with
 | true => exact h1 rfl
 | false => exact h2 rfl
theorem DrawFrom.stepB {C : Ctx} {ops : Array Oper} {ds : List Nat} {env : List (Nat × AV)} {objs : List AObj} {Q : Exit → St → Prop} {o : Oper} {os : List Oper} {d : Nat} {dr : List Nat} {E : List AV} {p : Bool}
  (h : DrawStep C ops o (depEnv ds E (depsOf o) ++ clean ds env) objs (.bool p)) (h1 : p = true → DrawFrom C ops ds env objs Q os dr (E ++ [.bool true])) (h2 : p = false → DrawFrom C ops ds env objs Q os dr (E ++ [.bool false])) : DrawFrom C ops ds env objs Q (o :: os) (d :: dr) E := by
 cases p with
 | true => exact .step h (h1 rfl)
 | false => exact .step h (h2 rfl)
/-- the same, what is known told in a form that is worked off at once -/
theorem W.drawnR {C : Ctx} {id : Nat} {ops : Array Oper} {env : List (Nat × AV)} {objs : List AObj} {Q : Exit → St → Prop} (hmix : C.P.follows .mixedOrders = true) (ds : List Nat) (hchk : drawOK ops ds = true)
  (h : DrawFrom C ops ds env objs Q ops.toList ds (List.reverse [])) : W C (.region id ops true) ⟨env, objs⟩ Q := W.drawn hmix ds hchk h
theorem DrawFrom.stepR {C : Ctx} {ops : Array Oper} {ds : List Nat} {env : List (Nat × AV)} {objs : List AObj} {Q : Exit → St → Prop} {o : Oper} {os : List Oper} {d : Nat} {dr : List Nat} {R : List AV} {c : AV}
  (h : DrawStep C ops o (depEnv ds R.reverse (depsOf o) ++ clean ds env) objs c) (h' : DrawFrom C ops ds env objs Q os dr (c :: R).reverse) : DrawFrom C ops ds env objs Q (o :: os) (d :: dr) R.reverse :=
 .step h (by simpa using h')
theorem DrawFrom.stepRB {C : Ctx} {ops : Array Oper} {ds : List Nat} {env : List (Nat × AV)} {objs : List AObj} {Q : Exit → St → Prop} {o : Oper} {os : List Oper} {d : Nat} {dr : List Nat} {R : List AV} {p : Bool}
  (h : DrawStep C ops o (depEnv ds R.reverse (depsOf o) ++ clean ds env) objs (.bool p)) (h1 : p = true → DrawFrom C ops ds env objs Q os dr (.bool true :: R).reverse) (h2 : p = false → DrawFrom C ops ds env objs Q os dr (.bool false :: R).reverse) :
  DrawFrom C ops ds env objs Q (o :: os) (d :: dr) R.reverse :=
 .stepB h (fun e => by simpa using h1 e) (fun e => by simpa using h2 e)
theorem DrawFrom.doneR {C : Ctx} {ops : Array Oper} {ds : List Nat} {env env' : List (Nat × AV)} {objs : List AObj} {Q : Exit → St → Prop} {l : List Oper} {R : List AV} (he : ds.zip R.reverse ++ env = env')
  (h : WL C ops l ⟨env', objs⟩ Q) : DrawFrom C ops ds env objs Q l [] R.reverse := .done (he ▸ h)
theorem v_nilCheck {C : Ctx} {o : Oper} {env : List (Nat × AV)} {objs : List AObj} {x : Operand} {ob ver i esz : Nat} {cs : List AV} {flat : Bool} {own : Option TypeId} (hop : o.op = .nilCheck x) (hx : ev ⟨env, objs⟩ x = some (.ptr ob ver i)) (hob : objs[ob]? = some (.cells cs ver esz flat own)) :
  VStep C o ⟨env, objs⟩ (.ptr ob ver i) objs := by
 refine VStep.of_pure (st := ⟨env, objs⟩) fun H a w hi => ?_
 have hr := ev_rel hi hx
 obtain ⟨h1, h2, h3⟩ := hr
 have h4 := h3 (hi.objs.rel ob _ hob).1
 refine ⟨_, ?_, h1, h2, h3⟩
 rw [h4]
 simp [execOp, hop, h4]
theorem splice_self {α : Type} (ds : List α) : splice ds 0 ds = ds := by simp [splice]
/-- a call that is handed an object, which it leaves as it is -/
theorem srp {C : Ctx} {ops : Array Oper} {o : Oper} {rest : List Oper} {env : List (Nat × AV)} {objs : List AObj} {Q : Exit → St → Prop} {x : Operand} {xs : Array Operand} {ts : Array TypeId} {f : FuncId} {fs cs avs avs' args args' : List AV} {r : AV} {d ob ver esz' : Nat}
  {ds0 ds1 : List AV} {flat : Bool} {own : Option TypeId}
  (hs : Spec C.P f args' [.cells ds0 0 1 flat none] (fun r' os => r' = r ∧ os = [.cells ds0 0 1 flat none]))
  (hop : o.op = .call { callee := .value x, args := xs, argTypes := ts }) (hx : ev ⟨env, objs⟩ x = some (.func (.func f) fs cs)) (hxs : evL ⟨env, objs⟩ xs.toList = some avs) (ha : fs ++ avs ++ cs = avs')
  (hob : objs[ob]? = some (.cells ds0 ver esz' flat own)) (hp : PassL objs 0 avs' args [] [(ob, 0)] [.cells ds1 0 1 flat none]) (he : args = args') (he1 : ds1 = ds0) (hr : r.plain = true) (hr' : r.noRow = true) (hR : noRowL ds0 = true) (hpl : plainL ds0 = true)
  (hg : gd ops ⟨env, objs⟩ o = some true) (hd : o.dst = some d) (hlt : Nat.blt d C.nt = true)
  (h : WL C ops rest ⟨(d, r) :: env, objs⟩ Q) : WL C ops (o :: rest) ⟨env, objs⟩ Q := by
 subst ha; subst he; subst he1
 refine WL.call false hs hop hx hxs hp (by simp) (by simp) (by simp) hg (fun t ht => by rw [hd] at ht; injection ht with ht; subst ht; exact Nat.le_of_ble_eq_true hlt) ?_
 rintro r' O' ⟨rfl, rfl⟩
 refine ⟨fun i _ _ _ _ _ hi => ?_, AV.ge_plain _ _ hr, fun i ob' hi hi' => ?_, .inr ⟨hr', by simpa [AObj.noRow] using hR⟩, ?_⟩
 ·cases i with
  | zero => simp at hi; obtain ⟨rfl, rfl, rfl, rfl, rfl⟩ := hi; exact ⟨ds1, 0, _, none, rfl, fun h => hpl⟩
  | succ i => simp at hi
 ·have : i = 0 ∨ 1 ≤ i := by omega
  rcases this with rfl | h
  ·simp at hi
  ·rw [List.getElem?_eq_none (by simpa using h)] at hi'; cases hi'
 ·have hset : objs.set ob (.cells ds1 ver esz' flat own) = objs := by
   apply List.ext_getElem?
   intro j
   by_cases e : ob = j
   ·subst e
    rw [List.getElem?_set_self (List.getElem?_eq_some_iff.1 hob).1, hob]
   ·rw [List.getElem?_set_ne e]
  simp only [wb, Bool.false_eq_true, if_false, AV.up_plain _ _ _ hr, hd, St.put, List.length_cons, List.length_nil, List.drop_succ_cons, List.drop_nil, List.map_nil, List.append_nil, List.getD, hob, Option.getD_some, mergeO, splice_self, hset]
  exact h
/-- the end of a function that hands back plain values, and leaves what it was handed -/
theorem finR {T : Tab} {rs : List ResultVar} {st : St} {cs cs' : List AV} {r : AV} {objs : List AObj} (h : resAV T st rs = some cs) (hp : PackL st.objs objs.length [] 0 cs cs' []) (ho : st.objs.take objs.length = objs)
  (hpl : ∀ ob, ob ∈ objs → match ob with | .cells ds _ _ false _ => plainL ds = true | _ => True) (hr : tupAV cs' = r) : Fin T rs objs.length (fun r' os => r' = r ∧ os = objs) .ret st :=
 ⟨.inl rfl, cs, cs', [], h, hp, List.nodup_nil, fun ob hob => hpl ob (by rwa [ho] at hob), hr, by simp [ho]⟩
theorem resAV_cell {T : Tab} {st : St} {a : Nat} {t : TypeId} {r : List ResultVar} {cs ds : List AV} {o ver i esz : Nat} {flat : Bool} {own : Option TypeId} {y : Ty} {c : AV} (h1 : look st.env a = some (.ptr o ver i)) (h2 : st.objs[o]? = some (.cells ds ver esz flat own))
  (h3 : T.at t = some y) (h4 : loadc y ds i = some c) (h5 : resAV T st r = some cs) : resAV T st (.cell a t :: r) = some (c :: cs) := by
 simp [resAV, h1, h2, h3, h4, h5]
/-- a place at which all ways meet again -/
theorem W.cut {C : Ctx} {c : Code} {st : St} {Q : Exit → St → Prop} (env1 : List (Nat × AV)) (objs1 : List AObj) (h : W C c st (fun e s => e = .normal ∧ Fits C.k env1 objs1 s)) (h2 : Q .normal ⟨env1, objs1⟩) (hsv : C.sv = [] := by rfl) : W C c st Q := by
 intro a w hr
 refine wp_mono (h a w hr) fun e a' w' hp => ?_
 obtain ⟨s, ⟨he, hf⟩, hr'⟩ := hp
 subst he
 exact ⟨_, h2, hr'.weak hf.1 hf.2.1 hf.2.2.1 hf.2.2.2 hsv⟩
/-! ### short forms -/
set_option linter.unusedVariables false
variable {C : Ctx} {ops : Array Oper} {o : Oper} {rest : List Oper} {env : List (Nat × AV)} {objs : List AObj} {Q : Exit → St → Prop} {av : AV} {d : Nat}
theorem z_p (h : WL C ops rest ⟨(d, av) :: env, objs⟩ Q) (hv : pureAV ⟨env, objs⟩ o = some av := by exact rfl) (hg : gd ops ⟨env, objs⟩ o = some true := by exact rfl) (hd : o.dst = some d := by exact rfl) (hlt : Nat.blt d C.nt = true := by exact rfl) : WL C ops (o :: rest) ⟨env, objs⟩ Q := sp (v_pure hv) hg hd hlt h
theorem z_l {t : TypeId} {x : Operand} {ob ver i esz : Nat} {cs : List AV} {flat : Bool} {own : Option TypeId} {y : Ty} (h : WL C ops rest ⟨(d, av) :: env, objs⟩ Q) (hop : o.op = .load t x := by exact rfl) (hx : ev ⟨env, objs⟩ x = some (.ptr ob ver i) := by exact rfl) (hob : objs[ob]? = some (.cells cs ver esz flat own) := by exact rfl) (hy : C.T.at t = some y := by exact rfl) (hl : loadc y cs i = some av := by exact rfl) (hg : gd ops ⟨env, objs⟩ o = some true := by exact rfl) (hd : o.dst = some d := by exact rfl) (hlt : Nat.blt d C.nt = true := by exact rfl) : WL C ops (o :: rest) ⟨env, objs⟩ Q := sp (v_load hop hx hob hy hl) hg hd hlt h
theorem z_r {t : TypeId} {x : Operand} {cs : List AV} {y : Ty} (h : WL C ops rest ⟨(d, av) :: env, objs⟩ Q) (hop : o.op = .load t x := by exact rfl) (hx : ev ⟨env, objs⟩ x = some (.radr cs) := by exact rfl) (hy : C.T.at t = some y := by exact rfl) (hl : loadc y cs 0 = some av := by exact rfl) (hg : gd ops ⟨env, objs⟩ o = some true := by exact rfl) (hd : o.dst = some d := by exact rfl) (hlt : Nat.blt d C.nt = true := by exact rfl) : WL C ops (o :: rest) ⟨env, objs⟩ Q := sp (v_load_radr hop hx hy hl) hg hd hlt h
theorem z_l1 {t : TypeId} {x : Operand} {ob ver i esz : Nat} {cs : List AV} {flat : Bool} {own : Option TypeId} {y : Ty} {a0 : AV} (h : WL C ops rest ⟨(d, (.agg [a0])) :: env, objs⟩ Q) (hop : o.op = .load t x := by exact rfl) (hx : ev ⟨env, objs⟩ x = some (.ptr ob ver i) := by exact rfl) (hob : objs[ob]? = some (.cells cs ver esz flat own) := by exact rfl) (hy : C.T.at t = some y := by exact rfl) (hl : loadc y cs i = some (.agg [a0]) := by exact rfl) (hg : gd ops ⟨env, objs⟩ o = some true := by exact rfl) (hd : o.dst = some d := by exact rfl) (hlt : Nat.blt d C.nt = true := by exact rfl) : WL C ops (o :: rest) ⟨env, objs⟩ Q := sp (v_load hop hx hob hy hl) hg hd hlt h
theorem z_r1 {t : TypeId} {x : Operand} {cs : List AV} {y : Ty} {a0 : AV} (h : WL C ops rest ⟨(d, (.agg [a0])) :: env, objs⟩ Q) (hop : o.op = .load t x := by exact rfl) (hx : ev ⟨env, objs⟩ x = some (.radr cs) := by exact rfl) (hy : C.T.at t = some y := by exact rfl) (hl : loadc y cs 0 = some (.agg [a0]) := by exact rfl) (hg : gd ops ⟨env, objs⟩ o = some true := by exact rfl) (hd : o.dst = some d := by exact rfl) (hlt : Nat.blt d C.nt = true := by exact rfl) : WL C ops (o :: rest) ⟨env, objs⟩ Q := sp (v_load_radr hop hx hy hl) hg hd hlt h
theorem z_l2 {t : TypeId} {x : Operand} {ob ver i esz : Nat} {cs : List AV} {flat : Bool} {own : Option TypeId} {y : Ty} {a0 a1 : AV} (h : WL C ops rest ⟨(d, (.agg [a0, a1])) :: env, objs⟩ Q) (hop : o.op = .load t x := by exact rfl) (hx : ev ⟨env, objs⟩ x = some (.ptr ob ver i) := by exact rfl) (hob : objs[ob]? = some (.cells cs ver esz flat own) := by exact rfl) (hy : C.T.at t = some y := by exact rfl) (hl : loadc y cs i = some (.agg [a0, a1]) := by exact rfl) (hg : gd ops ⟨env, objs⟩ o = some true := by exact rfl) (hd : o.dst = some d := by exact rfl) (hlt : Nat.blt d C.nt = true := by exact rfl) : WL C ops (o :: rest) ⟨env, objs⟩ Q := sp (v_load hop hx hob hy hl) hg hd hlt h
theorem z_r2 {t : TypeId} {x : Operand} {cs : List AV} {y : Ty} {a0 a1 : AV} (h : WL C ops rest ⟨(d, (.agg [a0, a1])) :: env, objs⟩ Q) (hop : o.op = .load t x := by exact rfl) (hx : ev ⟨env, objs⟩ x = some (.radr cs) := by exact rfl) (hy : C.T.at t = some y := by exact rfl) (hl : loadc y cs 0 = some (.agg [a0, a1]) := by exact rfl) (hg : gd ops ⟨env, objs⟩ o = some true := by exact rfl) (hd : o.dst = some d := by exact rfl) (hlt : Nat.blt d C.nt = true := by exact rfl) : WL C ops (o :: rest) ⟨env, objs⟩ Q := sp (v_load_radr hop hx hy hl) hg hd hlt h
theorem z_l3 {t : TypeId} {x : Operand} {ob ver i esz : Nat} {cs : List AV} {flat : Bool} {own : Option TypeId} {y : Ty} {a0 a1 a2 : AV} (h : WL C ops rest ⟨(d, (.agg [a0, a1, a2])) :: env, objs⟩ Q) (hop : o.op = .load t x := by exact rfl) (hx : ev ⟨env, objs⟩ x = some (.ptr ob ver i) := by exact rfl) (hob : objs[ob]? = some (.cells cs ver esz flat own) := by exact rfl) (hy : C.T.at t = some y := by exact rfl) (hl : loadc y cs i = some (.agg [a0, a1, a2]) := by exact rfl) (hg : gd ops ⟨env, objs⟩ o = some true := by exact rfl) (hd : o.dst = some d := by exact rfl) (hlt : Nat.blt d C.nt = true := by exact rfl) : WL C ops (o :: rest) ⟨env, objs⟩ Q := sp (v_load hop hx hob hy hl) hg hd hlt h
theorem z_r3 {t : TypeId} {x : Operand} {cs : List AV} {y : Ty} {a0 a1 a2 : AV} (h : WL C ops rest ⟨(d, (.agg [a0, a1, a2])) :: env, objs⟩ Q) (hop : o.op = .load t x := by exact rfl) (hx : ev ⟨env, objs⟩ x = some (.radr cs) := by exact rfl) (hy : C.T.at t = some y := by exact rfl) (hl : loadc y cs 0 = some (.agg [a0, a1, a2]) := by exact rfl) (hg : gd ops ⟨env, objs⟩ o = some true := by exact rfl) (hd : o.dst = some d := by exact rfl) (hlt : Nat.blt d C.nt = true := by exact rfl) : WL C ops (o :: rest) ⟨env, objs⟩ Q := sp (v_load_radr hop hx hy hl) hg hd hlt h
theorem z_f {s : TypeId} {x : Operand} {f off ft ob ver i esz : Nat} {y yf : Ty} {fs : List (Nat × TypeId)} {cs : List AV} {flat : Bool} {own : Option TypeId} (h : WL C ops rest ⟨(d, .ptr ob ver (i + off)) :: env, objs⟩ Q) (hop : o.op = .fieldAddr s x f := by exact rfl) (hx : ev ⟨env, objs⟩ x = some (.ptr ob ver i) := by exact rfl) (hob : objs[ob]? = some (.cells cs ver esz flat own) := by exact rfl) (hy : C.T.at s = some y := by exact rfl) (hk : y.k = .struct fs := by exact rfl) (hf : fs[f]? = some (off, ft) := by exact rfl) (hyf : C.T.at ft = some yf := by exact rfl) (hsz : yf.size ≠ 0 := by decide) (hg : gd ops ⟨env, objs⟩ o = some true := by exact rfl) (hd : o.dst = some d := by exact rfl) (hlt : Nat.blt d C.nt = true := by exact rfl) : WL C ops (o :: rest) ⟨env, objs⟩ Q := sp (v_fieldAddr hop hx hob hy hk hf hyf hsz) hg hd hlt h
theorem z_g {s : TypeId} {x : Operand} {f off ft : Nat} {y yf : Ty} {fs : List (Nat × TypeId)} {cs : List AV} (h : WL C ops rest ⟨(d, .radr (cs.drop off)) :: env, objs⟩ Q) (hop : o.op = .fieldAddr s x f := by exact rfl) (hx : ev ⟨env, objs⟩ x = some (.radr cs) := by exact rfl) (hy : C.T.at s = some y := by exact rfl) (hk : y.k = .struct fs := by exact rfl) (hf : fs[f]? = some (off, ft) := by exact rfl) (hyf : C.T.at ft = some yf := by exact rfl) (hsz : yf.size ≠ 0 := by decide) (hg : gd ops ⟨env, objs⟩ o = some true := by exact rfl) (hd : o.dst = some d := by exact rfl) (hlt : Nat.blt d C.nt = true := by exact rfl) : WL C ops (o :: rest) ⟨env, objs⟩ Q := sp (v_fieldAddr_radr hop hx hy hk hf hyf hsz) hg hd hlt h
theorem z_n {x : Operand} {t : TypeId} {y : Ty} {e : TypeId} {ob ver off n esz : Nat} {full flat : Bool} {cs : List AV} {own : Option TypeId} (h : WL C ops rest ⟨(d, .int .i64 n) :: env, objs⟩ Q) (hop : o.op = .call { callee := .builtin .len, args := #[x], argTypes := #[t] } := by exact rfl) (hx : ev ⟨env, objs⟩ x = some (.sl ob ver off n full) := by exact rfl) (hy : C.T.at t = some y := by exact rfl) (hk : y.k = .slice e := by exact rfl) (hob : objs[ob]? = some (.cells cs ver esz flat own) := by exact rfl) (hg : gd ops ⟨env, objs⟩ o = some true := by exact rfl) (hd : o.dst = some d := by exact rfl) (hlt : Nat.blt d C.nt = true := by exact rfl) : WL C ops (o :: rest) ⟨env, objs⟩ Q := sp (v_len hop hx hy rfl ⟨_, hk⟩ ⟨_, _, _, _, hob⟩) hg hd hlt h
theorem z_m {x : Operand} {t : TypeId} {y : Ty} {e : TypeId} {n : Nat} {cs : List AV} (h : WL C ops rest ⟨(d, .int .i64 n) :: env, objs⟩ Q) (hop : o.op = .call { callee := .builtin .len, args := #[x], argTypes := #[t] } := by exact rfl) (hx : ev ⟨env, objs⟩ x = some (.row cs n) := by exact rfl) (hy : C.T.at t = some y := by exact rfl) (hk : y.k = .slice e := by exact rfl) (hg : gd ops ⟨env, objs⟩ o = some true := by exact rfl) (hd : o.dst = some d := by exact rfl) (hlt : Nat.blt d C.nt = true := by exact rfl) : WL C ops (o :: rest) ⟨env, objs⟩ Q := sp (v_len hop hx hy rfl ⟨_, hk⟩ trivial) hg hd hlt h
theorem z_k {x : Operand} {t : TypeId} {y : Ty} {e : TypeId} (h : WL C ops rest ⟨(d, .int .i64 0) :: env, objs⟩ Q) (hop : o.op = .call { callee := .builtin .len, args := #[x], argTypes := #[t] } := by exact rfl) (hx : ev ⟨env, objs⟩ x = some .nils := by exact rfl) (hy : C.T.at t = some y := by exact rfl) (hk : y.k = .slice e := by exact rfl) (hg : gd ops ⟨env, objs⟩ o = some true := by exact rfl) (hd : o.dst = some d := by exact rfl) (hlt : Nat.blt d C.nt = true := by exact rfl) : WL C ops (o :: rest) ⟨env, objs⟩ Q := sp (v_len hop hx hy rfl ⟨_, hk⟩ trivial) hg hd hlt h
theorem z_B {t : TypeId} {x : Operand} {ds : List AV} (m : Nat) (objs'' : List AObj) (h : WL C ops rest ⟨(d, .ptr m 0 0) :: env, objs''⟩ Q) (hop : o.op = .box t x := by exact rfl) (hx : ev ⟨env, objs⟩ x = some (.agg ds) := by exact rfl) (hm : objs.length = m := by exact rfl) (he : objs ++ [.cells ds 0 1 false none] = objs'' := by exact rfl) (hg : gd ops ⟨env, objs⟩ o = some true := by exact rfl) (hd : o.dst = some d := by exact rfl) (hlt : Nat.blt d C.nt = true := by exact rfl) : WL C ops (o :: rest) ⟨env, objs⟩ Q := sn (a_box hop hx (.inl rfl)) (by rw [hm]) he hg hd hlt h
theorem z_a {t : TypeId} {y : Ty} {z : List Value} {ds : List AV} (m : Nat) (objs'' : List AObj) (h : WL C ops rest ⟨(d, .ptr m 0 0) :: env, objs''⟩ Q) (hop : o.op = .alloc t := by exact rfl) (hy : C.T.at t = some y := by exact rfl) (hz : y.zero = some z := by exact rfl) (hds : ofVals z = some ds := by exact rfl) (hm : objs.length = m := by exact rfl) (he : objs ++ [.cells ds 0 1 false none] = objs'' := by exact rfl) (hg : gd ops ⟨env, objs⟩ o = some true := by exact rfl) (hd : o.dst = some d := by exact rfl) (hlt : Nat.blt d C.nt = true := by exact rfl) : WL C ops (o :: rest) ⟨env, objs⟩ Q := sn (a_alloc hop hy hz hds) (by rw [hm]) he hg hd hlt h
theorem z_s {t : TypeId} {x v : Operand} {ob ver i esz : Nat} {cs ds : List AV} {own : Option TypeId} {y : Ty} (objs'' : List AObj) (h : WL C ops rest ⟨env, objs''⟩ Q) (hop : o.op = .store t x v := by exact rfl) (hx : ev ⟨env, objs⟩ x = some (.ptr ob ver i) := by exact rfl) (hob : objs[ob]? = some (.cells cs ver esz false own) := by exact rfl) (hv : ev ⟨env, objs⟩ v = some (.agg ds) := by exact rfl) (hone : ds.all AV.oneB = true := by exact rfl) (hy : C.T.at t = some y := by exact rfl) (hsz : y.size = ds.length := by exact rfl) (hpos : Nat.blt 0 ds.length = true := by exact rfl) (hle : i + ds.length ≤ cs.length := by exact Nat.le_of_ble_eq_true rfl) (he : objs.set ob (.cells (splice cs i ds) ver esz false own) = objs'' := by exact rfl) (hg : gd ops ⟨env, objs⟩ o = some true := by exact rfl) (hd : o.dst = none := by exact rfl) : WL C ops (o :: rest) ⟨env, objs⟩ Q := ss (a_storeA hop hx hob hv hone (fun h => by cases h) hy hsz hpos hle) he hg hd h
theorem z_o (h : WL C ops rest ⟨(d, .tup []) :: env, objs⟩ Q) (hg : gd ops ⟨env, objs⟩ o = some false := by exact rfl) (hd : o.dst = some d := by exact rfl) (hlt : Nat.blt d C.nt = true := by exact rfl) : WL C ops (o :: rest) ⟨env, objs⟩ Q := so hg hd hlt h
theorem z_c {x : Operand} {xs : Array Operand} {ts : Array TypeId} {f : FuncId} {fs cs avs avs' : List AV} {r : AV} (hs : Does C.P f avs' r) (h : WL C ops rest ⟨(d, r) :: env, objs⟩ Q) (hop : o.op = .call { callee := .value x, args := xs, argTypes := ts } := by exact rfl) (hx : ev ⟨env, objs⟩ x = some (.func (.func f) fs cs) := by exact rfl) (hxs : evL ⟨env, objs⟩ xs.toList = some avs := by exact rfl) (ha : fs ++ avs ++ cs = avs' := by exact rfl) (hp : plainL avs' = true := by first | exact rfl | simp [plainL, AV.plain]) (hr : r.plain = true := by first | exact rfl | simp [plainL, AV.plain]) (hg : gd ops ⟨env, objs⟩ o = some true := by exact rfl) (hd : o.dst = some d := by exact rfl) (hlt : Nat.blt d C.nt = true := by exact rfl) : WL C ops (o :: rest) ⟨env, objs⟩ Q := sc hs hop hx hxs ha hp hr hg hd hlt h
theorem z_T {op : BinOp} {x y : Operand} {t t' : TypeId} {a b : AV} {p : Prop} [Decidable p] (hp : p) (h : WL C ops rest ⟨(d, .bool true) :: env, objs⟩ Q) (hop : o.op = .binOp op t x y t' := by exact rfl) (hx : ev ⟨env, objs⟩ x = some a := by exact rfl) (hy : ev ⟨env, objs⟩ y = some b := by exact rfl) (hr : binAV op a b = some (.bool (decide p)) := by exact rfl) (hg : gd ops ⟨env, objs⟩ o = some true := by exact rfl) (hd : o.dst = some d := by exact rfl) (hlt : Nat.blt d C.nt = true := by exact rfl) : WL C ops (o :: rest) ⟨env, objs⟩ Q := sp (v_is true hop hx hy hr (decide_eq_true hp)) hg hd hlt h
theorem z_F {op : BinOp} {x y : Operand} {t t' : TypeId} {a b : AV} {p : Prop} [Decidable p] (hp : ¬ p) (h : WL C ops rest ⟨(d, .bool false) :: env, objs⟩ Q) (hop : o.op = .binOp op t x y t' := by exact rfl) (hx : ev ⟨env, objs⟩ x = some a := by exact rfl) (hy : ev ⟨env, objs⟩ y = some b := by exact rfl) (hr : binAV op a b = some (.bool (decide p)) := by exact rfl) (hg : gd ops ⟨env, objs⟩ o = some true := by exact rfl) (hd : o.dst = some d := by exact rfl) (hlt : Nat.blt d C.nt = true := by exact rfl) : WL C ops (o :: rest) ⟨env, objs⟩ Q := sp (v_is false hop hx hy hr (decide_eq_false hp)) hg hd hlt h
theorem z_i {op : BinOp} {x y : Operand} {t t' : TypeId} {k' : IntKind} {a b r : Int} (h : WL C ops rest ⟨(d, .int .i64 r) :: env, objs⟩ Q) (hop : o.op = .binOp op t x y t' := by exact rfl) (hx : ev ⟨env, objs⟩ x = some (.int .i64 a) := by exact rfl) (hy : ev ⟨env, objs⟩ y = some (.int k' b) := by exact rfl) (hr : binAV op (.int .i64 a) (.int k' b) = some (.int .i64 (IntKind.i64.wrap r)) := by exact rfl) (h0 : -9223372036854775808 ≤ r := by omega) (h1 : r ≤ 9223372036854775807 := by omega) (hg : gd ops ⟨env, objs⟩ o = some true := by exact rfl) (hd : o.dst = some d := by exact rfl) (hlt : Nat.blt d C.nt = true := by exact rfl) : WL C ops (o :: rest) ⟨env, objs⟩ Q := sp (v_i64 hop hx hy hr h0 h1) hg hd hlt h
theorem z_e {st : St} (h : Q .normal st := by exact ⟨rfl, rfl⟩) : WL C ops [] st Q := WL.nil h
end Go.Lens

set_option linter.unusedVariables false
set_option linter.unusedSimpArgs false
namespace Go.Lens
/-- without the noughts at the end -/
def trim (l : List Nat) : List Nat := (l.reverse.dropWhile (· == 0)).reverse
theorem trim_snoc0 (l : List Nat) : trim (l ++ [0]) = trim l := by simp [trim]
theorem trim_snoc (l : List Nat) (x : Nat) (h0 : x ≠ 0) : trim (l ++ [x]) = l ++ [x] := by simp [trim, h0]
theorem trim_take (l : List Nat) (n : Nat) (hn : n < l.length) (h0 : l[n] = 0) : trim (l.take (n + 1)) = trim (l.take n) := by
 rw [List.take_succ_eq_append_getElem hn, h0, trim_snoc0]
theorem trim_self (l : List Nat) (n : Nat) (hn : n < l.length) (h0 : l[n] ≠ 0) : trim (l.take (n + 1)) = l.take (n + 1) := by
 rw [List.take_succ_eq_append_getElem hn]
 exact trim_snoc _ _ h0
def val (B : Nat) : List Nat → Nat
  | [] => 0
  | x :: l => x + B * val B l
theorem val_append (B : Nat) (l m : List Nat) : val B (l ++ m) = val B l + B ^ l.length * val B m := by
 induction l with
 | nil => simp [val]
 | cons x l ih => simp only [List.cons_append, val, ih, List.length_cons, Nat.pow_succ, Nat.mul_add, Nat.add_assoc]; congr 2; rw [← Nat.mul_assoc, Nat.mul_comm B]
theorem val_snoc (B : Nat) (l : List Nat) (x : Nat) : val B (l ++ [x]) = val B l + B ^ l.length * x := by simp [val_append, val]
def Small (B : Nat) (l : List Nat) : Prop := ∀ x ∈ l, x < B
def Canon (B : Nat) (l : List Nat) : Prop := Small B l ∧ l.getLast? ≠ some 0
theorem list_snoc_ind {α : Type} {P : List α → Prop} (h0 : P []) (h1 : ∀ l x, P l → P (l ++ [x])) (l : List α) : P l := by
 have : ∀ m : List α, P m.reverse := by
  intro m
  induction m with
  | nil => exact h0
  | cons x m ih => rw [List.reverse_cons]; exact h1 _ _ ih
 have := this l.reverse
 rwa [List.reverse_reverse] at this
theorem trim_val (B : Nat) (l : List Nat) : val B (trim l) = val B l := by
 refine list_snoc_ind (P := fun l => val B (trim l) = val B l) rfl (fun l x ih => ?_) l
 by_cases h : x = 0
 ·subst h; rw [trim_snoc0, ih, val_snoc]; simp
 ·rw [trim_snoc l x h]
theorem trim_canon {B : Nat} {l : List Nat} (h : Small B l) : Canon B (trim l) := by
 revert h
 refine list_snoc_ind (P := fun l => Small B l → Canon B (trim l)) (fun _ => ⟨fun x hx => by simp [trim] at hx, by simp [trim]⟩) (fun l x ih h => ?_) l
 by_cases h0 : x = 0
 ·subst h0; rw [trim_snoc0]; exact ih fun y hy => h y (by simp [hy])
 ·rw [trim_snoc l x h0]; exact ⟨h, by simp [h0]⟩
theorem trim_length (l : List Nat) : (trim l).length ≤ l.length := by
 refine list_snoc_ind (P := fun l => (trim l).length ≤ l.length) (by simp [trim]) (fun l x ih => ?_) l
 by_cases h : x = 0
 ·subst h; rw [trim_snoc0]; simp; omega
 ·rw [trim_snoc l x h]; exact Nat.le_refl _
theorem canon_tail {B x : Nat} {l : List Nat} (h : Canon B (x :: l)) : Canon B l := by
 refine ⟨fun y hy => h.1 y (by simp [hy]), fun he => h.2 ?_⟩
 cases l with
 | nil => simp at he
 | cons y l => simpa [List.getLast?_cons] using he
theorem val_pos {B : Nat} (hB : 0 < B) : ∀ {l : List Nat}, Canon B l → l ≠ [] → 0 < val B l
 | [], _, h => absurd rfl h
 | [x], h, _ => by
  have : x ≠ 0 := fun e => h.2 (by simp [e])
  simp [val]; omega
 | x :: y :: l, h, _ => by
  have := val_pos hB (canon_tail h) (by simp)
  have := Nat.mul_pos hB this
  simp only [val] at *; omega
theorem canon_unique {B : Nat} (hB : 0 < B) : ∀ {l m : List Nat}, Canon B l → Canon B m → val B l = val B m → l = m
 | [], [], _, _, _ => rfl
 | [], y :: m, _, hm, h => by have := val_pos hB hm (by simp); rw [← h] at this; simp [val] at this
 | x :: l, [], hl, _, h => by have := val_pos hB hl (by simp); rw [h] at this; simp [val] at this
 | x :: l, y :: m, hl, hm, h => by
  have h1 := hl.1 x (by simp)
  have h2 := hm.1 y (by simp)
  simp only [val] at h
  have e1 : x = y := by
   have := congrArg (· % B) h
   simpa [Nat.add_mul_mod_self_left, Nat.mod_eq_of_lt h1, Nat.mod_eq_of_lt h2] using this
  subst e1
  have e2 : val B l = val B m := Nat.eq_of_mul_eq_mul_left hB (by omega)
  rw [canon_unique hB (canon_tail hl) (canon_tail hm) e2]
/-- the digits of a number, the least first -/
def digs (B : Nat) (n : Nat) : List Nat :=
  if h : n = 0 ∨ B < 2 then [] else (n % B) :: digs B (n / B)
termination_by n
decreasing_by exact Nat.div_lt_self (by omega) (by omega)
theorem digs_zero (B : Nat) : digs B 0 = [] := by rw [digs]; simp
theorem digs_pos {B n : Nat} (hB : 2 ≤ B) (hn : n ≠ 0) : digs B n = (n % B) :: digs B (n / B) := by rw [digs, dif_neg (by omega)]
theorem digs_spec {B : Nat} (hB : 2 ≤ B) (n : Nat) : val B (digs B n) = n ∧ Canon B (digs B n) := by
 induction n using Nat.strongRecOn with
 | _ n ih =>
  by_cases h : n = 0
  ·subst h; rw [digs_zero]; exact ⟨rfl, (fun x hx => by cases hx), by simp⟩
  ·obtain ⟨h1, h2⟩ := ih (n / B) (Nat.div_lt_self (by omega) (by omega))
   rw [digs_pos hB h]
   refine ⟨by simp only [val, h1]; exact Nat.mod_add_div n B, fun x hx => ?_, fun he => ?_⟩
   ·rcases List.mem_cons.1 hx with rfl | hx
    ·exact Nat.mod_lt _ (by omega)
    ·exact h2.1 x hx
   ·cases hd : digs B (n / B) with
    | nil =>
     rw [hd] at he h1
     simp at he
     simp [val] at h1
     have := Nat.mod_add_div n B
     rw [← h1, he] at this
     omega
    | cons y l =>
     rw [hd] at he h2
     refine h2.2 ?_
     simpa [List.getLast?_cons] using he
theorem digs_val {B : Nat} (hB : 2 ≤ B) (n : Nat) : val B (digs B n) = n := (digs_spec hB n).1
theorem digs_canon {B : Nat} (hB : 2 ≤ B) (n : Nat) : Canon B (digs B n) := (digs_spec hB n).2
theorem digs_of_canon {B : Nat} (hB : 2 ≤ B) {l : List Nat} (h : Canon B l) : digs B (val B l) = l := canon_unique (by omega) (digs_canon hB _) h (digs_val hB _)
theorem trim_digs {B : Nat} (hB : 2 ≤ B) {l : List Nat} (h : Small B l) : trim l = digs B (val B l) := by
 rw [← trim_val B l, digs_of_canon hB (trim_canon h)]
theorem digs_eq_nil {B : Nat} (hB : 2 ≤ B) (n : Nat) : digs B n = [] ↔ n = 0 := by
 refine ⟨fun h => ?_, fun h => by rw [h, digs_zero]⟩
 have := digs_val hB n
 rw [h] at this; simpa [val] using this.symm
theorem digs_length {B : Nat} (hB : 2 ≤ B) {n k : Nat} (h : n < B ^ k) : (digs B n).length ≤ k := by
  induction k generalizing n with
  | zero => have : n = 0 := by simpa using h
            subst this; rw [digs_zero]; simp
  | succ k ih =>
    by_cases h0 : n = 0
    · subst h0; rw [digs_zero]; simp
    · rw [digs_pos hB h0]
      have := ih (n := n / B) (Nat.div_lt_of_lt_mul (by rw [Nat.pow_succ, Nat.mul_comm] at h; exact h))
      simp; omega
theorem val_lt {B : Nat} : ∀ {l : List Nat}, Small B l → val B l < B ^ l.length
 | [], _ => by simp [val]
 | x :: l, h => by
  have h1 := h x (by simp)
  have h2 := val_lt (l := l) fun y hy => h y (by simp [hy])
  simp only [val, List.length_cons, Nat.pow_succ]
  calc x + B * val B l < B + B * val B l := by omega
   _ = B * (val B l + 1) := by rw [Nat.mul_add, Nat.mul_one, Nat.add_comm]
   _ ≤ B * B ^ l.length := Nat.mul_le_mul_left _ h2
   _ = B ^ l.length * B := Nat.mul_comm _ _
/-- the first digits' number -/
def pv (B : Nat) (l : List Nat) (i : Nat) : Nat := val B (l.take i)
theorem pv_succ (B : Nat) (l : List Nat) (i : Nat) : pv B l (i + 1) = pv B l i + B ^ i * l.getD i 0 := by
 unfold pv
 by_cases h : i < l.length
 ·rw [List.take_succ_eq_append_getElem h, val_snoc]
  simp [List.getD, h, Nat.min_eq_left (Nat.le_of_lt h)]
 ·rw [List.take_of_length_le (by omega), List.take_of_length_le (by omega)]
  simp [List.getD, List.getElem?_eq_none (show l.length ≤ i by omega)]
theorem pv_all (B : Nat) {l : List Nat} {i : Nat} (h : l.length ≤ i) : pv B l i = val B l := by unfold pv; rw [List.take_of_length_le h]
theorem pv_zero (B : Nat) (l : List Nat) : pv B l 0 = 0 := by simp [pv, val]
end Go.Lens
