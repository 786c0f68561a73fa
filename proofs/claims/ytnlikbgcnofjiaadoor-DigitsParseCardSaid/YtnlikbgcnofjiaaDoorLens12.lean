/- Lens, part 12: regions that draw their order. -/
import Derived.Test.YtnlikbgcnofjiaaDoorLens11
set_option linter.unusedVariables false
set_option linter.unusedSimpArgs false
namespace Go.Lens
open Go Go.RowKit

/-- the operations that an operation waits for -/
def depsOf (o : Oper) : List Nat := (o.after.toList.filter fun e => Region.binds .any e).map (·.on)
def depEnv (ds : List Nat) (E : List AV) : List Nat → List (Nat × AV)
  | [] => []
  | j :: l => match ds[j]?, E[j]? with | some d, some c => (d, c) :: depEnv ds E l | _, _ => depEnv ds E l
def clean (ds : List Nat) : List (Nat × AV) → List (Nat × AV)
  | [] => []
  | p :: l => if ds.contains p.1 then clean ds l else p :: clean ds l

/-- does an operation come behind another one, at one or more removes? -/
def behind (ops : Array Oper) : Nat → Nat → Nat → Bool
  | 0, _, _ => false
  | f + 1, i, j => match ops[i]? with
    | none => false
    | some o => (depsOf o).contains j || (depsOf o).any fun k => behind ops f k j

/-- the first ones yield the temporaries `ds`, each its own; each of the rest waits for all ahead of it -/
def drawOK (ops : Array Oper) (ds : List Nat) : Bool :=
  decide ds.Nodup && decide (ds.length ≤ ops.size) && (List.range ds.length).all (fun i => (ops[i]?).any fun o => o.dst == ds[i]?) &&
  ((List.range' ds.length (ops.size - ds.length)).all fun i => (List.range i).all fun j => behind ops 24 i j) &&
  (List.range ops.size).all fun i => (ops[i]?).any fun o => (depsOf o).all fun j => decide (j < i)

theorem drawOK_back {ops : Array Oper} {ds : List Nat} (h : drawOK ops ds = true) {i : Nat} {o : Oper} (hi : ops[i]? = some o) {e : Edge} (he : e ∈ o.after.toList) (hb : Region.binds .any e = true) : e.on < i := by
  simp only [drawOK, Bool.and_eq_true] at h
  have h1 := h.2
  rw [List.all_eq_true] at h1
  have h2 := h1 i (by rw [List.mem_range]; exact (Array.getElem?_eq_some_iff.1 hi).1)
  rw [hi] at h2
  simp only [Option.any_some, List.all_eq_true, decide_eq_true_eq] at h2
  exact h2 e.on (by simp only [depsOf, List.mem_map, List.mem_filter]; exact ⟨e, ⟨he, hb⟩, rfl⟩)
theorem drawOK_tail {ops : Array Oper} {ds : List Nat} (h : drawOK ops ds = true) {i : Nat} (hi : i < ops.size) (hge : ds.length ≤ i) {j : Nat} (hj : j < i) : behind ops 24 i j = true := by
  simp only [drawOK, Bool.and_eq_true] at h
  have h1 := h.1.2
  rw [List.all_eq_true] at h1
  have h2 := h1 i (by rw [List.mem_range'_1]; omega)
  simp only [List.all_eq_true] at h2
  exact h2 j (by rw [List.mem_range]; exact hj)

/-- with each operation all that it waits for is listed -/
def Closed (ops : Array Oper) (listed : Array Bool) : Prop := ∀ (i : Nat) (o : Oper), ops[i]? = some o → listed.getD i false = true → ∀ j ∈ depsOf o, listed.getD j false = true
theorem Closed.behind {ops : Array Oper} {listed : Array Bool} (hc : Closed ops listed) {j : Nat} : ∀ (f i : Nat) (o : Oper), ops[i]? = some o → (∀ k ∈ depsOf o, listed.getD k false = true) → Lens.behind ops f i j = true → listed.getD j false = true
  | 0, _, _, _, _, h => by cases h
  | f + 1, i, o, ho, hd, h => by
    simp only [Lens.behind, ho, Bool.or_eq_true, List.any_eq_true, List.contains_iff_mem] at h
    rcases h with h | ⟨k, hk, h⟩
    · exact hd j h
    · cases f with
      | zero => cases h
      | succ f =>
        cases hk' : ops[k]? with
        | none => simp only [Lens.behind, hk'] at h; cases h
        | some o' => exact Closed.behind hc (f + 1) k o' hk' (hc k o' hk' (hd k hk)) h
theorem Closed.set {ops : Array Oper} {listed : Array Bool} (hc : Closed ops listed) {i : Nat} {o : Oper} (ho : ops[i]? = some o) (hd : ∀ k ∈ depsOf o, listed.getD k false = true) : Closed ops (listed.setIfInBounds i true) := by
  have hmono : ∀ k, listed.getD k false = true → (listed.setIfInBounds i true).getD k false = true := by
    intro k hk
    simp only [Array.getD_eq_getD_getElem?, Array.getElem?_setIfInBounds] at hk ⊢
    split
    · split
      · rfl
      · rename_i h1 h2; subst h1; simp [show ¬ i < listed.size from h2] at hk
    · exact hk
  intro x o' hx hl k hk
  by_cases e : x = i
  · subst e; rw [ho] at hx; injection hx with hx; subst hx
    exact hmono k (hd k hk)
  · refine hmono k (hc x o' hx ?_ k hk)
    simp only [Array.getD_eq_getD_getElem?, Array.getElem?_setIfInBounds] at hl ⊢
    rwa [if_neg (fun h => e h.symm)] at hl
theorem drawOK_dst {ops : Array Oper} {ds : List Nat} (h : drawOK ops ds = true) {i : Nat} {o : Oper} (hi : ops[i]? = some o) (hlt : i < ds.length) : o.dst = some ds[i] := by
  simp only [drawOK, Bool.and_eq_true] at h
  have h1 := h.1.1.2
  rw [List.all_eq_true] at h1
  have h2 := h1 i (by rw [List.mem_range]; exact hlt)
  rw [hi] at h2
  simpa [hlt] using h2
theorem drawOK_nodup {ops : Array Oper} {ds : List Nat} (h : drawOK ops ds = true) : ds.Nodup ∧ ds.length ≤ ops.size := by
  simp only [drawOK, Bool.and_eq_true, decide_eq_true_eq] at h
  exact h.1.1.1

theorem look_append {l r : List (Nat × AV)} {t : Nat} : look (l ++ r) t = (look l t).or (look r t) := by
  induction l with
  | nil => rfl
  | cons p l ih =>
    obtain ⟨k, v⟩ := p
    simp only [List.cons_append, look]
    split
    · rfl
    · exact ih

theorem look_depEnv {ds : List Nat} {E : List AV} {l : List Nat} {t : Nat} {v : AV} (h : look (depEnv ds E l) t = some v) : ∃ j ∈ l, ds[j]? = some t ∧ E[j]? = some v := by
  induction l with
  | nil => cases h
  | cons j l ih =>
    simp only [depEnv] at h
    split at h
    · rename_i d c h1 h2
      simp only [look] at h
      split at h
      · rename_i he
        injection h with h; subst h
        have : d = t := by simpa using he
        subst this
        exact ⟨j, .head _, h1, h2⟩
      · obtain ⟨j', h3, h4⟩ := ih h; exact ⟨j', .tail _ h3, h4⟩
    · obtain ⟨j', h3, h4⟩ := ih h; exact ⟨j', .tail _ h3, h4⟩

theorem look_clean {ds : List Nat} {env : List (Nat × AV)} {t : Nat} {v : AV} (h : look (clean ds env) t = some v) : t ∉ ds ∧ look env t = some v := by
  induction env with
  | nil => cases h
  | cons p l ih =>
    obtain ⟨k, c⟩ := p
    simp only [clean] at h
    split at h
    · rename_i hk
      obtain ⟨h1, h2⟩ := ih h
      refine ⟨h1, ?_⟩
      have : k ≠ t := fun e => h1 (by subst e; simpa using hk)
      simp [look, this, h2]
    · rename_i hk
      simp only [look] at h ⊢
      split at h
      · rename_i he
        have : k = t := by simpa using he
        subst this
        rw [if_pos (by simp)]
        exact ⟨by simpa using hk, h⟩
      · rename_i he
        obtain ⟨h1, h2⟩ := ih h
        rw [if_neg he]
        exact ⟨h1, h2⟩

/-- An operation alone, whatever else the frame holds. -/
def DrawStep (C : Ctx) (ops : Array Oper) (o : Oper) (env : List (Nat × AV)) (objs : List AObj) (c : AV) : Prop :=
  ∀ more, WL C ops [o] ⟨env ++ more, objs⟩ (fun e st' => e = .normal ∧ st' = St.put ⟨env ++ more, objs⟩ o.dst c)

def DrawSteps (C : Ctx) (ops : Array Oper) (ds : List Nat) (E : List AV) (env : List (Nat × AV)) (objs : List AObj) : List Oper → List AV → Prop
  | _, [] => True
  | [], _ :: _ => False
  | o :: os, c :: cs => DrawStep C ops o (depEnv ds E (depsOf o) ++ clean ds env) objs c ∧ DrawSteps C ops ds E env objs os cs

theorem DrawSteps.get {C : Ctx} {ops : Array Oper} {ds : List Nat} {E : List AV} {env : List (Nat × AV)} {objs : List AObj} : ∀ {os : List Oper} {cs : List AV}, DrawSteps C ops ds E env objs os cs →
    ∀ {i : Nat} {c : AV}, cs[i]? = some c → ∃ o, os[i]? = some o ∧ DrawStep C ops o (depEnv ds E (depsOf o) ++ clean ds env) objs c
  | o :: os, c :: cs, ⟨h, _⟩, 0, c', hc => by simp at hc; subst hc; exact ⟨o, rfl, h⟩
  | o :: os, c :: cs, ⟨_, h⟩, i + 1, c', hc => by simpa using DrawSteps.get h (i := i) (by simpa using hc)
  | [], _ :: _, h, _, _, _ => h.elim
  | _, [], _, _, _, hc => by simp at hc

theorem Rel.drew {C : Ctx} {st : St} {a : Act} {w : World} (h : Rel C st a w) : Rel C st a w.drew := by
  obtain ⟨H, h⟩ := h
  have hk := Keeps.drew w H
  refine ⟨H, h.move hk ⟨h.objs.n, fun o ob ho => ?_, h.objs.inj, h.objs.lt⟩ (fun _ _ => Iff.rfl) h.klen (fun _ _ => ⟨rfl, rfl, rfl⟩) h.lens (fun o ho => Outside.of_eq rfl _ _) h.own (fun _ _ _ => rfl) (Nat.le_refl _) rfl rfl rfl⟩
  have := h.objs.rel o ob ho
  cases ob with
  | dead => trivial
  | iter => exact this
  | slot => exact this
  | cells cs ver esz flat own =>
    obtain ⟨g1, g2, vs, c, e, g3, g4, g5, g6⟩ := this
    exact ⟨g1, g2, vs, c, e, g3, g4.keeps cs (hk.flatIf flat), g5, g6⟩

/-- a frame that is known better -/
theorem Rel.env {C : Ctx} {st : St} {a : Act} {w : World} (h : Rel C st a w) {env : List (Nat × AV)} (he : ∀ t v, look env t = some v → look st.env t = some v) : Rel C ⟨env, st.objs⟩ a w := by
  obtain ⟨H, h⟩ := h
  exact ⟨H, h.size, h.defers, fun t av ht => h.env t av (he t av ht), h.objs, h.wr0, h.klen, h.byref, h.lens, h.out, h.own, h.frame, h.le, h.os, h.tape, h.output, h.saved⟩

theorem wpOp_of_WL {C : Ctx} {ops : Array Oper} {o : Oper} {st st' : St} {i : Nat} {a : Act} {w : World} {K : Act → World → Prop} {Q : Exit → Act → World → Prop} (hi : ops[i]? = some o)
    (h : WL C ops [o] st (fun e s => e = .normal ∧ s = st')) (hr : Rel C st a w) (hK : ∀ a w, Rel C st' a w → K a w) : wpOp C.P ops Q i K a w := by
  have h1 := h a w hr
  unfold wpList at h1
  unfold wpOp
  simp only [hi]
  have hno : ¬ LetsOut (Post C (fun e s => e = Exit.normal ∧ s = st')) := fun ⟨_, _, _, ⟨he, _⟩, _⟩ => by cases he
  have hnext : ∀ a w, wpList C.P ops (Post C (fun e s => e = Exit.normal ∧ s = st')) [] a w → K a w := fun a w ⟨s, ⟨_, hs⟩, hr⟩ => hK a w (hs ▸ hr)
  split
  · rename_i hw
    rw [if_pos hw] at h1
    rcases h1 with h1 | ⟨_, h1⟩
    · left
      unfold Oper.wp at h1 ⊢
      generalize (execOp a.eval o).run C.P w = r at h1 ⊢
      cases r with
      | ok n w' =>
        cases n <;> simp only [Oper.upon] at h1 ⊢ <;>
          first
            | exact hnext _ _ h1
            | exact Calls.mono h1 (fun e w'' he => by cases e <;> first | exact hnext _ _ he | exact absurd he hno | (obtain ⟨_, ⟨he, _⟩, _⟩ := he; cases he))
            | exact Rows.mono h1 (fun _ _ he => hnext _ _ he)
      | halt x w' => cases x <;> simp only [Oper.upon] at h1 ⊢ <;> (obtain ⟨_, ⟨he, _⟩, _⟩ := h1; cases he)
    · exact absurd h1 hno
  · rename_i hw
    rw [if_neg hw] at h1
    exact hnext _ _ h1

theorem mem_ready {md : Region.Mode} {ops : Array Oper} {listed : Array Bool} {i : Nat} (h : i ∈ Region.ready md ops listed) : i < ops.size ∧ listed.getD i true = false ∧ ∃ o, ops[i]? = some o ∧ ∀ e ∈ o.after.toList, Region.binds md e = true → listed.getD e.on false = true := by
  unfold Region.ready at h
  rw [List.mem_filter] at h
  obtain ⟨h1, h2⟩ := h
  rw [List.mem_range] at h1
  simp only [Bool.and_eq_true, Bool.not_eq_true'] at h2
  refine ⟨h1, h2.1, ops[i], by simp [h1], fun e he hb => ?_⟩
  have h3 := h2.2
  rw [Array.getElem?_eq_getElem h1] at h3
  simp only [Option.map_some, Option.getD_some, Array.all_eq_true'] at h3
  have := h3 e (by simpa using he)
  simp only [hb, Bool.not_true, Bool.false_or] at this
  exact this

theorem getD_set (l : Array Bool) (i j : Nat) (b d : Bool) : (l.setIfInBounds i b).getD j d = if i = j ∧ j < l.size then b else l.getD j d := by
  simp only [Array.getD_eq_getD_getElem?, Array.getElem?_setIfInBounds]
  by_cases h : i = j
  · subst h
    by_cases h2 : i < l.size
    · simp [h2]
    · simp [h2]
  · simp [h]

/-- what is known while the values come, in whatever order -/
structure Midst (ops : Array Oper) (ds : List Nat) (E : List AV) (env0 env : List (Nat × AV)) (listed : Array Bool) : Prop where
  size : listed.size = ops.size
  tail : ∀ j, ds.length ≤ j → j < ops.size → listed.getD j true = false
  vals : ∀ j d c, ds[j]? = some d → E[j]? = some c → listed.getD j true = true → look env d = some c
  rest : ∀ t v, t ∉ ds → look env0 t = some v → look env t = some v
  closed : Closed ops listed

theorem W.draw_tail {C : Ctx} {ops : Array Oper} {Q : Exit → Act → World → Prop} {m0 : Nat} (hback : ∀ (i : Nat) (o : Oper), ops[i]? = some o → ∀ e ∈ o.after.toList, Region.binds .any e = true → e.on < i) (htail : ∀ i, i < ops.size → m0 ≤ i → ∀ j, j < i → behind ops 24 i j = true) : ∀ (fuel m : Nat) (listed : Array Bool) (a : Act) (w : World), m0 ≤ m → m ≤ ops.size → fuel = ops.size - m → listed.size = ops.size →
    (∀ j, j < ops.size → (listed.getD j true = true ↔ j < m)) → wpList C.P ops Q (ops.toList.drop m) a w → wpAny C.P .any ops Q fuel listed a w := by
  intro fuel
  have hready : ∀ m (listed : Array Bool), listed.size = ops.size → m0 ≤ m → (∀ j, j < ops.size → (listed.getD j true = true ↔ j < m)) → ∀ i ∈ Region.ready .any ops listed, i = m ∧ m < ops.size := by
    intro m listed hsz0 hm hl i hi
    obtain ⟨h1, h2, o, ho, h3⟩ := mem_ready hi
    have hge : m ≤ i := by
      rcases Nat.lt_or_ge i m with h | h
      · have := (hl i h1).2 h; rw [h2] at this; cases this
      · exact h
    refine ⟨?_, by omega⟩
    rcases Nat.lt_or_ge m i with hlt | h
    · have hcl : Closed ops listed := by
        intro x o' hx hlx k hk
        have hxs := (Array.getElem?_eq_some_iff.1 hx).1
        have hxm : x < m := (hl x hxs).1 (by
          by_cases hsz : x < listed.size
          · simpa [Array.getD, hsz] using hlx
          · simp [Array.getD, hsz])
        simp only [depsOf, List.mem_map, List.mem_filter] at hk
        obtain ⟨e, ⟨he1, he2⟩, rfl⟩ := hk
        have hb := hback x o' hx e he1 he2
        have h5 := (hl e.on (by omega)).2 (by omega)
        have : e.on < listed.size := by omega
        simpa [Array.getD, this] using h5
      have h4 := hcl.behind 24 i o ho (fun k hk => by
        simp only [depsOf, List.mem_map, List.mem_filter] at hk
        obtain ⟨e, ⟨he1, he2⟩, rfl⟩ := hk
        exact h3 e he1 he2) (htail i h1 (by omega) m hlt)
      have hms : m < ops.size := by omega
      have h5 : listed.getD m true = true := by
        by_cases hsz : m < listed.size
        · simpa [Array.getD, hsz] using h4
        · simp [Array.getD, hsz]
      have := (hl m hms).1 h5
      omega
    · omega
  induction fuel with
  | zero =>
    intro m listed a w hm hle hf hsz hl h
    have : m = ops.size := by omega
    subst this
    refine ⟨?_, ?_⟩
    · rw [List.eq_nil_iff_forall_not_mem]
      intro i hi
      have := hready _ listed hsz hm hl i hi
      omega
    · rw [List.drop_eq_nil_of_le (by simp)] at h
      exact h
  | succ fuel ih =>
    intro m listed a w hm hle hf hsz hl h
    have hlt : m < ops.size := by omega
    have hmem : m ∈ Region.ready .any ops listed ∨ m ∉ Region.ready .any ops listed := Classical.em _
    have hdrop : ops.toList.drop m = ops[m] :: ops.toList.drop (m + 1) := by
      rw [List.drop_eq_getElem_cons (by simpa using hlt)]; simp
    have hlm : listed.getD m true = false := by
      cases h1 : listed.getD m true with
      | false => rfl
      | true => have := (hl m hlt).1 h1; omega
    refine ⟨fun h0 => ?_, fun i hi => ?_⟩
    · -- m is ready
      exfalso
      have : m ∈ Region.ready .any ops listed := by
        unfold Region.ready
        rw [List.mem_filter, List.mem_range]
        refine ⟨hlt, ?_⟩
        simp only [hlm, Bool.not_false, Bool.true_and, Array.getElem?_eq_getElem hlt, Option.map_some, Option.getD_some, Array.all_eq_true']
        intro e he
        by_cases hb : Region.binds .any e = true
        · simp only [hb, Bool.not_true, Bool.false_or]
          have hback := hback m _ (Array.getElem?_eq_getElem hlt) e (by simpa using he) hb
          have h5 := (hl e.on (by omega)).2 hback
          have : e.on < listed.size := by omega
          simpa [Array.getD, this] using h5
        · simp [hb]
      rw [h0] at this; cases this
    · obtain ⟨rfl, _⟩ := hready m listed hsz hm hl i hi
      rw [hdrop] at h
      unfold wpList at h
      unfold wpOp
      simp only [Array.getElem?_eq_getElem hlt]
      have hnext : ∀ a w, wpList C.P ops Q (ops.toList.drop (i + 1)) a w → wpAny C.P .any ops Q fuel (listed.setIfInBounds i true) a w := fun a w hw =>
        ih (i + 1) _ a w (by omega) (by omega) (by omega) (by simp [hsz]) (fun j hj => by
          rw [getD_set]
          by_cases e : i = j
          · subst e; simp [hsz, hlt]
          · have := hl j hj
            simp only [e, false_and, if_false, this]; omega) hw
      split
      · rename_i hw
        rw [if_pos hw] at h
        exact h.imp (Oper.wp_mono hnext) id
      · rename_i hw
        rw [if_neg hw] at h
        exact hnext _ _ h

/-- A region that draws its order: its values, each by itself, then the rest in its order. -/
theorem W.draw {C : Ctx} {id : Nat} {ops : Array Oper} {st : St} {Q : Exit → St → Prop} (hmix : C.P.follows .mixedOrders = true) (ds : List Nat) (E : List AV) (hlen : E.length = ds.length) (hchk : drawOK ops ds = true)
    (hs : DrawSteps C ops ds E st.env st.objs ops.toList E) (ht : WL C ops (ops.toList.drop ds.length) ⟨ds.zip E ++ st.env, st.objs⟩ Q) : W C (.region id ops true) st Q := by
  obtain ⟨hnd, hle⟩ := drawOK_nodup hchk
  have main : ∀ (fuel : Nat) (listed : Array Bool) (env : List (Nat × AV)) (a : Act) (w : World), fuel = ((List.range ops.size).filter fun j => !listed.getD j true).length → Midst ops ds E st.env env listed → Rel C ⟨env, st.objs⟩ a w → wpAny C.P .any ops (Post C Q) fuel listed a w := by
    intro fuel
    -- when all values are there
    have hall : ∀ (listed : Array Bool) (env : List (Nat × AV)) (a : Act) (w : World), Midst ops ds E st.env env listed → Rel C ⟨env, st.objs⟩ a w → (∀ j, j < ds.length → listed.getD j true = true) →
        wpAny C.P .any ops (Post C Q) (ops.size - ds.length) listed a w := by
      intro listed env a w hm hr hvals
      refine W.draw_tail (fun i o hi e he hb => drawOK_back hchk hi he hb) (fun i h1 h2 j h3 => drawOK_tail hchk h1 h2 h3) _ ds.length listed a w (Nat.le_refl _) hle rfl hm.size (fun j hj => ⟨fun h => ?_, fun h => hvals j h⟩) (ht a w ?_)
      · rcases Nat.lt_or_ge j ds.length with h1 | h1
        · exact h1
        · rw [hm.tail j h1 hj] at h; cases h
      · refine hr.env fun t v hv => ?_
        rw [look_append] at hv
        cases hz : look (ds.zip E) t with
        | some v' =>
          rw [hz, Option.some_or] at hv
          injection hv with hv; subst hv
          -- found among the values
          have : ∃ j : Nat, ds[j]? = some t ∧ E[j]? = some v' := by
            have aux : ∀ (ds : List Nat) (E : List AV), look (ds.zip E) t = some v' → ∃ j : Nat, ds[j]? = some t ∧ E[j]? = some v' := by
              intro ds
              induction ds with
              | nil => intro E h; simp [look] at h
              | cons d ds ih =>
                intro E h
                cases E with
                | nil => simp [look] at h
                | cons c E =>
                  simp only [List.zip_cons_cons, look] at h
                  split at h
                  · rename_i he
                    injection h with h; subst h
                    exact ⟨0, by simpa using he, rfl⟩
                  · obtain ⟨j, h1, h2⟩ := ih E h
                    exact ⟨j + 1, by simpa using h1, by simpa using h2⟩
            exact aux ds E hz
          obtain ⟨j, h1, h2⟩ := this
          exact hm.vals j t v' h1 h2 (hvals j (List.getElem?_eq_some_iff.1 h1).1)
        | none =>
          rw [hz, Option.none_or] at hv
          refine hm.rest t v (fun hin => ?_) hv
          obtain ⟨j, hj⟩ := List.getElem?_of_mem hin
          have aux : ∀ (ds : List Nat) (E : List AV), E.length = ds.length → t ∈ ds → look (ds.zip E) t ≠ none := by
            intro ds
            induction ds with
            | nil => intro E _ h; cases h
            | cons d ds ih =>
              intro E hl h
              cases E with
              | nil => simp at hl
              | cons c E =>
                simp only [List.zip_cons_cons, look]
                split
                · simp
                · rename_i hne
                  rcases List.mem_cons.1 h with h | h
                  · subst h; simp at hne
                  · exact ih E (by simpa using hl) h
          exact aux ds E hlen hin hz
    induction fuel with
    | zero =>
      intro listed env a w hf hm hr
      have hnone : ∀ j, j < ops.size → listed.getD j true = true := by
        intro j hj
        have h0 := List.eq_nil_of_length_eq_zero hf.symm
        cases h1 : listed.getD j true with
        | true => rfl
        | false =>
          have : j ∈ (List.range ops.size).filter fun j => !listed.getD j true := by
            rw [List.mem_filter, List.mem_range]; exact ⟨hj, by simp [h1]⟩
          rw [h0] at this; cases this
      have h2 : ops.size - ds.length = 0 := by
        rcases Nat.lt_or_ge ds.length ops.size with h | h
        · have := hnone _ h; rw [hm.tail _ (Nat.le_refl _) h] at this; cases this
        · omega
      have := hall listed env a w hm hr (fun j hj => hnone j (by omega))
      rw [h2] at this; exact this
    | succ fuel ih =>
      intro listed env a w hf hm hr
      by_cases hv : ∀ j, j < ds.length → listed.getD j true = true
      · have h1 := hall listed env a w hm hr hv
        have h2 : fuel + 1 = ops.size - ds.length := by
          rw [hf]
          have h3 : (List.range ops.size).filter (fun j => !listed.getD j true) = List.range' ds.length (ops.size - ds.length) := by
            have h4 : List.range ops.size = List.range ds.length ++ List.range' ds.length (ops.size - ds.length) := by
              rw [List.range_eq_range', List.range_eq_range', show ops.size = ds.length + (ops.size - ds.length) by omega]
              have := List.range'_append (s := 0) (m := ds.length) (n := ops.size - ds.length) (step := 1)
              simp at this
              rw [← this]; simp
            rw [h4, List.filter_append]
            rw [List.filter_eq_nil_iff.2, List.nil_append, List.filter_eq_self.2]
            · intro j hj
              rw [List.mem_range'_1] at hj
              simp [hm.tail j hj.1 (by omega)]
            · intro j hj
              rw [List.mem_range] at hj
              simp [hv j hj]
          rw [h3, List.length_range']
        rw [h2]; exact h1
      · -- a value comes
        refine ⟨fun h0 => ?_, fun i hi => ?_⟩
        · exfalso
          have hex : ∃ j, j < ds.length ∧ listed.getD j true = false := by
            apply Classical.byContradiction
            intro hn
            exact hv fun j hj => by
              cases h1 : listed.getD j true with
              | true => rfl
              | false => exact absurd ⟨j, hj, h1⟩ hn
          obtain ⟨m, ⟨hm1, hm2⟩, hmin⟩ := least hex
          have : m ∈ Region.ready .any ops listed := by
            unfold Region.ready
            have hlt : m < ops.size := by omega
            rw [List.mem_filter, List.mem_range]
            refine ⟨hlt, ?_⟩
            simp only [hm2, Bool.not_false, Bool.true_and, Array.getElem?_eq_getElem hlt, Option.map_some, Option.getD_some, Array.all_eq_true']
            intro e he
            by_cases hb : Region.binds .any e = true
            · simp only [hb, Bool.not_true, Bool.false_or]
              have hback := drawOK_back hchk (Array.getElem?_eq_getElem hlt) (by simpa using he) hb
              have h5 : listed.getD e.on true = true := by
                cases h6 : listed.getD e.on true with
                | true => rfl
                | false => have := hmin e.on ⟨by omega, h6⟩; omega
              have : e.on < listed.size := by rw [hm.size]; omega
              simpa [Array.getD, this] using h5
            · simp [hb]
          rw [h0] at this; cases this
        · obtain ⟨h1, h2, o, ho, h3⟩ := mem_ready hi
          have hik : i < ds.length := by
            rcases Nat.lt_or_ge i ds.length with h | h
            · exact h
            · exfalso
              refine hv fun j hj => ?_
              have h4 := hm.closed.behind 24 i o ho (fun k hk => by
                simp only [depsOf, List.mem_map, List.mem_filter] at hk
                obtain ⟨e, ⟨he1, he2⟩, rfl⟩ := hk
                exact h3 e he1 he2) (drawOK_tail hchk h1 h (show j < i by omega))
              have : j < listed.size := by rw [hm.size]; omega
              simpa [Array.getD, this] using h4
          have hiE : i < E.length := by omega
          obtain ⟨o', ho', hstep⟩ := hs.get (i := i) (c := E[i]) (by simp [hiE])
          have : o' = o := by
            rw [Array.getElem?_toList] at ho'
            rw [ho] at ho'; injection ho' with ho'; exact ho'.symm
          subst this
          have hdst := drawOK_dst hchk ho hik
          have hpre : ∀ t v, look ((depEnv ds E (depsOf o') ++ clean ds st.env) ++ env) t = some v → look env t = some v := by
            intro t v hl
            rw [look_append, look_append] at hl
            cases h5 : look (depEnv ds E (depsOf o')) t with
            | some v' =>
              rw [h5] at hl
              simp only [Option.some_or, Option.some.injEq] at hl
              subst hl
              obtain ⟨j, h6, h7, h8⟩ := look_depEnv h5
              simp only [depsOf, List.mem_map, List.mem_filter] at h6
              obtain ⟨e, ⟨he1, he2⟩, rfl⟩ := h6
              have h9 := h3 e he1 he2
              have : e.on < listed.size := by rw [hm.size]; have := (List.getElem?_eq_some_iff.1 h7).1; omega
              exact hm.vals e.on t v' h7 h8 (by simpa [Array.getD, this] using h9)
            | none =>
              rw [h5, Option.none_or] at hl
              cases h6 : look (clean ds st.env) t with
              | some v' =>
                rw [h6] at hl
                simp only [Option.some_or, Option.some.injEq] at hl
                subst hl
                obtain ⟨h7, h8⟩ := look_clean h6
                exact hm.rest t v' h7 h8
              | none => rw [h6, Option.none_or] at hl; exact hl
          refine wpOp_of_WL (st := ⟨(depEnv ds E (depsOf o') ++ clean ds st.env) ++ env, st.objs⟩) ho (hstep env) (hr.env hpre) fun a' w' hr' => ih _ ((ds[i], E[i]) :: env) a' w' ?_ ?_ ?_
          · -- one fewer is left
            have aux : ∀ (l : List Nat), l.Nodup → i ∈ l → (l.filter fun j => !listed.getD j true).length = (l.filter fun j => !(listed.setIfInBounds i true).getD j true).length + 1 := by
              intro l
              induction l with
              | nil => intro _ h; cases h
              | cons x l ih2 =>
                intro hn hin
                rw [List.nodup_cons] at hn
                by_cases hx : x = i
                · subst hx
                  have hsz : x < listed.size := by rw [hm.size]; exact h1
                  have hsame : (l.filter fun j => !listed.getD j true) = (l.filter fun j => !(listed.setIfInBounds x true).getD j true) := by
                    apply List.filter_congr
                    intro j hj
                    rw [getD_set, if_neg]
                    rintro ⟨rfl, _⟩
                    exact hn.1 hj
                  rw [List.filter_cons_of_pos (by simp [h2]), List.filter_cons_of_neg (by rw [getD_set]; simp [hsz]), List.length_cons, hsame]
                · have hin' : i ∈ l := by
                    rcases List.mem_cons.1 hin with h | h
                    · exact absurd h.symm hx
                    · exact h
                  have hg : (listed.setIfInBounds i true).getD x true = listed.getD x true := by
                    rw [getD_set, if_neg]
                    rintro ⟨rfl, _⟩
                    exact hx rfl
                  have := ih2 hn.2 hin'
                  by_cases hc : listed.getD x true = true
                  · rw [List.filter_cons_of_neg (by simp [hc]), List.filter_cons_of_neg (by rw [hg]; simp [hc])]; exact this
                  · rw [List.filter_cons_of_pos (by simpa using hc), List.filter_cons_of_pos (by rw [hg]; simpa using hc), List.length_cons, List.length_cons, this]
            have := aux (List.range ops.size) List.nodup_range (by rw [List.mem_range]; exact h1)
            omega
          · refine ⟨by simp [hm.size], fun j hj1 hj2 => ?_, fun j d c hj1 hj2 hj3 => ?_, fun t v ht hl => ?_, hm.closed.set ho fun k hk => by
              simp only [depsOf, List.mem_map, List.mem_filter] at hk
              obtain ⟨e, ⟨he1, he2⟩, rfl⟩ := hk
              exact h3 e he1 he2⟩
            · rw [getD_set, if_neg (by omega)]; exact hm.tail j hj1 hj2
            · by_cases e : i = j
              · subst e
                rw [List.getElem?_eq_getElem hik] at hj1
                rw [List.getElem?_eq_getElem hiE] at hj2
                injection hj1 with hj1; injection hj2 with hj2
                simp [look, hj1, hj2]
              · rw [getD_set, if_neg (fun h => e h.1)] at hj3
                have hne : ds[i] ≠ d := fun h => e (nodup_get hnd (by rw [List.getElem?_eq_getElem hik, h]) hj1)
                simp only [look]
                rw [if_neg (by simpa using hne)]
                exact hm.vals j d c hj1 hj2 hj3
            · have hne : ds[i] ≠ t := fun h => ht (h ▸ List.getElem_mem hik)
              simp only [look]
              rw [if_neg (by simpa using hne)]
              exact hm.rest t v ht hl
          · rw [hdst] at hr'
            refine Rel.env (st := ⟨(ds[i], E[i]) :: ((depEnv ds E (depsOf o') ++ clean ds st.env) ++ env), st.objs⟩) hr' fun t v hl => ?_
            simp only [look] at hl ⊢
            split at hl
            · rename_i he; rw [if_pos he]; exact hl
            · rename_i he
              rw [if_neg he]
              cases h5 : look ((depEnv ds E (depsOf o') ++ clean ds st.env) ++ env) t with
              | some v' => have := hpre t v' h5; rw [hl] at this; exact this.symm
              | none => rw [look_append, hl] at h5; cases h6 : look (depEnv ds E (depsOf o') ++ clean ds st.env) t <;> rw [h6] at h5 <;> cases h5
  intro a w hr
  refine wp_region_any hmix (main ops.size _ st.env a _ ?_ ⟨by simp, fun j h1 h2 => by simp [Array.getD, h2], fun j d c h1 h2 h3 => ?_, fun t v _ h => h, fun i o ho hl => by
    have := (Array.getElem?_eq_some_iff.1 ho).1
    simp [Array.getD, this] at hl⟩ hr.drew)
  · rw [List.filter_eq_self.2, List.length_range]
    intro j hj
    rw [List.mem_range] at hj
    simp [Array.getD, hj]
  · have := (List.getElem?_eq_some_iff.1 h1).1
    have hlt : j < ops.size := by omega
    simp [Array.getD, hlt] at h3

/-- the walk through a region that draws its order -/
def DrawFrom (C : Ctx) (ops : Array Oper) (ds : List Nat) (env : List (Nat × AV)) (objs : List AObj) (Q : Exit → St → Prop) : List Oper → List Nat → List AV → Prop
  | o :: os, _ :: dr, E => ∃ c, DrawStep C ops o (depEnv ds E (depsOf o) ++ clean ds env) objs c ∧ DrawFrom C ops ds env objs Q os dr (E ++ [c])
  | [], _ :: _, _ => False
  | l, [], E => WL C ops l ⟨ds.zip E ++ env, objs⟩ Q
theorem DrawFrom.step {C : Ctx} {ops : Array Oper} {ds : List Nat} {env : List (Nat × AV)} {objs : List AObj} {Q : Exit → St → Prop} {o : Oper} {os : List Oper} {d : Nat} {dr : List Nat} {E : List AV} {c : AV}
    (h : DrawStep C ops o (depEnv ds E (depsOf o) ++ clean ds env) objs c) (h' : DrawFrom C ops ds env objs Q os dr (E ++ [c])) : DrawFrom C ops ds env objs Q (o :: os) (d :: dr) E := ⟨c, h, h'⟩
theorem DrawFrom.done {C : Ctx} {ops : Array Oper} {ds : List Nat} {env : List (Nat × AV)} {objs : List AObj} {Q : Exit → St → Prop} {l : List Oper} {E : List AV}
    (h : WL C ops l ⟨ds.zip E ++ env, objs⟩ Q) : DrawFrom C ops ds env objs Q l [] E := by cases l <;> exact h

theorem depEnv_more {ds : List Nat} {E E' : List AV} : ∀ {l : List Nat}, (∀ j ∈ l, j < E.length) → depEnv ds (E ++ E') l = depEnv ds E l
  | [], _ => rfl
  | j :: l, h => by
    simp only [depEnv]
    rw [List.getElem?_append_left (h j (by simp)), depEnv_more (fun x hx => h x (by simp [hx]))]

theorem DrawFrom.sound {C : Ctx} {ops : Array Oper} {ds : List Nat} {env : List (Nat × AV)} {objs : List AObj} {Q : Exit → St → Prop} (hchk : drawOK ops ds = true) : ∀ {os : List Oper} {dr : List Nat} {E : List AV}, DrawFrom C ops ds env objs Q os dr E →
    os = ops.toList.drop E.length → dr = ds.drop E.length → ∃ E', DrawSteps C ops ds (E ++ E') env objs os E' ∧ E'.length = dr.length ∧ WL C ops (os.drop dr.length) ⟨ds.zip (E ++ E') ++ env, objs⟩ Q
  | o :: os, d :: dr, E, h, ho, hd => by
    obtain ⟨c, h1, h2⟩ := h
    have hlt : E.length < ops.toList.length := by
      rcases Nat.lt_or_ge E.length ops.toList.length with h | h
      · exact h
      · rw [List.drop_eq_nil_of_le h] at ho; cases ho
    have hltd : E.length < ds.length := by
      rcases Nat.lt_or_ge E.length ds.length with h | h
      · exact h
      · rw [List.drop_eq_nil_of_le h] at hd; cases hd
    rw [List.drop_eq_getElem_cons hlt] at ho
    rw [List.drop_eq_getElem_cons hltd] at hd
    injection ho with ho1 ho2
    injection hd with hd1 hd2
    obtain ⟨E', g1, g2, g3⟩ := DrawFrom.sound hchk h2 (by simpa using ho2) (by simpa using hd2)
    refine ⟨c :: E', ⟨?_, by simpa [List.append_assoc] using g1⟩, by simp [g2], by simpa [List.append_assoc] using g3⟩
    rw [depEnv_more]
    · exact h1
    · intro j hj
      simp only [depsOf, List.mem_map, List.mem_filter] at hj
      obtain ⟨e, ⟨he1, he2⟩, rfl⟩ := hj
      exact drawOK_back hchk (i := E.length) (o := o) (by rw [← Array.getElem?_toList, List.getElem?_eq_getElem hlt, ho1]) he1 he2
  | [], _ :: _, _, h, _, _ => h.elim
  | l, [], E, h, _, _ => ⟨[], by cases l <;> trivial, rfl, by cases l <;> simpa [DrawFrom] using h⟩

theorem W.drawn {C : Ctx} {id : Nat} {ops : Array Oper} {env : List (Nat × AV)} {objs : List AObj} {Q : Exit → St → Prop} (hmix : C.P.follows .mixedOrders = true) (ds : List Nat) (hchk : drawOK ops ds = true)
    (h : DrawFrom C ops ds env objs Q ops.toList ds []) : W C (.region id ops true) ⟨env, objs⟩ Q := by
  obtain ⟨E, h1, h2, h3⟩ := h.sound hchk rfl rfl
  exact W.draw hmix ds E h2 hchk h1 h3

end Go.Lens
