/- Lens, part 15: regions that draw their order, in which some values may come behind a store. -/
import Derived.Test.YtnlikbgcnofjiaaDoorLens14
set_option linter.unusedVariables false
set_option linter.unusedSimpArgs false
namespace Go.Lens
open Go Go.RowKit

def sel (acc : List (Nat × AV)) (ts : List Nat) : List (Nat × AV) :=
  match acc with
  | [] => []
  | p :: r => if ts.contains p.1 then p :: sel r ts else sel r ts
theorem look_sel {acc : List (Nat × AV)} {ts : List Nat} {t : Nat} {v : AV} (h : look (sel acc ts) t = some v) : t ∈ ts ∧ look acc t = some v := by
  induction acc with
  | nil => cases h
  | cons p r ih =>
    obtain ⟨k, c⟩ := p
    simp only [sel] at h
    split at h
    · rename_i hk
      simp only [look] at h ⊢
      split at h
      · rename_i he
        have : k = t := by simpa using he
        subst this
        rw [if_pos (by simp)]
        exact ⟨by simpa using hk, h⟩
      · rename_i he
        rw [if_neg he]; exact ih h
    · rename_i hk
      obtain ⟨h1, h2⟩ := ih h
      have : k ≠ t := fun e => hk (by subst e; simpa using h1)
      refine ⟨h1, ?_⟩
      simp only [look]
      rw [if_neg (by simpa using this)]; exact h2

/-- the temporaries that an operation waits for -/
def depT (ops : Array Oper) (o : Oper) : List Nat := (depsOf o).filterMap fun j => (ops[j]?).bind (·.dst)

def dstsOf (ops : Array Oper) (k m : Nat) : List Nat := ((ops.toList.drop k).take m).filterMap (·.dst)

def midOK (ops : Array Oper) (ds fl : List Nat) (mN : Nat) : Bool :=
  decide ds.Nodup && decide (ds.length + mN ≤ ops.size) && (List.range ds.length).all (fun i => (ops[i]?).any fun o => o.dst == ds[i]?) &&
  ((List.range ops.size).all fun i => (ops[i]?).any fun o => (depsOf o).all fun j => decide (j < i)) &&
  ((List.range mN).all fun j => (List.range (ds.length + j)).all fun i => fl.contains i || behind ops 24 (ds.length + j) i) &&
  ((List.range' (ds.length + mN) (ops.size - (ds.length + mN))).all fun i => (List.range i).all fun j => behind ops 24 i j) &&
  ((dstsOf ops ds.length mN).all fun t => !ds.contains t) && fl.all (fun i => decide (i < ds.length)) &&
  ((List.range ds.length).all fun i => fl.contains i || (ops[i]?).any fun o => (depsOf o).all fun j => !fl.contains j)

theorem ready_ne {ops : Array Oper} {listed : Array Bool} (hsz : listed.size = ops.size) (hback : ∀ (i : Nat) (o : Oper), ops[i]? = some o → ∀ e ∈ o.after.toList, Region.binds .any e = true → e.on < i) {x : Nat} (hx : x < ops.size) (hl : listed.getD x true = false) :
    Region.ready .any ops listed ≠ [] := by
  intro h0
  obtain ⟨m, ⟨hm1, hm2⟩, hmin⟩ := least (p := fun j => j < ops.size ∧ listed.getD j true = false) ⟨x, hx, hl⟩
  have : m ∈ Region.ready .any ops listed := by
    unfold Region.ready
    rw [List.mem_filter, List.mem_range]
    refine ⟨hm1, ?_⟩
    simp only [hm2, Bool.not_false, Bool.true_and, Array.getElem?_eq_getElem hm1, Option.map_some, Option.getD_some, Array.all_eq_true']
    intro e he
    by_cases hb : Region.binds .any e = true
    · simp only [hb, Bool.not_true, Bool.false_or]
      have hbk := hback m _ (Array.getElem?_eq_getElem hm1) e (by simpa using he) hb
      have h5 : listed.getD e.on true = true := by
        cases h6 : listed.getD e.on true with
        | true => rfl
        | false => have := hmin e.on ⟨by omega, h6⟩; omega
      have : e.on < listed.size := by rw [hsz]; omega
      simpa [Array.getD, this] using h5
    · simp [hb]
  rw [h0] at this; cases this

structure Mid (ops : Array Oper) (ds fl : List Nat) (mN : Nat) (acc env0 : List (Nat × AV)) (ms : Nat → St) (p : Nat) (env : List (Nat × AV)) (listed : Array Bool) : Prop where
  size : listed.size = ops.size
  closed : Closed ops listed
  pl : p ≤ mN
  tl : ∀ i, ds.length + p ≤ i → i < ops.size → listed.getD i true = false
  ml : ∀ j, j < p → listed.getD (ds.length + j) true = true
  all : 0 < p → ∀ i, i < ds.length → i ∉ fl → listed.getD i true = true
  vals : ∀ i d, ds[i]? = some d → listed.getD i true = true → look env d = look acc d
  rest : ∀ t v, t ∉ ds → t ∉ dstsOf ops ds.length mN → look env0 t = some v → look env t = some v
  zero : p = 0 → ∀ t v, t ∉ ds → look env0 t = some v → look env t = some v
  pos : 0 < p → ∀ t v, look (ms p).env t = some v → look env t = some v

/-- One of the operations in the middle. -/
def MidStep (C : Ctx) (ops : Array Oper) (o : Oper) (s s' : St) : Prop :=
  ∀ more, WL C ops [o] ⟨s.env ++ more, s.objs⟩ (fun e r => e = .normal ∧ r = ⟨s'.env ++ more, s'.objs⟩)

theorem getD_ne {l : Array Bool} {i : Nat} (h : l.getD i true = false) : i < l.size := by
  by_cases h1 : i < l.size
  · exact h1
  · simp [Array.getD, h1] at h
theorem getD_sw {l : Array Bool} {i : Nat} (h : l.getD i false = true) (hi : i < l.size) : l.getD i true = true := by simpa [Array.getD, hi] using h

theorem unlisted_set {listed : Array Bool} {n i : Nat} (hi : i < n) (hsz : listed.size = n) (h2 : listed.getD i true = false) :
    ((List.range n).filter fun j => !listed.getD j true).length = ((List.range n).filter fun j => !(listed.setIfInBounds i true).getD j true).length + 1 := by
  have aux : ∀ (l : List Nat), l.Nodup → i ∈ l → (l.filter fun j => !listed.getD j true).length = (l.filter fun j => !(listed.setIfInBounds i true).getD j true).length + 1 := by
    intro l
    induction l with
    | nil => intro _ h; cases h
    | cons x l ih2 =>
      intro hn hin
      rw [List.nodup_cons] at hn
      by_cases hx : x = i
      · subst hx
        have hsz' : x < listed.size := by omega
        have hsame : (l.filter fun j => !listed.getD j true) = (l.filter fun j => !(listed.setIfInBounds x true).getD j true) := by
          apply List.filter_congr
          intro j hj
          rw [getD_set, if_neg]
          rintro ⟨rfl, _⟩
          exact hn.1 hj
        rw [List.filter_cons_of_pos (by simp [h2]), List.filter_cons_of_neg (by rw [getD_set]; simp [hsz']), List.length_cons, hsame]
      · have hin' : i ∈ l := by
          rcases List.mem_cons.1 hin with h | h
          · exact absurd h.symm hx
          · exact h
        have hg : (listed.setIfInBounds i true).getD x true = listed.getD x true := by
          rw [getD_set, if_neg]
          rintro ⟨rfl, _⟩
          exact hx rfl
        have := ih2 hn.2 hin'
        by_cases hc : listed.getD x true = true
        · rw [List.filter_cons_of_neg (by simp [hc]), List.filter_cons_of_neg (by rw [hg]; simp [hc])]; exact this
        · rw [List.filter_cons_of_pos (by simpa using hc), List.filter_cons_of_pos (by rw [hg]; simpa using hc), List.length_cons, List.length_cons, this]
  exact aux (List.range n) List.nodup_range (by rw [List.mem_range]; exact hi)

theorem W.mid {C : Ctx} {id : Nat} {ops : Array Oper} {env0 : List (Nat × AV)} {objs0 : List AObj} {Q : Exit → St → Prop} (hmix : C.P.follows .mixedOrders = true) (ds fl : List Nat) (mN : Nat) (acc : List (Nat × AV)) (ms : Nat → St) (hchk : midOK ops ds fl mN = true)
    (hacc : ∀ d ∈ ds, ∃ c, look acc d = some c) (hdom : ∀ t v, look acc t = some v → t ∈ ds) (hm0 : (ms 0).objs = objs0) (he0 : ∀ t v, look (ms 0).env t = some v → (∃ i, i ∉ fl ∧ ds[i]? = some t ∧ look acc t = some v) ∨ (t ∉ ds ∧ look env0 t = some v))
    (hV : ∀ (i : Nat) (o : Oper) (d : Nat) (c : AV), i ∉ fl → ops[i]? = some o → ds[i]? = some d → look acc d = some c → DrawStep C ops o (sel acc (depT ops o) ++ clean ds env0) objs0 c)
    (hM : ∀ (j : Nat) (o : Oper), j < mN → ops[ds.length + j]? = some o → MidStep C ops o (ms j) (ms (j + 1)))
    (hMe : ∀ j, j < mN → (ms (j + 1)).env = (ms j).env ∨ ∃ d c, d ∈ dstsOf ops ds.length mN ∧ (ms (j + 1)).env = (d, c) :: (ms j).env)
    (hF : ∀ (j i : Nat) (o : Oper) (d : Nat) (c : AV), j ≤ mN → i ∈ fl → ops[i]? = some o → ds[i]? = some d → look acc d = some c → DrawStep C ops o (sel acc (depT ops o) ++ clean (ds ++ dstsOf ops ds.length mN) env0) (ms j).objs c)
    (hT : WL C ops (ops.toList.drop (ds.length + mN)) ⟨acc ++ (ms mN).env, (ms mN).objs⟩ Q) : W C (.region id ops true) ⟨env0, objs0⟩ Q := by
  simp only [midOK, Bool.and_eq_true, decide_eq_true_eq, List.all_eq_true, List.mem_range, Bool.or_eq_true, List.contains_iff_mem] at hchk
  obtain ⟨⟨⟨⟨⟨⟨⟨⟨hnd, hle⟩, hds⟩, hbk⟩, hmo⟩, hta⟩, hmd⟩, hfl⟩, hnf2⟩ := hchk
  have hback : ∀ (i : Nat) (o : Oper), ops[i]? = some o → ∀ e ∈ o.after.toList, Region.binds .any e = true → e.on < i := by
    intro i o hi e he hb
    have h2 := hbk i (Array.getElem?_eq_some_iff.1 hi).1
    rw [hi] at h2
    simp only [Option.any_some, List.all_eq_true, decide_eq_true_eq] at h2
    exact h2 e.on (by simp only [depsOf, List.mem_map, List.mem_filter]; exact ⟨e, ⟨he, hb⟩, rfl⟩)
  have htail : ∀ i, i < ops.size → ds.length + mN ≤ i → ∀ j, j < i → behind ops 24 i j = true := fun i h1 h2 j h3 => hta i (by rw [List.mem_range'_1]; omega) j h3
  have hdst : ∀ (i : Nat) (o : Oper) (d : Nat), ops[i]? = some o → ds[i]? = some d → o.dst = some d := by
    intro i o d hi hd
    have hlt := (List.getElem?_eq_some_iff.1 hd).1
    have h2 := hds i hlt
    rw [hi, hd] at h2
    simpa using h2
  have hdisj : ∀ t, t ∈ dstsOf ops ds.length mN → t ∉ ds := fun t ht h => by have := hmd t ht; simp [h] at this
  -- the middle's frames say nothing new of the values
  have hms : ∀ j, j ≤ mN → ∀ t v, look (ms j).env t = some v → (t ∈ ds → look acc t = some v) ∧ (t ∉ ds → t ∉ dstsOf ops ds.length mN → look env0 t = some v) ∧ (t ∈ ds → ∀ i, ds[i]? = some t → i ∉ fl) := by
    intro j
    induction j with
    | zero =>
      intro _ t v h
      rcases he0 t v h with ⟨i, hi1, hi2, h2⟩ | ⟨h1, h2⟩
      · refine ⟨fun _ => h2, fun h => absurd (List.mem_of_getElem? hi2) h, fun _ i' hi' => ?_⟩
        rw [nodup_get hnd hi' hi2]; exact hi1
      · exact ⟨fun h => absurd h h1, fun _ _ => h2, fun h => absurd h h1⟩
    | succ j ih =>
      intro hj t v h
      rcases hMe j (by omega) with he | ⟨d, c, hd, he⟩
      · rw [he] at h; exact ih (by omega) t v h
      · rw [he] at h
        simp only [look] at h
        split at h
        · rename_i hk
          have : d = t := by simpa using hk
          subst this
          exact ⟨fun h => absurd h (hdisj d hd), fun _ h => absurd hd h, fun h => absurd h (hdisj d hd)⟩
        · exact ih (by omega) t v h
  -- when all is there
  have hall : ∀ (listed : Array Bool) (env : List (Nat × AV)) (a : Act) (w : World), Mid ops ds fl mN acc env0 ms mN env listed → Rel C ⟨env, (ms mN).objs⟩ a w → (∀ i, i < ds.length → listed.getD i true = true) →
      wpAny C.P .any ops (Post C Q) (ops.size - (ds.length + mN)) listed a w := by
    intro listed env a w hm hr hv
    refine W.draw_tail hback htail _ (ds.length + mN) listed a w (Nat.le_refl _) hle rfl hm.size (fun j hj => ⟨fun h => ?_, fun h => ?_⟩) (hT a w (hr.env fun t v hl => ?_))
    · rcases Nat.lt_or_ge j (ds.length + mN) with h1 | h1
      · exact h1
      · rw [hm.tl j h1 hj] at h; cases h
    · rcases Nat.lt_or_ge j ds.length with h1 | h1
      · exact hv j h1
      · have := hm.ml (j - ds.length) (by omega)
        rwa [show ds.length + (j - ds.length) = j by omega] at this
    · rw [look_append] at hl
      cases ha : look acc t with
      | some v' =>
        rw [ha, Option.some_or] at hl
        injection hl with hl; subst hl
        obtain ⟨i, hi⟩ := List.getElem?_of_mem (hdom t _ ha)
        rw [hm.vals i t hi (hv i (List.getElem?_eq_some_iff.1 hi).1), ha]
      | none =>
        rw [ha, Option.none_or] at hl
        obtain ⟨h1, h2, _⟩ := hms mN (Nat.le_refl _) t v hl
        by_cases hin : t ∈ ds
        · rw [ha] at h1; cases h1 hin
        · rcases Nat.eq_zero_or_pos mN with h0 | h0
          · have : t ∉ dstsOf ops ds.length mN := by rw [h0]; simp [dstsOf]
            exact hm.zero h0 t v hin (h2 hin this)
          · exact hm.pos h0 t v hl
  have hcount : ∀ (listed : Array Bool) (env : List (Nat × AV)), Mid ops ds fl mN acc env0 ms mN env listed → (∀ i, i < ds.length → listed.getD i true = true) → ((List.range ops.size).filter fun j => !listed.getD j true).length = ops.size - (ds.length + mN) := by
    intro listed env hm hv
    have h4 : List.range ops.size = List.range (ds.length + mN) ++ List.range' (ds.length + mN) (ops.size - (ds.length + mN)) := by
      rw [List.range_eq_range', List.range_eq_range', show ops.size = (ds.length + mN) + (ops.size - (ds.length + mN)) by omega]
      have := List.range'_append (s := 0) (m := ds.length + mN) (n := ops.size - (ds.length + mN)) (step := 1)
      simp at this
      rw [← this]; simp
    rw [h4, List.filter_append, List.filter_eq_nil_iff.2, List.nil_append, List.filter_eq_self.2]
    · simp
    · intro j hj
      rw [List.mem_range'_1] at hj
      simp [hm.tl j hj.1 (by omega)]
    · intro j hj
      rw [List.mem_range] at hj
      rcases Nat.lt_or_ge j ds.length with h1 | h1
      · simp [hv j h1]
      · have := hm.ml (j - ds.length) (by omega)
        rw [show ds.length + (j - ds.length) = j by omega] at this
        simp [this]
  have main : ∀ (fuel p : Nat) (listed : Array Bool) (env : List (Nat × AV)) (a : Act) (w : World), fuel = ((List.range ops.size).filter fun j => !listed.getD j true).length → Mid ops ds fl mN acc env0 ms p env listed → Rel C ⟨env, (ms p).objs⟩ a w →
      wpAny C.P .any ops (Post C Q) fuel listed a w := by
    intro fuel
    induction fuel with
    | zero =>
      intro p listed env a w hf hm hr
      have hnone : ∀ j, j < ops.size → listed.getD j true = true := by
        intro j hj
        have h0 := List.eq_nil_of_length_eq_zero hf.symm
        cases h1 : listed.getD j true with
        | true => rfl
        | false =>
          have : j ∈ (List.range ops.size).filter fun j => !listed.getD j true := by
            rw [List.mem_filter, List.mem_range]; exact ⟨hj, by simp [h1]⟩
          rw [h0] at this; cases this
      have hp : p = mN := by
        have := hm.pl
        rcases Nat.lt_or_ge p mN with h | h
        · have h1 := hnone (ds.length + p) (by omega)
          rw [hm.tl _ (Nat.le_refl _) (by omega)] at h1; cases h1
        · omega
      subst hp
      have h1 := hall listed env a w hm hr (fun i hi => hnone i (by omega))
      rw [← hcount listed env hm (fun i hi => hnone i (by omega)), ← hf] at h1
      exact h1
    | succ fuel ih =>
      intro p listed env a w hf hm hr
      by_cases hend : p = mN ∧ ∀ i, i < ds.length → listed.getD i true = true
      · obtain ⟨rfl, hv⟩ := hend
        have h1 := hall listed env a w hm hr hv
        rw [← hcount listed env hm hv, ← hf] at h1
        exact h1
      · refine ⟨fun h0 => ?_, fun i hi => ?_⟩
        · exfalso
          have hex : ∃ x, x < ops.size ∧ listed.getD x true = false := by
            have := hm.pl
            rcases Nat.lt_or_ge p mN with h | h
            · exact ⟨ds.length + p, by omega, hm.tl _ (Nat.le_refl _) (by omega)⟩
            · apply Classical.byContradiction
              intro hn
              refine hend ⟨by omega, fun i hi => ?_⟩
              cases h1 : listed.getD i true with
              | true => rfl
              | false => exact absurd ⟨i, by omega, h1⟩ hn
          obtain ⟨x, hx1, hx2⟩ := hex
          exact ready_ne hm.size hback hx1 hx2 h0
        · obtain ⟨h1, h2, o, ho, h3⟩ := mem_ready hi
          have hdep : ∀ k ∈ depsOf o, listed.getD k false = true := by
            intro k hk
            simp only [depsOf, List.mem_map, List.mem_filter] at hk
            obtain ⟨e, ⟨he1, he2⟩, rfl⟩ := hk
            exact h3 e he1 he2
          have hlt : ∀ k ∈ depsOf o, k < i := by
            intro k hk
            simp only [depsOf, List.mem_map, List.mem_filter] at hk
            obtain ⟨e, ⟨he1, he2⟩, rfl⟩ := hk
            exact hback i o ho e he1 he2
          have hfew := unlisted_set h1 hm.size h2
          have hsel : i < ds.length → ∀ t v, look (sel acc (depT ops o)) t = some v → look env t = some v := by
            intro hik t v hl
            obtain ⟨g1, g2⟩ := look_sel hl
            simp only [depT, List.mem_filterMap] at g1
            obtain ⟨j, g3, g4⟩ := g1
            have hj := hlt j g3
            have hjd : j < ds.length := by omega
            cases hoj : ops[j]? with
            | none => rw [hoj] at g4; cases g4
            | some oj =>
              rw [hoj] at g4
              have := hdst j oj ds[j] hoj (List.getElem?_eq_getElem hjd)
              simp only [Option.bind_some] at g4
              rw [this] at g4
              injection g4 with g4
              rw [hm.vals j t (by rw [List.getElem?_eq_getElem hjd, g4]) (getD_sw (hdep j g3) (by rw [hm.size]; omega)), g2]
          rcases Nat.lt_or_ge i ds.length with hik | hik
          · -- a value
            have hd : ds[i]? = some ds[i] := List.getElem?_eq_getElem hik
            obtain ⟨c, hc⟩ := hacc ds[i] (List.getElem_mem hik)
            have hod := hdst i o _ ho hd
            have hmem : ds[i] ∈ ds := List.getElem_mem hik
            -- what is new
            have hnew : Mid ops ds fl mN acc env0 ms p ((ds[i], c) :: env) (listed.setIfInBounds i true) := by
              refine ⟨by simp [hm.size], hm.closed.set ho hdep, hm.pl, fun x hx1 hx2 => ?_, fun j hj => ?_, fun hp x hx1 hx2 => ?_, fun x d hx1 hx2 => ?_, fun t v ht1 ht2 hl => ?_, fun hp t v ht hl => ?_, fun hp t v hl => ?_⟩
              · rw [getD_set, if_neg (by omega)]; exact hm.tl x hx1 hx2
              · rw [getD_set]; split
                · rfl
                · exact hm.ml j hj
              · rw [getD_set]; split
                · rfl
                · exact hm.all hp x hx1 hx2
              · by_cases e : i = x
                · subst e
                  rw [hd] at hx1; injection hx1 with hx1; subst hx1
                  simp [look, hc]
                · rw [getD_set, if_neg (fun h => e h.1)] at hx2
                  have hne : ds[i] ≠ d := fun h => e (nodup_get hnd hd (by rw [h]; exact hx1))
                  simp only [look]
                  rw [if_neg (by simpa using hne)]
                  exact hm.vals x d hx1 hx2
              · have hne : ds[i] ≠ t := fun h => ht1 (h ▸ hmem)
                simp only [look]
                rw [if_neg (by simpa using hne)]
                exact hm.rest t v ht1 ht2 hl
              · have hne : ds[i] ≠ t := fun h => ht (h ▸ hmem)
                simp only [look]
                rw [if_neg (by simpa using hne)]
                exact hm.zero hp t v ht hl
              · simp only [look]
                split
                · rename_i he
                  have he' : ds[i] = t := by simpa using he
                  have := (hms p hm.pl t v hl).1 (he' ▸ hmem)
                  rw [← he', hc] at this; exact this
                · exact hm.pos hp t v hl
            have fin : ∀ (pre : List (Nat × AV)), (∀ t v, look (pre ++ env) t = some v → look env t = some v) → DrawStep C ops o pre (ms p).objs c → wpOp C.P ops (Post C Q) i (wpAny C.P .any ops (Post C Q) fuel (listed.setIfInBounds i true)) a w := by
              intro pre hpre hstep
              refine wpOp_of_WL (st := ⟨pre ++ env, (ms p).objs⟩) ho (hstep env) (hr.env hpre) fun a' w' hr' => ih p _ ((ds[i], c) :: env) a' w' (by omega) hnew ?_
              rw [hod] at hr'
              refine Rel.env (st := ⟨(ds[i], c) :: (pre ++ env), (ms p).objs⟩) hr' fun t v hl => ?_
              simp only [look] at hl ⊢
              split at hl
              · rename_i he; rw [if_pos he]; exact hl
              · rename_i he
                rw [if_neg he]
                cases h5 : look (pre ++ env) t with
                | some v' => have := hpre t v' h5; rw [hl] at this; exact this.symm
                | none => rw [look_append, hl] at h5; cases h6 : look pre t <;> rw [h6] at h5 <;> cases h5
            by_cases hif : i ∈ fl
            · refine fin _ (fun t v hl => ?_) (hF p i o _ c hm.pl hif ho hd hc)
              rw [look_append, look_append] at hl
              cases h5 : look (sel acc (depT ops o)) t with
              | some v' => rw [h5] at hl; simp only [Option.some_or, Option.some.injEq] at hl; subst hl; exact hsel hik t _ h5
              | none =>
                rw [h5, Option.none_or] at hl
                cases h6 : look (clean (ds ++ dstsOf ops ds.length mN) env0) t with
                | some v' =>
                  rw [h6] at hl; simp only [Option.some_or, Option.some.injEq] at hl; subst hl
                  obtain ⟨h7, h8⟩ := look_clean h6
                  rw [List.mem_append, not_or] at h7
                  exact hm.rest t _ h7.1 h7.2 h8
                | none => rw [h6, Option.none_or] at hl; exact hl
            · have hp0 : p = 0 := by
                rcases Nat.eq_zero_or_pos p with h | h
                · exact h
                · have := hm.all h i hik hif; rw [h2] at this; cases this
              subst hp0
              refine fin _ (fun t v hl => ?_) (by have := hV i o _ c hif ho hd hc; rw [hm0]; exact this)
              rw [look_append, look_append] at hl
              cases h5 : look (sel acc (depT ops o)) t with
              | some v' => rw [h5] at hl; simp only [Option.some_or, Option.some.injEq] at hl; subst hl; exact hsel hik t _ h5
              | none =>
                rw [h5, Option.none_or] at hl
                cases h6 : look (clean ds env0) t with
                | some v' =>
                  rw [h6] at hl; simp only [Option.some_or, Option.some.injEq] at hl; subst hl
                  obtain ⟨h7, h8⟩ := look_clean h6
                  exact hm.zero rfl t _ h7 h8
                | none => rw [h6, Option.none_or] at hl; exact hl
          · -- one of the middle
            have hlisted : ∀ j, behind ops 24 i j = true → j < ops.size → listed.getD j true = true := fun j hj hjs => getD_sw (hm.closed.behind 24 i o ho hdep hj) (by rw [hm.size]; exact hjs)
            have him : i < ds.length + mN := by
              rcases Nat.lt_or_ge i (ds.length + mN) with h | h
              · exact h
              · exfalso
                refine hend ⟨?_, fun x hx => hlisted x (htail i h1 h x (by omega)) (by omega)⟩
                have := hm.pl
                rcases Nat.lt_or_ge p mN with h4 | h4
                · have h5 := hlisted (ds.length + p) (htail i h1 h _ (by omega)) (by omega)
                  rw [hm.tl _ (Nat.le_refl _) (by omega)] at h5; cases h5
                · omega
            obtain ⟨q, rfl⟩ := Nat.exists_eq_add_of_le hik
            have hq : q < mN := by omega
            have hqp : q = p := by
              rcases Nat.lt_trichotomy q p with h | h | h
              · have := hm.ml q h; rw [h2] at this; cases this
              · exact h
              · have h4 := hmo q hq (ds.length + p) (by omega)
                rcases h4 with h4 | h4
                · have := hfl _ h4; omega
                · have h5 := hlisted _ h4 (by omega)
                  rw [hm.tl _ (Nat.le_refl _) (by omega)] at h5; cases h5
            subst hqp
            have hnfl : ∀ x, x < ds.length → x ∉ fl → listed.getD x true = true := by
              intro x hx hxf
              rcases hmo q hq x (by omega) with h4 | h4
              · exact absurd h4 hxf
              · exact hlisted x h4 (by omega)
            have hpre : ∀ t v, look ((ms q).env ++ env) t = some v → look env t = some v := by
              intro t v hl
              rw [look_append] at hl
              cases h5 : look (ms q).env t with
              | none => rw [h5, Option.none_or] at hl; exact hl
              | some v' =>
                rw [h5, Option.some_or] at hl
                injection hl with hl; subst hl
                rcases Nat.eq_zero_or_pos q with h0 | h0
                · subst h0
                  rcases he0 t _ h5 with ⟨x, hx1, hx2, g2⟩ | ⟨g1, g2⟩
                  · rw [hm.vals x t hx2 (hnfl x (List.getElem?_eq_some_iff.1 hx2).1 hx1), g2]
                  · exact hm.zero rfl t _ g1 g2
                · exact hm.pos h0 t _ h5
            refine wpOp_of_WL (st := ⟨(ms q).env ++ env, (ms q).objs⟩) ho (hM q o hq ho env) (hr.env hpre) fun a' w' hr' => ih (q + 1) _ ((ms (q + 1)).env ++ env) a' w' (by omega) ?_ hr'
            refine ⟨by simp [hm.size], hm.closed.set ho hdep, hq, fun x hx1 hx2 => ?_, fun j hj => ?_, fun _ x hx1 hx2 => ?_, fun x d hx1 hx2 => ?_, fun t v ht1 ht2 hl => ?_, fun h => by omega, fun _ t v hl => ?_⟩
            · rw [getD_set, if_neg (by omega)]; exact hm.tl x (by omega) hx2
            · rw [getD_set]; split
              · rfl
              · rename_i hne
                refine hm.ml j ?_
                rcases Nat.lt_or_ge j q with h | h
                · exact h
                · exact absurd ⟨by omega, by rw [hm.size]; omega⟩ hne
            · rw [getD_set]; split
              · rfl
              · exact hnfl x hx1 hx2
            · have hxl := (List.getElem?_eq_some_iff.1 hx1).1
              rw [getD_set, if_neg (by omega)] at hx2
              rw [look_append]
              cases h5 : look (ms (q + 1)).env d with
              | some v => rw [Option.some_or, (hms (q + 1) hq d v h5).1 (List.mem_of_getElem? hx1)]
              | none => rw [Option.none_or]; exact hm.vals x d hx1 hx2
            · rw [look_append]
              cases h5 : look (ms (q + 1)).env t with
              | some v' =>
                have := (hms (q + 1) hq t v' h5).2.1 ht1 ht2
                rw [hl] at this
                rw [Option.some_or, this]
              | none => rw [Option.none_or]; exact hm.rest t v ht1 ht2 hl
            · rw [look_append, hl, Option.some_or]
  intro a w hr
  refine wp_region_any hmix (main ops.size 0 _ env0 a _ ?_ ⟨by simp, ?_, Nat.zero_le _, fun j h1 h2 => by simp [Array.getD, h2], fun j h => absurd h (Nat.not_lt_zero _), fun h => absurd h (Nat.lt_irrefl _), fun i d h1 h2 => ?_, fun t v _ _ h => h, fun _ t v _ h => h, fun h => absurd h (Nat.lt_irrefl _)⟩ (by rw [hm0]; exact hr.drew))
  · rw [List.filter_eq_self.2, List.length_range]
    intro j hj
    rw [List.mem_range] at hj
    simp [Array.getD, hj]
  · intro i o ho hl
    have := (Array.getElem?_eq_some_iff.1 ho).1
    simp [Array.getD, this] at hl
  · have := (List.getElem?_eq_some_iff.1 h1).1
    have hlt : i < ops.size := by omega
    simp [Array.getD, hlt] at h2

/-! ### the walk -/
def MidV (C : Ctx) (ops : Array Oper) (ds : List Nat) (env0 : List (Nat × AV)) (objs0 : List AObj) (K : List (Nat × AV) → Prop) : List (Nat × Oper) → List (Nat × AV) → Prop
  | [], acc => K acc
  | (d, o) :: r, acc => ∃ c, DrawStep C ops o (sel acc (depT ops o) ++ clean ds env0) objs0 c ∧ MidV C ops ds env0 objs0 K r ((d, c) :: acc)
def MidM (C : Ctx) (ops : Array Oper) (K : St → List St → Prop) : List Oper → St → List St → Prop
  | [], s, l => K s l
  | o :: r, s, l => ∃ s', MidStep C ops o s s' ∧ (s'.env = s.env ∨ ∃ d c, o.dst = some d ∧ s'.env = (d, c) :: s.env) ∧ MidM C ops K r s' (l ++ [s])
def MidF (C : Ctx) (ops : Array Oper) (ds : List Nat) (env0 : List (Nat × AV)) (l : List St) (K : List (Nat × AV) → Prop) : List (Nat × Oper) → List (Nat × AV) → Prop
  | [], acc => K acc
  | (d, o) :: r, acc => ∃ c, (∀ s ∈ l, DrawStep C ops o (sel acc (depT ops o) ++ clean ds env0) s.objs c) ∧ MidF C ops ds env0 l K r ((d, c) :: acc)

/-- each waits for none that comes later -/
def laterOK (ops : Array Oper) : List (Nat × Oper) → Bool
  | [] => true
  | (d, o) :: r => (depT ops o).all (fun t => !((d :: r.map (·.1)).contains t)) && !(r.map (·.1)).contains d && laterOK ops r

theorem sel_cons {acc : List (Nat × AV)} {d : Nat} {c : AV} {ts : List Nat} (h : d ∉ ts) : sel ((d, c) :: acc) ts = sel acc ts := by
  simp only [sel]
  rw [if_neg (by simpa using h)]

/-- what was found stays found -/
def Ext1 (L : List (Nat × Oper)) (acc acc' : List (Nat × AV)) : Prop :=
  (∀ ts, (∀ t ∈ ts, t ∉ L.map (·.1)) → sel acc' ts = sel acc ts) ∧ (∀ t v, t ∉ L.map (·.1) → (look acc' t = some v ↔ look acc t = some v)) ∧ (∀ t v, look acc' t = some v → t ∈ L.map (·.1) ∨ look acc t = some v)

theorem Ext1.cons {d : Nat} {o : Oper} {c : AV} {r : List (Nat × Oper)} {acc acc' : List (Nat × AV)} (h : Ext1 r ((d, c) :: acc) acc') (hd : d ∉ r.map (·.1)) : Ext1 ((d, o) :: r) acc acc' ∧ look acc' d = some c := by
  obtain ⟨h1, h2, h3⟩ := h
  refine ⟨⟨fun ts ht => ?_, fun t v ht => ?_, fun t v hl => ?_⟩, (h2 d c hd).2 (by simp [look])⟩
  · rw [h1 ts fun t hm hin => ht t hm (by simp [hin]), sel_cons fun hm => ht d hm (by simp)]
  · simp only [List.map_cons, List.mem_cons, not_or] at ht
    rw [h2 t v ht.2]
    simp only [look]
    rw [if_neg (by simpa using fun e : d = t => ht.1 e.symm)]
  · rcases h3 t v hl with h | h
    · exact .inl (by simp [h])
    · simp only [look] at h
      split at h
      · rename_i he
        exact .inl (by simp at he; simp [he])
      · exact .inr h

theorem MidV.out {C : Ctx} {ops : Array Oper} {ds : List Nat} {env0 : List (Nat × AV)} {objs0 : List AObj} {K : List (Nat × AV) → Prop} : ∀ {L : List (Nat × Oper)} {acc : List (Nat × AV)}, MidV C ops ds env0 objs0 K L acc → laterOK ops L = true →
    ∃ acc', K acc' ∧ Ext1 L acc acc' ∧ ∀ d o, (d, o) ∈ L → ∃ c, look acc' d = some c ∧ DrawStep C ops o (sel acc' (depT ops o) ++ clean ds env0) objs0 c
  | [], acc, h, _ => ⟨acc, h, ⟨fun _ _ => rfl, fun _ _ _ => Iff.rfl, fun _ _ h => .inr h⟩, fun _ _ h => by cases h⟩
  | (d, o) :: r, acc, ⟨c, h1, h2⟩, hl => by
    simp only [laterOK, Bool.and_eq_true, List.all_eq_true, Bool.not_eq_true', List.contains_eq_mem, decide_eq_false_iff_not] at hl
    obtain ⟨⟨hl1, hl2⟩, hl3⟩ := hl
    obtain ⟨acc', k1, k2, k3⟩ := MidV.out h2 hl3
    obtain ⟨k4, k5⟩ := k2.cons (o := o) hl2
    refine ⟨acc', k1, k4, fun d' o' hm => ?_⟩
    rcases List.mem_cons.1 hm with h | h
    · injection h with e1 e2
      subst e1; subst e2
      refine ⟨c, k5, ?_⟩
      rw [k4.1 _ fun t ht => by simpa using hl1 t ht]
      exact h1
    · exact k3 d' o' h

theorem MidF.out {C : Ctx} {ops : Array Oper} {ds : List Nat} {env0 : List (Nat × AV)} {l : List St} {K : List (Nat × AV) → Prop} : ∀ {L : List (Nat × Oper)} {acc : List (Nat × AV)}, MidF C ops ds env0 l K L acc → laterOK ops L = true →
    ∃ acc', K acc' ∧ Ext1 L acc acc' ∧ ∀ d o, (d, o) ∈ L → ∃ c, look acc' d = some c ∧ ∀ s ∈ l, DrawStep C ops o (sel acc' (depT ops o) ++ clean ds env0) s.objs c
  | [], acc, h, _ => ⟨acc, h, ⟨fun _ _ => rfl, fun _ _ _ => Iff.rfl, fun _ _ h => .inr h⟩, fun _ _ h => by cases h⟩
  | (d, o) :: r, acc, ⟨c, h1, h2⟩, hl => by
    simp only [laterOK, Bool.and_eq_true, List.all_eq_true, Bool.not_eq_true', List.contains_eq_mem, decide_eq_false_iff_not] at hl
    obtain ⟨⟨hl1, hl2⟩, hl3⟩ := hl
    obtain ⟨acc', k1, k2, k3⟩ := MidF.out h2 hl3
    obtain ⟨k4, k5⟩ := k2.cons (o := o) hl2
    refine ⟨acc', k1, k4, fun d' o' hm => ?_⟩
    rcases List.mem_cons.1 hm with h | h
    · injection h with e1 e2
      subst e1; subst e2
      refine ⟨c, k5, ?_⟩
      rw [k4.1 _ fun t ht => by simpa using hl1 t ht]
      exact h1
    · exact k3 d' o' h

theorem MidM.out {C : Ctx} {ops : Array Oper} {K : St → List St → Prop} : ∀ {L : List Oper} {s : St} {l : List St}, MidM C ops K L s l →
    ∃ ms : Nat → St, ms 0 = s ∧ K (ms L.length) (l ++ (List.range L.length).map ms) ∧ ∀ j o, L[j]? = some o → MidStep C ops o (ms j) (ms (j + 1)) ∧ ((ms (j + 1)).env = (ms j).env ∨ ∃ d c, o.dst = some d ∧ (ms (j + 1)).env = (d, c) :: (ms j).env)
  | [], s, l, h => ⟨fun _ => s, rfl, by simp only [List.length_nil, List.range_zero, List.map_nil, List.append_nil]; exact h, fun j o h => by simp at h⟩
  | o :: r, s, l, ⟨s', h1, h2, h3⟩ => by
    obtain ⟨ms, k1, k2, k3⟩ := MidM.out h3
    refine ⟨fun j => match j with | 0 => s | j + 1 => ms j, rfl, ?_, fun j o' hj => ?_⟩
    · simp only [List.length_cons]
      rw [List.range_succ_eq_map, List.map_cons, List.map_map]
      simpa [List.append_assoc, Function.comp_def] using k2
    · cases j with
      | zero => simp at hj; subst hj; simp only [k1]; exact ⟨h1, h2⟩
      | succ j => exact k3 j o' (by simpa using hj)

def pairs (ops : Array Oper) (ds : List Nat) (is : List Nat) : List (Nat × Oper) := is.filterMap fun i => match ds[i]?, ops[i]? with | some d, some o => some (d, o) | _, _ => none

theorem W.middle {C : Ctx} {id : Nat} {ops : Array Oper} {env0 : List (Nat × AV)} {objs0 : List AObj} {Q : Exit → St → Prop} (hmix : C.P.follows .mixedOrders = true) (ds fl nf : List Nat) (mN : Nat) (hchk : midOK ops ds fl mN = true)
    (hcov : (List.range ds.length).all (fun i => nf.contains i != fl.contains i) = true) (hnf : nf.all (fun i => decide (i < ds.length)) = true) (hlat : laterOK ops (pairs ops ds nf ++ pairs ops ds fl) = true) (hlv : laterOK ops (pairs ops ds nf) = true) (hlf : laterOK ops (pairs ops ds fl) = true)
    (h : MidV C ops ds env0 objs0 (fun acc => MidM C ops (fun s l => MidF C ops (ds ++ dstsOf ops ds.length mN) env0 (l ++ [s]) (fun acc' => WL C ops (ops.toList.drop (ds.length + mN)) ⟨acc' ++ s.env, s.objs⟩ Q) (pairs ops ds fl) acc)
      ((ops.toList.drop ds.length).take mN) ⟨acc ++ clean ds env0, objs0⟩ []) (pairs ops ds nf) []) : W C (.region id ops true) ⟨env0, objs0⟩ Q := by
  have hchk0 := hchk
  simp only [midOK, Bool.and_eq_true, decide_eq_true_eq, List.all_eq_true, List.mem_range, Bool.or_eq_true, List.contains_iff_mem] at hchk0
  obtain ⟨⟨⟨⟨⟨⟨⟨⟨hnd, hle⟩, hds⟩, hbk⟩, hmo⟩, hta⟩, hmd⟩, hfl⟩, hnf2⟩ := hchk0
  simp only [List.all_eq_true, List.mem_range, decide_eq_true_eq] at hcov hnf
  obtain ⟨acc, hM, hE1, hV⟩ := h.out hlv
  obtain ⟨ms, m0, hK, hMs⟩ := hM.out
  obtain ⟨acc', hT, hE2, hF⟩ := hK.out hlf
  have hlen : ((ops.toList.drop ds.length).take mN).length = mN := by simp; omega
  rw [hlen] at hT hF
  have hpair : ∀ (is : List Nat) (d : Nat) (o : Oper), (d, o) ∈ pairs ops ds is ↔ ∃ i ∈ is, ds[i]? = some d ∧ ops[i]? = some o := by
    intro is d o
    simp only [pairs, List.mem_filterMap]
    constructor
    · rintro ⟨i, hi, h⟩
      refine ⟨i, hi, ?_⟩
      split at h
      · rename_i d' o' h1 h2
        injection h with h; injection h with e1 e2
        subst e1; subst e2
        exact ⟨h1, h2⟩
      · cases h
    · rintro ⟨i, hi, h1, h2⟩
      exact ⟨i, hi, by rw [h1, h2]⟩
  have hkey : ∀ (is : List Nat) (d : Nat), d ∈ (pairs ops ds is).map (·.1) → ∃ i ∈ is, ds[i]? = some d := by
    intro is d hd
    obtain ⟨⟨d', o⟩, h1, rfl⟩ := List.mem_map.1 hd
    obtain ⟨i, hi, h2, _⟩ := (hpair is d' o).1 h1
    exact ⟨i, hi, h2⟩
  have hnot : ∀ (i d : Nat), i ∉ fl → ds[i]? = some d → d ∉ (pairs ops ds fl).map (·.1) := by
    intro i d hi hd hin
    obtain ⟨i', hi', hd'⟩ := hkey fl d hin
    rw [nodup_get hnd hd hd'] at hi
    exact hi hi'
  have hin : ∀ i, i < ds.length → i ∉ fl → i ∈ nf := by
    intro i hi hf
    have := hcov i hi
    simpa [hf] using this
  have hnin : ∀ i, i ∈ nf → i ∉ fl := by
    intro i hi hf
    have := hcov i (hnf i hi)
    simp [hi, hf] at this
  have hop : ∀ (i d : Nat), ds[i]? = some d → ∃ o, ops[i]? = some o := by
    intro i d hd
    have hlt := (List.getElem?_eq_some_iff.1 hd).1
    exact ⟨ops[i], Array.getElem?_eq_getElem (by omega)⟩
  have hsplit : ∀ (L1 L2 : List (Nat × Oper)), laterOK ops (L1 ++ L2) = true → ∀ d o, (d, o) ∈ L1 → ∀ t ∈ depT ops o, t ∉ L2.map (·.1) := by
    intro L1
    induction L1 with
    | nil => intro L2 _ d o h; cases h
    | cons p r ih =>
      intro L2 hl d o hm t ht
      obtain ⟨d0, o0⟩ := p
      simp only [List.cons_append, laterOK, Bool.and_eq_true, List.all_eq_true, Bool.not_eq_true', List.contains_eq_mem, decide_eq_false_iff_not] at hl
      rcases List.mem_cons.1 hm with h | h
      · injection h with e1 e2
        subst e1; subst e2
        have := hl.1.1 t ht
        simp only [List.map_append, List.mem_cons, List.mem_append, not_or] at this
        exact this.2.2
      · exact ih L2 hl.2 d o h t ht
  refine W.mid hmix ds fl mN acc' ms hchk ?_ ?_ (by rw [m0]) ?_ ?_ ?_ ?_ ?_ (by simpa using hT)
  · intro d hd
    obtain ⟨i, hi⟩ := List.getElem?_of_mem hd
    obtain ⟨o, ho⟩ := hop i d hi
    by_cases hf : i ∈ fl
    · obtain ⟨c, h1, _⟩ := hF d o ((hpair fl d o).2 ⟨i, hf, hi, ho⟩)
      exact ⟨c, h1⟩
    · obtain ⟨c, h1, _⟩ := hV d o ((hpair nf d o).2 ⟨i, hin i (List.getElem?_eq_some_iff.1 hi).1 hf, hi, ho⟩)
      exact ⟨c, (hE2.2.1 d c (hnot i d hf hi)).2 h1⟩
  · intro t v hl
    rcases hE2.2.2 t v hl with h | h
    · obtain ⟨i, _, hi⟩ := hkey fl t h; exact List.mem_of_getElem? hi
    · rcases hE1.2.2 t v h with h | h
      · obtain ⟨i, _, hi⟩ := hkey nf t h; exact List.mem_of_getElem? hi
      · cases h
  · intro t v hl
    rw [m0] at hl
    simp only at hl
    rw [look_append] at hl
    cases ha : look acc t with
    | some v' =>
      rw [ha, Option.some_or] at hl
      injection hl with hl; subst hl
      rcases hE1.2.2 t _ ha with h | h
      · obtain ⟨i, hi1, hi2⟩ := hkey nf t h
        exact .inl ⟨i, hnin i hi1, hi2, (hE2.2.1 t _ (hnot i t (hnin i hi1) hi2)).2 ha⟩
      · cases h
    | none =>
      rw [ha, Option.none_or] at hl
      exact .inr (look_clean hl)
  · intro i o d c hf ho hd hc
    have hm := (hpair nf d o).2 ⟨i, hin i (List.getElem?_eq_some_iff.1 hd).1 hf, hd, ho⟩
    obtain ⟨c', h1, h2⟩ := hV d o hm
    have h3 := (hE2.2.1 d c' (hnot i d hf hd)).2 h1
    rw [hc] at h3; injection h3 with h3; subst h3
    rw [hE2.1 _ (hsplit _ _ hlat d o hm)]
    exact h2
  · intro j o hj ho
    refine (hMs j o ?_).1
    rw [List.getElem?_take, if_pos hj, List.getElem?_drop, Array.getElem?_toList]; exact ho
  · intro j hj
    have hlt : ds.length + j < ops.size := by omega
    obtain ⟨_, h⟩ := hMs j ops[ds.length + j] (by rw [List.getElem?_take, if_pos hj, List.getElem?_drop, Array.getElem?_toList]; exact Array.getElem?_eq_getElem hlt)
    rcases h with h | ⟨d, c, h1, h2⟩
    · exact .inl h
    · refine .inr ⟨d, c, ?_, h2⟩
      simp only [dstsOf, List.mem_filterMap]
      refine ⟨ops[ds.length + j], ?_, h1⟩
      refine List.mem_of_getElem? (i := j) ?_
      rw [List.getElem?_take, if_pos hj, List.getElem?_drop, Array.getElem?_toList]; exact Array.getElem?_eq_getElem hlt
  · intro j i o d c hj hf ho hd hc
    obtain ⟨c', h1, h2⟩ := hF d o ((hpair fl d o).2 ⟨i, hf, hd, ho⟩)
    rw [hc] at h1; injection h1 with h1; subst h1
    refine h2 (ms j) ?_
    rcases Nat.lt_or_ge j mN with h | h
    · simp only [List.nil_append, List.mem_append, List.mem_map, List.mem_range]
      exact .inl ⟨j, h, rfl⟩
    · have : j = mN := by omega
      subst this; simp

theorem MidV.step {C : Ctx} {ops : Array Oper} {ds : List Nat} {env0 : List (Nat × AV)} {objs0 : List AObj} {K : List (Nat × AV) → Prop} {d : Nat} {o : Oper} {r : List (Nat × Oper)} {acc : List (Nat × AV)} {c : AV}
    (h : DrawStep C ops o (sel acc (depT ops o) ++ clean ds env0) objs0 c) (h' : MidV C ops ds env0 objs0 K r ((d, c) :: acc)) : MidV C ops ds env0 objs0 K ((d, o) :: r) acc := ⟨c, h, h'⟩
theorem MidV.done {C : Ctx} {ops : Array Oper} {ds : List Nat} {env0 : List (Nat × AV)} {objs0 : List AObj} {K : List (Nat × AV) → Prop} {acc : List (Nat × AV)} (h : K acc) : MidV C ops ds env0 objs0 K [] acc := h
theorem MidM.val {C : Ctx} {ops : Array Oper} {K : St → List St → Prop} {o : Oper} {r : List Oper} {env : List (Nat × AV)} {objs objs' : List AObj} {l : List St} {d : Nat} {c : AV} (hd : o.dst = some d)
    (h : ∀ more, WL C ops [o] ⟨env ++ more, objs⟩ (fun e s => e = .normal ∧ s = ⟨(d, c) :: (env ++ more), objs'⟩)) (h' : MidM C ops K r ⟨(d, c) :: env, objs'⟩ (l ++ [⟨env, objs⟩])) : MidM C ops K (o :: r) ⟨env, objs⟩ l :=
  ⟨⟨(d, c) :: env, objs'⟩, h, .inr ⟨d, c, hd, rfl⟩, h'⟩
theorem MidM.eff {C : Ctx} {ops : Array Oper} {K : St → List St → Prop} {o : Oper} {r : List Oper} {env : List (Nat × AV)} {objs objs' : List AObj} {l : List St} (hd : o.dst = none)
    (h : ∀ more, WL C ops [o] ⟨env ++ more, objs⟩ (fun e s => e = .normal ∧ s = ⟨env ++ more, objs'⟩)) (h' : MidM C ops K r ⟨env, objs'⟩ (l ++ [⟨env, objs⟩])) : MidM C ops K (o :: r) ⟨env, objs⟩ l :=
  ⟨⟨env, objs'⟩, h, .inl rfl, h'⟩
theorem MidM.done {C : Ctx} {ops : Array Oper} {K : St → List St → Prop} {s : St} {l : List St} (h : K s l) : MidM C ops K [] s l := h
def AllS (P : St → Prop) : List St → Prop
  | [] => True
  | s :: r => P s ∧ AllS P r
theorem AllS.mem {P : St → Prop} : ∀ {l : List St}, AllS P l → ∀ s ∈ l, P s
  | s :: r, ⟨h, h'⟩, x, hx => by
    rcases List.mem_cons.1 hx with rfl | hx
    · exact h
    · exact AllS.mem h' x hx
theorem MidF.step {C : Ctx} {ops : Array Oper} {ds : List Nat} {env0 : List (Nat × AV)} {l : List St} {K : List (Nat × AV) → Prop} {d : Nat} {o : Oper} {r : List (Nat × Oper)} {acc : List (Nat × AV)} {c : AV}
    (h : AllS (fun s => DrawStep C ops o (sel acc (depT ops o) ++ clean ds env0) s.objs c) l) (h' : MidF C ops ds env0 l K r ((d, c) :: acc)) : MidF C ops ds env0 l K ((d, o) :: r) acc := ⟨c, h.mem, h'⟩
theorem MidF.done {C : Ctx} {ops : Array Oper} {ds : List Nat} {env0 : List (Nat × AV)} {l : List St} {K : List (Nat × AV) → Prop} {acc : List (Nat × AV)} (h : K acc) : MidF C ops ds env0 l K [] acc := h

end Go.Lens
