/- Lens, part 15: regions that draw their order, in which some values may come behind a store. nat: what its functions do. nat: products. strings: CutPrefix, Trim; whole: Of, Sign. strings: Trim of plain signs. strings: makeASCIISet, Trim of plain signs. -/
import Derived.Test.YtejpblopbdgkaaaGreatDoorKDL2
import Derived.Test.YtejpblopbdgkaaaGreatDoorProg

set_option linter.unusedVariables false
set_option linter.unusedSimpArgs false
namespace Go.Lens
open Go Go.RowKit
def sel (acc : List (Nat × AV)) (ts : List Nat) : List (Nat × AV) :=
  match acc with
  | [] => []
  | p :: r => if ts.contains p.1 then p :: sel r ts else sel r ts
theorem look_sel {acc : List (Nat × AV)} {ts : List Nat} {t : Nat} {v : AV} (h : look (sel acc ts) t = some v) : t ∈ ts ∧ look acc t = some v := by
 induction acc with
 | nil => cases h
 | cons p r ih =>
  obtain ⟨k, c⟩ := p
  simp only [sel] at h
  split at h
  ·rename_i hk
   simp only [look] at h ⊢
   split at h
   ·rename_i he
    have : k = t := by simpa using he
    subst this
    rw [if_pos (by simp)]
    exact ⟨by simpa using hk, h⟩
   ·rename_i he
    rw [if_neg he]; exact ih h
  ·rename_i hk
   obtain ⟨h1, h2⟩ := ih h
   have : k ≠ t := fun e => hk (by subst e; simpa using h1)
   refine ⟨h1, ?_⟩
   simp only [look]
   rw [if_neg (by simpa using this)]; exact h2
/-- the temporaries that an operation waits for -/
def depT (ops : Array Oper) (o : Oper) : List Nat := (depsOf o).filterMap fun j => (ops[j]?).bind (·.dst)
def dstsOf (ops : Array Oper) (k m : Nat) : List Nat := ((ops.toList.drop k).take m).filterMap (·.dst)
def midOK (ops : Array Oper) (ds fl : List Nat) (mN : Nat) : Bool :=
  decide ds.Nodup && decide (ds.length + mN ≤ ops.size) && (List.range ds.length).all (fun i => (ops[i]?).any fun o => o.dst == ds[i]?) &&
  ((List.range ops.size).all fun i => (ops[i]?).any fun o => (depsOf o).all fun j => decide (j < i)) &&
  ((List.range mN).all fun j => (List.range (ds.length + j)).all fun i => fl.contains i || behind ops 24 (ds.length + j) i) &&
  ((List.range' (ds.length + mN) (ops.size - (ds.length + mN))).all fun i => (List.range i).all fun j => behind ops 24 i j) &&
  ((dstsOf ops ds.length mN).all fun t => !ds.contains t) && fl.all (fun i => decide (i < ds.length)) &&
  ((List.range ds.length).all fun i => fl.contains i || (ops[i]?).any fun o => (depsOf o).all fun j => !fl.contains j)
theorem ready_ne {ops : Array Oper} {listed : Array Bool} (hsz : listed.size = ops.size) (hback : ∀ (i : Nat) (o : Oper), ops[i]? = some o → ∀ e ∈ o.after.toList, Region.binds .any e = true → e.on < i) {x : Nat} (hx : x < ops.size) (hl : listed.getD x true = false) :
  Region.ready .any ops listed ≠ [] := by
 intro h0
 obtain ⟨m, ⟨hm1, hm2⟩, hmin⟩ := least (p := fun j => j < ops.size ∧ listed.getD j true = false) ⟨x, hx, hl⟩
 have : m ∈ Region.ready .any ops listed := by
  unfold Region.ready
  rw [List.mem_filter, List.mem_range]
  refine ⟨hm1, ?_⟩
  simp only [hm2, Bool.not_false, Bool.true_and, Array.getElem?_eq_getElem hm1, Option.map_some, Option.getD_some, Array.all_eq_true']
  intro e he
  by_cases hb : Region.binds .any e = true
  ·simp only [hb, Bool.not_true, Bool.false_or]
   have hbk := hback m _ (Array.getElem?_eq_getElem hm1) e (by simpa using he) hb
   have h5 : listed.getD e.on true = true := by
    cases h6 : listed.getD e.on true with
    | true => rfl
    | false => have := hmin e.on ⟨by omega, h6⟩; omega
   have : e.on < listed.size := by rw [hsz]; omega
   simpa [Array.getD, this] using h5
  ·simp [hb]
 rw [h0] at this; cases this
structure Mid (ops : Array Oper) (ds fl : List Nat) (mN : Nat) (acc env0 : List (Nat × AV)) (ms : Nat → St) (p : Nat) (env : List (Nat × AV)) (listed : Array Bool) : Prop where
  size : listed.size = ops.size
  closed : Closed ops listed
  pl : p ≤ mN
  tl : ∀ i, ds.length + p ≤ i → i < ops.size → listed.getD i true = false
  ml : ∀ j, j < p → listed.getD (ds.length + j) true = true
  all : 0 < p → ∀ i, i < ds.length → i ∉ fl → listed.getD i true = true
  vals : ∀ i d, ds[i]? = some d → listed.getD i true = true → look env d = look acc d
  rest : ∀ t v, t ∉ ds → t ∉ dstsOf ops ds.length mN → look env0 t = some v → look env t = some v
  zero : p = 0 → ∀ t v, t ∉ ds → look env0 t = some v → look env t = some v
  pos : 0 < p → ∀ t v, look (ms p).env t = some v → look env t = some v
/-- One of the operations in the middle. -/
def MidStep (C : Ctx) (ops : Array Oper) (o : Oper) (s s' : St) : Prop :=
  ∀ more, WL C ops [o] ⟨s.env ++ more, s.objs⟩ (fun e r => e = .normal ∧ r = ⟨s'.env ++ more, s'.objs⟩)
theorem getD_sw {l : Array Bool} {i : Nat} (h : l.getD i false = true) (hi : i < l.size) : l.getD i true = true := by simpa [Array.getD, hi] using h
theorem unlisted_set {listed : Array Bool} {n i : Nat} (hi : i < n) (hsz : listed.size = n) (h2 : listed.getD i true = false) :
  ((List.range n).filter fun j => !listed.getD j true).length = ((List.range n).filter fun j => !(listed.setIfInBounds i true).getD j true).length + 1 := by
 have aux : ∀ (l : List Nat), l.Nodup → i ∈ l → (l.filter fun j => !listed.getD j true).length = (l.filter fun j => !(listed.setIfInBounds i true).getD j true).length + 1 := by
  intro l
  induction l with
  | nil => intro _ h; cases h
  | cons x l ih2 =>
   intro hn hin
   rw [List.nodup_cons] at hn
   by_cases hx : x = i
   ·subst hx
    have hsz' : x < listed.size := by omega
    have hsame : (l.filter fun j => !listed.getD j true) = (l.filter fun j => !(listed.setIfInBounds x true).getD j true) := by
     apply List.filter_congr
     intro j hj
     rw [getD_set, if_neg]
     rintro ⟨rfl, _⟩
     exact hn.1 hj
    rw [List.filter_cons_of_pos (by simp [h2]), List.filter_cons_of_neg (by rw [getD_set]; simp [hsz']), List.length_cons, hsame]
   ·have hin' : i ∈ l := by
     rcases List.mem_cons.1 hin with h | h
     ·exact absurd h.symm hx
     ·exact h
    have hg : (listed.setIfInBounds i true).getD x true = listed.getD x true := by
     rw [getD_set, if_neg]
     rintro ⟨rfl, _⟩
     exact hx rfl
    have := ih2 hn.2 hin'
    by_cases hc : listed.getD x true = true
    ·rw [List.filter_cons_of_neg (by simp [hc]), List.filter_cons_of_neg (by rw [hg]; simp [hc])]; exact this
    ·rw [List.filter_cons_of_pos (by simpa using hc), List.filter_cons_of_pos (by rw [hg]; simpa using hc), List.length_cons, List.length_cons, this]
 exact aux (List.range n) List.nodup_range (by rw [List.mem_range]; exact hi)
theorem W.mid {C : Ctx} {id : Nat} {ops : Array Oper} {env0 : List (Nat × AV)} {objs0 : List AObj} {Q : Exit → St → Prop} (hmix : C.P.follows .mixedOrders = true) (ds fl : List Nat) (mN : Nat) (acc : List (Nat × AV)) (ms : Nat → St) (hchk : midOK ops ds fl mN = true)
  (hacc : ∀ d ∈ ds, ∃ c, look acc d = some c) (hdom : ∀ t v, look acc t = some v → t ∈ ds) (hm0 : (ms 0).objs = objs0) (he0 : ∀ t v, look (ms 0).env t = some v → (∃ i, i ∉ fl ∧ ds[i]? = some t ∧ look acc t = some v) ∨ (t ∉ ds ∧ look env0 t = some v))
  (hV : ∀ (i : Nat) (o : Oper) (d : Nat) (c : AV), i ∉ fl → ops[i]? = some o → ds[i]? = some d → look acc d = some c → DrawStep C ops o (sel acc (depT ops o) ++ clean ds env0) objs0 c)
  (hM : ∀ (j : Nat) (o : Oper), j < mN → ops[ds.length + j]? = some o → MidStep C ops o (ms j) (ms (j + 1)))
  (hMe : ∀ j, j < mN → (ms (j + 1)).env = (ms j).env ∨ ∃ d c, d ∈ dstsOf ops ds.length mN ∧ (ms (j + 1)).env = (d, c) :: (ms j).env)
  (hF : ∀ (j i : Nat) (o : Oper) (d : Nat) (c : AV), j ≤ mN → i ∈ fl → ops[i]? = some o → ds[i]? = some d → look acc d = some c → DrawStep C ops o (sel acc (depT ops o) ++ clean (ds ++ dstsOf ops ds.length mN) env0) (ms j).objs c)
  (hT : WL C ops (ops.toList.drop (ds.length + mN)) ⟨acc ++ (ms mN).env, (ms mN).objs⟩ Q) : W C (.region id ops true) ⟨env0, objs0⟩ Q := by
 simp only [midOK, Bool.and_eq_true, decide_eq_true_eq, List.all_eq_true, List.mem_range, Bool.or_eq_true, List.contains_iff_mem] at hchk
 obtain ⟨⟨⟨⟨⟨⟨⟨⟨hnd, hle⟩, hds⟩, hbk⟩, hmo⟩, hta⟩, hmd⟩, hfl⟩, hnf2⟩ := hchk
 have hback : ∀ (i : Nat) (o : Oper), ops[i]? = some o → ∀ e ∈ o.after.toList, Region.binds .any e = true → e.on < i := by
  intro i o hi e he hb
  have h2 := hbk i (Array.getElem?_eq_some_iff.1 hi).1
  rw [hi] at h2
  simp only [Option.any_some, List.all_eq_true, decide_eq_true_eq] at h2
  exact h2 e.on (by simp only [depsOf, List.mem_map, List.mem_filter]; exact ⟨e, ⟨he, hb⟩, rfl⟩)
 have htail : ∀ i, i < ops.size → ds.length + mN ≤ i → ∀ j, j < i → behind ops 24 i j = true := fun i h1 h2 j h3 => hta i (by rw [List.mem_range'_1]; omega) j h3
 have hdst : ∀ (i : Nat) (o : Oper) (d : Nat), ops[i]? = some o → ds[i]? = some d → o.dst = some d := by
  intro i o d hi hd
  have hlt := (List.getElem?_eq_some_iff.1 hd).1
  have h2 := hds i hlt
  rw [hi, hd] at h2
  simpa using h2
 have hdisj : ∀ t, t ∈ dstsOf ops ds.length mN → t ∉ ds := fun t ht h => by have := hmd t ht; simp [h] at this
 have hms : ∀ j, j ≤ mN → ∀ t v, look (ms j).env t = some v → (t ∈ ds → look acc t = some v) ∧ (t ∉ ds → t ∉ dstsOf ops ds.length mN → look env0 t = some v) ∧ (t ∈ ds → ∀ i, ds[i]? = some t → i ∉ fl) := by
  intro j
  induction j with
  | zero =>
   intro _ t v h
   rcases he0 t v h with ⟨i, hi1, hi2, h2⟩ | ⟨h1, h2⟩
   ·refine ⟨fun _ => h2, fun h => absurd (List.mem_of_getElem? hi2) h, fun _ i' hi' => ?_⟩
    rw [nodup_get hnd hi' hi2]; exact hi1
   ·exact ⟨fun h => absurd h h1, fun _ _ => h2, fun h => absurd h h1⟩
  | succ j ih =>
   intro hj t v h
   rcases hMe j (by omega) with he | ⟨d, c, hd, he⟩
   ·rw [he] at h; exact ih (by omega) t v h
   ·rw [he] at h
    simp only [look] at h
    split at h
    ·rename_i hk
     have : d = t := by simpa using hk
     subst this
     exact ⟨fun h => absurd h (hdisj d hd), fun _ h => absurd hd h, fun h => absurd h (hdisj d hd)⟩
    ·exact ih (by omega) t v h
 have hall : ∀ (listed : Array Bool) (env : List (Nat × AV)) (a : Act) (w : World), Mid ops ds fl mN acc env0 ms mN env listed → Rel C ⟨env, (ms mN).objs⟩ a w → (∀ i, i < ds.length → listed.getD i true = true) →
   wpAny C.P .any ops (Post C Q) (ops.size - (ds.length + mN)) listed a w := by
  intro listed env a w hm hr hv
  refine W.draw_tail hback htail _ (ds.length + mN) listed a w (Nat.le_refl _) hle rfl hm.size (fun j hj => ⟨fun h => ?_, fun h => ?_⟩) (hT a w (hr.env fun t v hl => ?_))
  ·rcases Nat.lt_or_ge j (ds.length + mN) with h1 | h1
   ·exact h1
   ·rw [hm.tl j h1 hj] at h; cases h
  ·rcases Nat.lt_or_ge j ds.length with h1 | h1
   ·exact hv j h1
   ·have := hm.ml (j - ds.length) (by omega)
    rwa [show ds.length + (j - ds.length) = j by omega] at this
  ·rw [look_append] at hl
   cases ha : look acc t with
   | some v' =>
    rw [ha, Option.some_or] at hl
    injection hl with hl; subst hl
    obtain ⟨i, hi⟩ := List.getElem?_of_mem (hdom t _ ha)
    rw [hm.vals i t hi (hv i (List.getElem?_eq_some_iff.1 hi).1), ha]
   | none =>
    rw [ha, Option.none_or] at hl
    obtain ⟨h1, h2, _⟩ := hms mN (Nat.le_refl _) t v hl
    by_cases hin : t ∈ ds
    ·rw [ha] at h1; cases h1 hin
    ·rcases Nat.eq_zero_or_pos mN with h0 | h0
     ·have : t ∉ dstsOf ops ds.length mN := by rw [h0]; simp [dstsOf]
      exact hm.zero h0 t v hin (h2 hin this)
     ·exact hm.pos h0 t v hl
 have hcount : ∀ (listed : Array Bool) (env : List (Nat × AV)), Mid ops ds fl mN acc env0 ms mN env listed → (∀ i, i < ds.length → listed.getD i true = true) → ((List.range ops.size).filter fun j => !listed.getD j true).length = ops.size - (ds.length + mN) := by
  intro listed env hm hv
  have h4 : List.range ops.size = List.range (ds.length + mN) ++ List.range' (ds.length + mN) (ops.size - (ds.length + mN)) := by
   rw [List.range_eq_range', List.range_eq_range', show ops.size = (ds.length + mN) + (ops.size - (ds.length + mN)) by omega]
   have := List.range'_append (s := 0) (m := ds.length + mN) (n := ops.size - (ds.length + mN)) (step := 1)
   simp at this
   rw [← this]; simp
  rw [h4, List.filter_append, List.filter_eq_nil_iff.2, List.nil_append, List.filter_eq_self.2]
  ·simp
  ·intro j hj
   rw [List.mem_range'_1] at hj
   simp [hm.tl j hj.1 (by omega)]
  ·intro j hj
   rw [List.mem_range] at hj
   rcases Nat.lt_or_ge j ds.length with h1 | h1
   ·simp [hv j h1]
   ·have := hm.ml (j - ds.length) (by omega)
    rw [show ds.length + (j - ds.length) = j by omega] at this
    simp [this]
 have main : ∀ (fuel p : Nat) (listed : Array Bool) (env : List (Nat × AV)) (a : Act) (w : World), fuel = ((List.range ops.size).filter fun j => !listed.getD j true).length → Mid ops ds fl mN acc env0 ms p env listed → Rel C ⟨env, (ms p).objs⟩ a w →
   wpAny C.P .any ops (Post C Q) fuel listed a w := by
  intro fuel
  induction fuel with
  | zero =>
   intro p listed env a w hf hm hr
   have hnone : ∀ j, j < ops.size → listed.getD j true = true := by
    intro j hj
    have h0 := List.eq_nil_of_length_eq_zero hf.symm
    cases h1 : listed.getD j true with
    | true => rfl
    | false =>
     have : j ∈ (List.range ops.size).filter fun j => !listed.getD j true := by
      rw [List.mem_filter, List.mem_range]; exact ⟨hj, by simp [h1]⟩
     rw [h0] at this; cases this
   have hp : p = mN := by
    have := hm.pl
    rcases Nat.lt_or_ge p mN with h | h
    ·have h1 := hnone (ds.length + p) (by omega)
     rw [hm.tl _ (Nat.le_refl _) (by omega)] at h1; cases h1
    ·omega
   subst hp
   have h1 := hall listed env a w hm hr (fun i hi => hnone i (by omega))
   rw [← hcount listed env hm (fun i hi => hnone i (by omega)), ← hf] at h1
   exact h1
  | succ fuel ih =>
   intro p listed env a w hf hm hr
   by_cases hend : p = mN ∧ ∀ i, i < ds.length → listed.getD i true = true
   ·obtain ⟨rfl, hv⟩ := hend
    have h1 := hall listed env a w hm hr hv
    rw [← hcount listed env hm hv, ← hf] at h1
    exact h1
   ·refine ⟨fun h0 => ?_, fun i hi => ?_⟩
    ·exfalso
     have hex : ∃ x, x < ops.size ∧ listed.getD x true = false := by
      have := hm.pl
      rcases Nat.lt_or_ge p mN with h | h
      ·exact ⟨ds.length + p, by omega, hm.tl _ (Nat.le_refl _) (by omega)⟩
      ·apply Classical.byContradiction
       intro hn
       refine hend ⟨by omega, fun i hi => ?_⟩
       cases h1 : listed.getD i true with
       | true => rfl
       | false => exact absurd ⟨i, by omega, h1⟩ hn
     obtain ⟨x, hx1, hx2⟩ := hex
     exact ready_ne hm.size hback hx1 hx2 h0
    ·obtain ⟨h1, h2, o, ho, h3⟩ := mem_ready hi
     have hdep : ∀ k ∈ depsOf o, listed.getD k false = true := by
      intro k hk
      simp only [depsOf, List.mem_map, List.mem_filter] at hk
      obtain ⟨e, ⟨he1, he2⟩, rfl⟩ := hk
      exact h3 e he1 he2
     have hlt : ∀ k ∈ depsOf o, k < i := by
      intro k hk
      simp only [depsOf, List.mem_map, List.mem_filter] at hk
      obtain ⟨e, ⟨he1, he2⟩, rfl⟩ := hk
      exact hback i o ho e he1 he2
     have hfew := unlisted_set h1 hm.size h2
     have hsel : i < ds.length → ∀ t v, look (sel acc (depT ops o)) t = some v → look env t = some v := by
      intro hik t v hl
      obtain ⟨g1, g2⟩ := look_sel hl
      simp only [depT, List.mem_filterMap] at g1
      obtain ⟨j, g3, g4⟩ := g1
      have hj := hlt j g3
      have hjd : j < ds.length := by omega
      cases hoj : ops[j]? with
      | none => rw [hoj] at g4; cases g4
      | some oj =>
       rw [hoj] at g4
       have := hdst j oj ds[j] hoj (List.getElem?_eq_getElem hjd)
       simp only [Option.bind_some] at g4
       rw [this] at g4
       injection g4 with g4
       rw [hm.vals j t (by rw [List.getElem?_eq_getElem hjd, g4]) (getD_sw (hdep j g3) (by rw [hm.size]; omega)), g2]
     rcases Nat.lt_or_ge i ds.length with hik | hik
     ·-- a value
      have hd : ds[i]? = some ds[i] := List.getElem?_eq_getElem hik
      obtain ⟨c, hc⟩ := hacc ds[i] (List.getElem_mem hik)
      have hod := hdst i o _ ho hd
      have hmem : ds[i] ∈ ds := List.getElem_mem hik
      have hnew : Mid ops ds fl mN acc env0 ms p ((ds[i], c) :: env) (listed.setIfInBounds i true) := by
       refine ⟨by simp [hm.size], hm.closed.set ho hdep, hm.pl, fun x hx1 hx2 => ?_, fun j hj => ?_, fun hp x hx1 hx2 => ?_, fun x d hx1 hx2 => ?_, fun t v ht1 ht2 hl => ?_, fun hp t v ht hl => ?_, fun hp t v hl => ?_⟩
       ·rw [getD_set, if_neg (by omega)]; exact hm.tl x hx1 hx2
       ·rw [getD_set]; split
        ·rfl
        ·exact hm.ml j hj
       ·rw [getD_set]; split
        ·rfl
        ·exact hm.all hp x hx1 hx2
       ·by_cases e : i = x
        ·subst e
         rw [hd] at hx1; injection hx1 with hx1; subst hx1
         simp [look, hc]
        ·rw [getD_set, if_neg (fun h => e h.1)] at hx2
         have hne : ds[i] ≠ d := fun h => e (nodup_get hnd hd (by rw [h]; exact hx1))
         simp only [look]
         rw [if_neg (by simpa using hne)]
         exact hm.vals x d hx1 hx2
       ·have hne : ds[i] ≠ t := fun h => ht1 (h ▸ hmem)
        simp only [look]
        rw [if_neg (by simpa using hne)]
        exact hm.rest t v ht1 ht2 hl
       ·have hne : ds[i] ≠ t := fun h => ht (h ▸ hmem)
        simp only [look]
        rw [if_neg (by simpa using hne)]
        exact hm.zero hp t v ht hl
       ·simp only [look]
        split
        ·rename_i he
         have he' : ds[i] = t := by simpa using he
         have := (hms p hm.pl t v hl).1 (he' ▸ hmem)
         rw [← he', hc] at this; exact this
        ·exact hm.pos hp t v hl
      have fin : ∀ (pre : List (Nat × AV)), (∀ t v, look (pre ++ env) t = some v → look env t = some v) → DrawStep C ops o pre (ms p).objs c → wpOp C.P ops (Post C Q) i (wpAny C.P .any ops (Post C Q) fuel (listed.setIfInBounds i true)) a w := by
       intro pre hpre hstep
       refine wpOp_of_WL (st := ⟨pre ++ env, (ms p).objs⟩) ho (hstep env) (hr.env hpre) fun a' w' hr' => ih p _ ((ds[i], c) :: env) a' w' (by omega) hnew ?_
       rw [hod] at hr'
       refine Rel.env (st := ⟨(ds[i], c) :: (pre ++ env), (ms p).objs⟩) hr' fun t v hl => ?_
       simp only [look] at hl ⊢
       split at hl
       ·rename_i he; rw [if_pos he]; exact hl
       ·rename_i he
        rw [if_neg he]
        cases h5 : look (pre ++ env) t with
        | some v' => have := hpre t v' h5; rw [hl] at this; exact this.symm
        | none => rw [look_append, hl] at h5; cases h6 : look pre t <;> rw [h6] at h5 <;> cases h5
      by_cases hif : i ∈ fl
      ·refine fin _ (fun t v hl => ?_) (hF p i o _ c hm.pl hif ho hd hc)
       rw [look_append, look_append] at hl
       cases h5 : look (sel acc (depT ops o)) t with
       | some v' => rw [h5] at hl; simp only [Option.some_or, Option.some.injEq] at hl; subst hl; exact hsel hik t _ h5
       | none =>
        rw [h5, Option.none_or] at hl
        cases h6 : look (clean (ds ++ dstsOf ops ds.length mN) env0) t with
        | some v' =>
         rw [h6] at hl; simp only [Option.some_or, Option.some.injEq] at hl; subst hl
         obtain ⟨h7, h8⟩ := look_clean h6
         rw [List.mem_append, not_or] at h7
         exact hm.rest t _ h7.1 h7.2 h8
        | none => rw [h6, Option.none_or] at hl; exact hl
      ·have hp0 : p = 0 := by
        rcases Nat.eq_zero_or_pos p with h | h
        ·exact h
        ·have := hm.all h i hik hif; rw [h2] at this; cases this
       subst hp0
       refine fin _ (fun t v hl => ?_) (by have := hV i o _ c hif ho hd hc; rw [hm0]; exact this)
       rw [look_append, look_append] at hl
       cases h5 : look (sel acc (depT ops o)) t with
       | some v' => rw [h5] at hl; simp only [Option.some_or, Option.some.injEq] at hl; subst hl; exact hsel hik t _ h5
       | none =>
        rw [h5, Option.none_or] at hl
        cases h6 : look (clean ds env0) t with
        | some v' =>
         rw [h6] at hl; simp only [Option.some_or, Option.some.injEq] at hl; subst hl
         obtain ⟨h7, h8⟩ := look_clean h6
         exact hm.zero rfl t _ h7 h8
        | none => rw [h6, Option.none_or] at hl; exact hl
     ·-- one of the middle
      have hlisted : ∀ j, behind ops 24 i j = true → j < ops.size → listed.getD j true = true := fun j hj hjs => getD_sw (hm.closed.behind 24 i o ho hdep hj) (by rw [hm.size]; exact hjs)
      have him : i < ds.length + mN := by
       rcases Nat.lt_or_ge i (ds.length + mN) with h | h
       ·exact h
       ·exfalso
        refine hend ⟨?_, fun x hx => hlisted x (htail i h1 h x (by omega)) (by omega)⟩
        have := hm.pl
        rcases Nat.lt_or_ge p mN with h4 | h4
        ·have h5 := hlisted (ds.length + p) (htail i h1 h _ (by omega)) (by omega)
         rw [hm.tl _ (Nat.le_refl _) (by omega)] at h5; cases h5
        ·omega
      obtain ⟨q, rfl⟩ := Nat.exists_eq_add_of_le hik
      have hq : q < mN := by omega
      have hqp : q = p := by
       rcases Nat.lt_trichotomy q p with h | h | h
       ·have := hm.ml q h; rw [h2] at this; cases this
       ·exact h
       ·have h4 := hmo q hq (ds.length + p) (by omega)
        rcases h4 with h4 | h4
        ·have := hfl _ h4; omega
        ·have h5 := hlisted _ h4 (by omega)
         rw [hm.tl _ (Nat.le_refl _) (by omega)] at h5; cases h5
      subst hqp
      have hnfl : ∀ x, x < ds.length → x ∉ fl → listed.getD x true = true := by
       intro x hx hxf
       rcases hmo q hq x (by omega) with h4 | h4
       ·exact absurd h4 hxf
       ·exact hlisted x h4 (by omega)
      have hpre : ∀ t v, look ((ms q).env ++ env) t = some v → look env t = some v := by
       intro t v hl
       rw [look_append] at hl
       cases h5 : look (ms q).env t with
       | none => rw [h5, Option.none_or] at hl; exact hl
       | some v' =>
        rw [h5, Option.some_or] at hl
        injection hl with hl; subst hl
        rcases Nat.eq_zero_or_pos q with h0 | h0
        ·subst h0
         rcases he0 t _ h5 with ⟨x, hx1, hx2, g2⟩ | ⟨g1, g2⟩
         ·rw [hm.vals x t hx2 (hnfl x (List.getElem?_eq_some_iff.1 hx2).1 hx1), g2]
         ·exact hm.zero rfl t _ g1 g2
        ·exact hm.pos h0 t _ h5
      refine wpOp_of_WL (st := ⟨(ms q).env ++ env, (ms q).objs⟩) ho (hM q o hq ho env) (hr.env hpre) fun a' w' hr' => ih (q + 1) _ ((ms (q + 1)).env ++ env) a' w' (by omega) ?_ hr'
      refine ⟨by simp [hm.size], hm.closed.set ho hdep, hq, fun x hx1 hx2 => ?_, fun j hj => ?_, fun _ x hx1 hx2 => ?_, fun x d hx1 hx2 => ?_, fun t v ht1 ht2 hl => ?_, fun h => by omega, fun _ t v hl => ?_⟩
      ·rw [getD_set, if_neg (by omega)]; exact hm.tl x (by omega) hx2
      ·rw [getD_set]; split
       ·rfl
       ·rename_i hne
        refine hm.ml j ?_
        rcases Nat.lt_or_ge j q with h | h
        ·exact h
        ·exact absurd ⟨by omega, by rw [hm.size]; omega⟩ hne
      ·rw [getD_set]; split
       ·rfl
       ·exact hnfl x hx1 hx2
      ·have hxl := (List.getElem?_eq_some_iff.1 hx1).1
       rw [getD_set, if_neg (by omega)] at hx2
       rw [look_append]
       cases h5 : look (ms (q + 1)).env d with
       | some v => rw [Option.some_or, (hms (q + 1) hq d v h5).1 (List.mem_of_getElem? hx1)]
       | none => rw [Option.none_or]; exact hm.vals x d hx1 hx2
      ·rw [look_append]
       cases h5 : look (ms (q + 1)).env t with
       | some v' =>
        have := (hms (q + 1) hq t v' h5).2.1 ht1 ht2
        rw [hl] at this
        rw [Option.some_or, this]
       | none => rw [Option.none_or]; exact hm.rest t v ht1 ht2 hl
      ·rw [look_append, hl, Option.some_or]
 intro a w hr
 refine wp_region_any hmix (main ops.size 0 _ env0 a _ ?_ ⟨by simp, ?_, Nat.zero_le _, fun j h1 h2 => by simp [Array.getD, h2], fun j h => absurd h (Nat.not_lt_zero _), fun h => absurd h (Nat.lt_irrefl _), fun i d h1 h2 => ?_, fun t v _ _ h => h, fun _ t v _ h => h, fun h => absurd h (Nat.lt_irrefl _)⟩ (by rw [hm0]; exact hr.drew))
 ·rw [List.filter_eq_self.2, List.length_range]
  intro j hj
  rw [List.mem_range] at hj
  simp [Array.getD, hj]
 ·intro i o ho hl
  have := (Array.getElem?_eq_some_iff.1 ho).1
  simp [Array.getD, this] at hl
 ·have := (List.getElem?_eq_some_iff.1 h1).1
  have hlt : i < ops.size := by omega
  simp [Array.getD, hlt] at h2
/-! ### the walk -/
def MidV (C : Ctx) (ops : Array Oper) (ds : List Nat) (env0 : List (Nat × AV)) (objs0 : List AObj) (K : List (Nat × AV) → Prop) : List (Nat × Oper) → List (Nat × AV) → Prop
  | [], acc => K acc
  | (d, o) :: r, acc => ∃ c, DrawStep C ops o (sel acc (depT ops o) ++ clean ds env0) objs0 c ∧ MidV C ops ds env0 objs0 K r ((d, c) :: acc)
def MidM (C : Ctx) (ops : Array Oper) (K : St → List St → Prop) : List Oper → St → List St → Prop
  | [], s, l => K s l
  | o :: r, s, l => ∃ s', MidStep C ops o s s' ∧ (s'.env = s.env ∨ ∃ d c, o.dst = some d ∧ s'.env = (d, c) :: s.env) ∧ MidM C ops K r s' (l ++ [s])
def MidF (C : Ctx) (ops : Array Oper) (ds : List Nat) (env0 : List (Nat × AV)) (l : List St) (K : List (Nat × AV) → Prop) : List (Nat × Oper) → List (Nat × AV) → Prop
  | [], acc => K acc
  | (d, o) :: r, acc => ∃ c, (∀ s ∈ l, DrawStep C ops o (sel acc (depT ops o) ++ clean ds env0) s.objs c) ∧ MidF C ops ds env0 l K r ((d, c) :: acc)
/-- each waits for none that comes later -/
def laterOK (ops : Array Oper) : List (Nat × Oper) → Bool
  | [] => true
  | (d, o) :: r => (depT ops o).all (fun t => !((d :: r.map (·.1)).contains t)) && !(r.map (·.1)).contains d && laterOK ops r
theorem sel_cons {acc : List (Nat × AV)} {d : Nat} {c : AV} {ts : List Nat} (h : d ∉ ts) : sel ((d, c) :: acc) ts = sel acc ts := by
 simp only [sel]
 rw [if_neg (by simpa using h)]
/-- what was found stays found -/
def Ext1 (L : List (Nat × Oper)) (acc acc' : List (Nat × AV)) : Prop :=
  (∀ ts, (∀ t ∈ ts, t ∉ L.map (·.1)) → sel acc' ts = sel acc ts) ∧ (∀ t v, t ∉ L.map (·.1) → (look acc' t = some v ↔ look acc t = some v)) ∧ (∀ t v, look acc' t = some v → t ∈ L.map (·.1) ∨ look acc t = some v)
theorem Ext1.cons {d : Nat} {o : Oper} {c : AV} {r : List (Nat × Oper)} {acc acc' : List (Nat × AV)} (h : Ext1 r ((d, c) :: acc) acc') (hd : d ∉ r.map (·.1)) : Ext1 ((d, o) :: r) acc acc' ∧ look acc' d = some c := by
 obtain ⟨h1, h2, h3⟩ := h
 refine ⟨⟨fun ts ht => ?_, fun t v ht => ?_, fun t v hl => ?_⟩, (h2 d c hd).2 (by simp [look])⟩
 ·rw [h1 ts fun t hm hin => ht t hm (by simp [hin]), sel_cons fun hm => ht d hm (by simp)]
 ·simp only [List.map_cons, List.mem_cons, not_or] at ht
  rw [h2 t v ht.2]
  simp only [look]
  rw [if_neg (by simpa using fun e : d = t => ht.1 e.symm)]
 ·rcases h3 t v hl with h | h
  ·exact .inl (by simp [h])
  ·simp only [look] at h
   split at h
   ·rename_i he
    exact .inl (by simp at he; simp [he])
   ·exact .inr h
theorem MidV.out {C : Ctx} {ops : Array Oper} {ds : List Nat} {env0 : List (Nat × AV)} {objs0 : List AObj} {K : List (Nat × AV) → Prop} : ∀ {L : List (Nat × Oper)} {acc : List (Nat × AV)}, MidV C ops ds env0 objs0 K L acc → laterOK ops L = true →
  ∃ acc', K acc' ∧ Ext1 L acc acc' ∧ ∀ d o, (d, o) ∈ L → ∃ c, look acc' d = some c ∧ DrawStep C ops o (sel acc' (depT ops o) ++ clean ds env0) objs0 c
 | [], acc, h, _ => ⟨acc, h, ⟨fun _ _ => rfl, fun _ _ _ => Iff.rfl, fun _ _ h => .inr h⟩, fun _ _ h => by cases h⟩
 | (d, o) :: r, acc, ⟨c, h1, h2⟩, hl => by
  simp only [laterOK, Bool.and_eq_true, List.all_eq_true, Bool.not_eq_true', List.contains_eq_mem, decide_eq_false_iff_not] at hl
  obtain ⟨⟨hl1, hl2⟩, hl3⟩ := hl
  obtain ⟨acc', k1, k2, k3⟩ := MidV.out h2 hl3
  obtain ⟨k4, k5⟩ := k2.cons (o := o) hl2
  refine ⟨acc', k1, k4, fun d' o' hm => ?_⟩
  rcases List.mem_cons.1 hm with h | h
  ·injection h with e1 e2
   subst e1; subst e2
   refine ⟨c, k5, ?_⟩
   rw [k4.1 _ fun t ht => by simpa using hl1 t ht]
   exact h1
  ·exact k3 d' o' h
theorem MidF.out {C : Ctx} {ops : Array Oper} {ds : List Nat} {env0 : List (Nat × AV)} {l : List St} {K : List (Nat × AV) → Prop} : ∀ {L : List (Nat × Oper)} {acc : List (Nat × AV)}, MidF C ops ds env0 l K L acc → laterOK ops L = true →
  ∃ acc', K acc' ∧ Ext1 L acc acc' ∧ ∀ d o, (d, o) ∈ L → ∃ c, look acc' d = some c ∧ ∀ s ∈ l, DrawStep C ops o (sel acc' (depT ops o) ++ clean ds env0) s.objs c
 | [], acc, h, _ => ⟨acc, h, ⟨fun _ _ => rfl, fun _ _ _ => Iff.rfl, fun _ _ h => .inr h⟩, fun _ _ h => by cases h⟩
 | (d, o) :: r, acc, ⟨c, h1, h2⟩, hl => by
  simp only [laterOK, Bool.and_eq_true, List.all_eq_true, Bool.not_eq_true', List.contains_eq_mem, decide_eq_false_iff_not] at hl
  obtain ⟨⟨hl1, hl2⟩, hl3⟩ := hl
  obtain ⟨acc', k1, k2, k3⟩ := MidF.out h2 hl3
  obtain ⟨k4, k5⟩ := k2.cons (o := o) hl2
  refine ⟨acc', k1, k4, fun d' o' hm => ?_⟩
  rcases List.mem_cons.1 hm with h | h
  ·injection h with e1 e2
   subst e1; subst e2
   refine ⟨c, k5, ?_⟩
   rw [k4.1 _ fun t ht => by simpa using hl1 t ht]
   exact h1
  ·exact k3 d' o' h
theorem MidM.out {C : Ctx} {ops : Array Oper} {K : St → List St → Prop} : ∀ {L : List Oper} {s : St} {l : List St}, MidM C ops K L s l →
  ∃ ms : Nat → St, ms 0 = s ∧ K (ms L.length) (l ++ (List.range L.length).map ms) ∧ ∀ j o, L[j]? = some o → MidStep C ops o (ms j) (ms (j + 1)) ∧ ((ms (j + 1)).env = (ms j).env ∨ ∃ d c, o.dst = some d ∧ (ms (j + 1)).env = (d, c) :: (ms j).env)
 | [], s, l, h => ⟨fun _ => s, rfl, by simp only [List.length_nil, List.range_zero, List.map_nil, List.append_nil]; exact h, fun j o h => by simp at h⟩
 | o :: r, s, l, ⟨s', h1, h2, h3⟩ => by
  obtain ⟨ms, k1, k2, k3⟩ := MidM.out h3
  refine ⟨fun j => match j with | 0 => s | j + 1 => ms j, rfl, ?_, fun j o' hj => ?_⟩
  ·simp only [List.length_cons]
   rw [List.range_succ_eq_map, List.map_cons, List.map_map]
   simpa [List.append_assoc, Function.comp_def] using k2
  ·cases j with
   | zero => simp at hj; subst hj; simp only [k1]; exact ⟨h1, h2⟩
   | succ j => exact k3 j o' (by simpa using hj)
def pairs (ops : Array Oper) (ds : List Nat) (is : List Nat) : List (Nat × Oper) := is.filterMap fun i => match ds[i]?, ops[i]? with | some d, some o => some (d, o) | _, _ => none
theorem W.middle {C : Ctx} {id : Nat} {ops : Array Oper} {env0 : List (Nat × AV)} {objs0 : List AObj} {Q : Exit → St → Prop} (hmix : C.P.follows .mixedOrders = true) (ds fl nf : List Nat) (mN : Nat) (hchk : midOK ops ds fl mN = true)
  (hcov : (List.range ds.length).all (fun i => nf.contains i != fl.contains i) = true) (hnf : nf.all (fun i => decide (i < ds.length)) = true) (hlat : laterOK ops (pairs ops ds nf ++ pairs ops ds fl) = true) (hlv : laterOK ops (pairs ops ds nf) = true) (hlf : laterOK ops (pairs ops ds fl) = true)
  (h : MidV C ops ds env0 objs0 (fun acc => MidM C ops (fun s l => MidF C ops (ds ++ dstsOf ops ds.length mN) env0 (l ++ [s]) (fun acc' => WL C ops (ops.toList.drop (ds.length + mN)) ⟨acc' ++ s.env, s.objs⟩ Q) (pairs ops ds fl) acc)
   ((ops.toList.drop ds.length).take mN) ⟨acc ++ clean ds env0, objs0⟩ []) (pairs ops ds nf) []) : W C (.region id ops true) ⟨env0, objs0⟩ Q := by
 have hchk0 := hchk
 simp only [midOK, Bool.and_eq_true, decide_eq_true_eq, List.all_eq_true, List.mem_range, Bool.or_eq_true, List.contains_iff_mem] at hchk0
 obtain ⟨⟨⟨⟨⟨⟨⟨⟨hnd, hle⟩, hds⟩, hbk⟩, hmo⟩, hta⟩, hmd⟩, hfl⟩, hnf2⟩ := hchk0
 simp only [List.all_eq_true, List.mem_range, decide_eq_true_eq] at hcov hnf
 obtain ⟨acc, hM, hE1, hV⟩ := h.out hlv
 obtain ⟨ms, m0, hK, hMs⟩ := hM.out
 obtain ⟨acc', hT, hE2, hF⟩ := hK.out hlf
 have hlen : ((ops.toList.drop ds.length).take mN).length = mN := by simp; omega
 rw [hlen] at hT hF
 have hpair : ∀ (is : List Nat) (d : Nat) (o : Oper), (d, o) ∈ pairs ops ds is ↔ ∃ i ∈ is, ds[i]? = some d ∧ ops[i]? = some o := by
  intro is d o
  simp only [pairs, List.mem_filterMap]
  constructor
  ·rintro ⟨i, hi, h⟩
   refine ⟨i, hi, ?_⟩
   split at h
   ·rename_i d' o' h1 h2
    injection h with h; injection h with e1 e2
    subst e1; subst e2
    exact ⟨h1, h2⟩
   ·cases h
  ·rintro ⟨i, hi, h1, h2⟩
   exact ⟨i, hi, by rw [h1, h2]⟩
 have hkey : ∀ (is : List Nat) (d : Nat), d ∈ (pairs ops ds is).map (·.1) → ∃ i ∈ is, ds[i]? = some d := by
  intro is d hd
  obtain ⟨⟨d', o⟩, h1, rfl⟩ := List.mem_map.1 hd
  obtain ⟨i, hi, h2, _⟩ := (hpair is d' o).1 h1
  exact ⟨i, hi, h2⟩
 have hnot : ∀ (i d : Nat), i ∉ fl → ds[i]? = some d → d ∉ (pairs ops ds fl).map (·.1) := by
  intro i d hi hd hin
  obtain ⟨i', hi', hd'⟩ := hkey fl d hin
  rw [nodup_get hnd hd hd'] at hi
  exact hi hi'
 have hin : ∀ i, i < ds.length → i ∉ fl → i ∈ nf := by
  intro i hi hf
  have := hcov i hi
  simpa [hf] using this
 have hnin : ∀ i, i ∈ nf → i ∉ fl := by
  intro i hi hf
  have := hcov i (hnf i hi)
  simp [hi, hf] at this
 have hop : ∀ (i d : Nat), ds[i]? = some d → ∃ o, ops[i]? = some o := by
  intro i d hd
  have hlt := (List.getElem?_eq_some_iff.1 hd).1
  exact ⟨ops[i], Array.getElem?_eq_getElem (by omega)⟩
 have hsplit : ∀ (L1 L2 : List (Nat × Oper)), laterOK ops (L1 ++ L2) = true → ∀ d o, (d, o) ∈ L1 → ∀ t ∈ depT ops o, t ∉ L2.map (·.1) := by
  intro L1
  induction L1 with
  | nil => intro L2 _ d o h; cases h
  | cons p r ih =>
   intro L2 hl d o hm t ht
   obtain ⟨d0, o0⟩ := p
   simp only [List.cons_append, laterOK, Bool.and_eq_true, List.all_eq_true, Bool.not_eq_true', List.contains_eq_mem, decide_eq_false_iff_not] at hl
   rcases List.mem_cons.1 hm with h | h
   ·injection h with e1 e2
    subst e1; subst e2
    have := hl.1.1 t ht
    simp only [List.map_append, List.mem_cons, List.mem_append, not_or] at this
    exact this.2.2
   ·exact ih L2 hl.2 d o h t ht
 refine W.mid hmix ds fl mN acc' ms hchk ?_ ?_ (by rw [m0]) ?_ ?_ ?_ ?_ ?_ (by simpa using hT)
 ·intro d hd
  obtain ⟨i, hi⟩ := List.getElem?_of_mem hd
  obtain ⟨o, ho⟩ := hop i d hi
  by_cases hf : i ∈ fl
  ·obtain ⟨c, h1, _⟩ := hF d o ((hpair fl d o).2 ⟨i, hf, hi, ho⟩)
   exact ⟨c, h1⟩
  ·obtain ⟨c, h1, _⟩ := hV d o ((hpair nf d o).2 ⟨i, hin i (List.getElem?_eq_some_iff.1 hi).1 hf, hi, ho⟩)
   exact ⟨c, (hE2.2.1 d c (hnot i d hf hi)).2 h1⟩
 ·intro t v hl
  rcases hE2.2.2 t v hl with h | h
  ·obtain ⟨i, _, hi⟩ := hkey fl t h; exact List.mem_of_getElem? hi
  ·rcases hE1.2.2 t v h with h | h
   ·obtain ⟨i, _, hi⟩ := hkey nf t h; exact List.mem_of_getElem? hi
   ·cases h
 ·intro t v hl
  rw [m0] at hl
  simp only at hl
  rw [look_append] at hl
  cases ha : look acc t with
  | some v' =>
   rw [ha, Option.some_or] at hl
   injection hl with hl; subst hl
   rcases hE1.2.2 t _ ha with h | h
   ·obtain ⟨i, hi1, hi2⟩ := hkey nf t h
    exact .inl ⟨i, hnin i hi1, hi2, (hE2.2.1 t _ (hnot i t (hnin i hi1) hi2)).2 ha⟩
   ·cases h
  | none =>
   rw [ha, Option.none_or] at hl
   exact .inr (look_clean hl)
 ·intro i o d c hf ho hd hc
  have hm := (hpair nf d o).2 ⟨i, hin i (List.getElem?_eq_some_iff.1 hd).1 hf, hd, ho⟩
  obtain ⟨c', h1, h2⟩ := hV d o hm
  have h3 := (hE2.2.1 d c' (hnot i d hf hd)).2 h1
  rw [hc] at h3; injection h3 with h3; subst h3
  rw [hE2.1 _ (hsplit _ _ hlat d o hm)]
  exact h2
 ·intro j o hj ho
  refine (hMs j o ?_).1
  rw [List.getElem?_take, if_pos hj, List.getElem?_drop, Array.getElem?_toList]; exact ho
 ·intro j hj
  have hlt : ds.length + j < ops.size := by omega
  obtain ⟨_, h⟩ := hMs j ops[ds.length + j] (by rw [List.getElem?_take, if_pos hj, List.getElem?_drop, Array.getElem?_toList]; exact Array.getElem?_eq_getElem hlt)
  rcases h with h | ⟨d, c, h1, h2⟩
  ·exact .inl h
  ·refine .inr ⟨d, c, ?_, h2⟩
   simp only [dstsOf, List.mem_filterMap]
   refine ⟨ops[ds.length + j], ?_, h1⟩
   refine List.mem_of_getElem? (i := j) ?_
   rw [List.getElem?_take, if_pos hj, List.getElem?_drop, Array.getElem?_toList]; exact Array.getElem?_eq_getElem hlt
 ·intro j i o d c hj hf ho hd hc
  obtain ⟨c', h1, h2⟩ := hF d o ((hpair fl d o).2 ⟨i, hf, hd, ho⟩)
  rw [hc] at h1; injection h1 with h1; subst h1
  refine h2 (ms j) ?_
  rcases Nat.lt_or_ge j mN with h | h
  ·simp only [List.nil_append, List.mem_append, List.mem_map, List.mem_range]
   exact .inl ⟨j, h, rfl⟩
  ·have : j = mN := by omega
   subst this; simp
theorem MidV.step {C : Ctx} {ops : Array Oper} {ds : List Nat} {env0 : List (Nat × AV)} {objs0 : List AObj} {K : List (Nat × AV) → Prop} {d : Nat} {o : Oper} {r : List (Nat × Oper)} {acc : List (Nat × AV)} {c : AV}
  (h : DrawStep C ops o (sel acc (depT ops o) ++ clean ds env0) objs0 c) (h' : MidV C ops ds env0 objs0 K r ((d, c) :: acc)) : MidV C ops ds env0 objs0 K ((d, o) :: r) acc := ⟨c, h, h'⟩
theorem MidV.done {C : Ctx} {ops : Array Oper} {ds : List Nat} {env0 : List (Nat × AV)} {objs0 : List AObj} {K : List (Nat × AV) → Prop} {acc : List (Nat × AV)} (h : K acc) : MidV C ops ds env0 objs0 K [] acc := h
theorem MidM.val {C : Ctx} {ops : Array Oper} {K : St → List St → Prop} {o : Oper} {r : List Oper} {env : List (Nat × AV)} {objs objs' : List AObj} {l : List St} {d : Nat} {c : AV} (hd : o.dst = some d)
  (h : ∀ more, WL C ops [o] ⟨env ++ more, objs⟩ (fun e s => e = .normal ∧ s = ⟨(d, c) :: (env ++ more), objs'⟩)) (h' : MidM C ops K r ⟨(d, c) :: env, objs'⟩ (l ++ [⟨env, objs⟩])) : MidM C ops K (o :: r) ⟨env, objs⟩ l :=
 ⟨⟨(d, c) :: env, objs'⟩, h, .inr ⟨d, c, hd, rfl⟩, h'⟩
theorem MidM.eff {C : Ctx} {ops : Array Oper} {K : St → List St → Prop} {o : Oper} {r : List Oper} {env : List (Nat × AV)} {objs objs' : List AObj} {l : List St} (hd : o.dst = none)
  (h : ∀ more, WL C ops [o] ⟨env ++ more, objs⟩ (fun e s => e = .normal ∧ s = ⟨env ++ more, objs'⟩)) (h' : MidM C ops K r ⟨env, objs'⟩ (l ++ [⟨env, objs⟩])) : MidM C ops K (o :: r) ⟨env, objs⟩ l :=
 ⟨⟨env, objs'⟩, h, .inl rfl, h'⟩
theorem MidM.done {C : Ctx} {ops : Array Oper} {K : St → List St → Prop} {s : St} {l : List St} (h : K s l) : MidM C ops K [] s l := h
def AllS (P : St → Prop) : List St → Prop
  | [] => True
  | s :: r => P s ∧ AllS P r
theorem AllS.mem {P : St → Prop} : ∀ {l : List St}, AllS P l → ∀ s ∈ l, P s
 | s :: r, ⟨h, h'⟩, x, hx => by
  rcases List.mem_cons.1 hx with rfl | hx
  ·exact h
  ·exact AllS.mem h' x hx
theorem MidF.step {C : Ctx} {ops : Array Oper} {ds : List Nat} {env0 : List (Nat × AV)} {l : List St} {K : List (Nat × AV) → Prop} {d : Nat} {o : Oper} {r : List (Nat × Oper)} {acc : List (Nat × AV)} {c : AV}
  (h : AllS (fun s => DrawStep C ops o (sel acc (depT ops o) ++ clean ds env0) s.objs c) l) (h' : MidF C ops ds env0 l K r ((d, c) :: acc)) : MidF C ops ds env0 l K ((d, o) :: r) acc := ⟨c, h.mem, h'⟩
theorem MidF.done {C : Ctx} {ops : Array Oper} {ds : List Nat} {env0 : List (Nat × AV)} {l : List St} {K : List (Nat × AV) → Prop} {acc : List (Nat × AV)} (h : K acc) : MidF C ops ds env0 l K [] acc := h
end Go.Lens

set_option linter.unusedVariables false
set_option linter.unusedSimpArgs false
namespace Go.Proofs.YtejpblopbdgkaaaGreatDoor
open Go Go.Lens
def u64AV (l : List Nat) : List AV := l.map fun (x : Nat) => .int .u64 x
def natRow (l : List Nat) : AV := .agg [.row (u64AV l) l.length]
theorem u64AV_length (l : List Nat) : (u64AV l).length = l.length := by simp [u64AV]
theorem u64AV_get {l : List Nat} {i : Nat} (h : i < l.length) : (u64AV l)[i]? = some (.int .u64 (l[i] : Nat)) := by simp [u64AV, h]
theorem u64AV_ne {l : List Nat} {i : Nat} (h : i < l.length) : u64AV l ≠ [] := fun e => by have := u64AV_length l; rw [e] at this; simp at this; omega
@[simp] theorem u64AV_plain (l : List Nat) : plainL (u64AV l) = true := by
  induction l with
  | nil => rfl
  | cons x l ih => simp only [u64AV, List.map_cons, plainL, AV.plain, Bool.true_and]; exact ih
@[simp] theorem natRow_plain (l : List Nat) : (natRow l).plain = true := by simp [natRow, AV.plain, plainL, u64AV_plain]
theorem limb_spec (l : List Nat) (i : Int) (h0 : 0 ≤ i) (hi : i ≤ 9223372036854775807) (hl : l.length ≤ 9223372036854775807) : Does Tryz.prog 144 [natRow l, .int .i64 i] (.int .u64 (l.getD i.toNat 0 : Nat)) := by
 refine does tab_ok Tryz.func144 rfl rfl rfl rfl rfl fun w0 H0 hk hj => ?_
 refine W.seq (W.region ?_)
 first | refine z_B 0 [_] ?_ | refine sn (a_box rfl rfl (.inr ⟨trivial, rfl⟩)) (rfl : _ = AV.ptr 0 0 0) (rfl : _ = [_]) rfl rfl rfl ?_
 refine z_p ?_
 refine WL.nil ?_
 refine W.seq (W.seq (W.region ?_))
 refine z_p ?_
 first | refine z_f ?_ | refine z_g ?_
 first | refine z_l ?_ | refine z_r ?_
 first | refine z_n ?_ | refine z_m ?_ | refine z_k ?_
 refine z_p ?_
 refine WL.nil ?_
 refine W.cond rfl (fun hc => ?_) (fun hc => ?_)
 ·simp only [decide_eq_true_eq] at hc
  refine W.seq (W.region ?_)
  refine z_p ?_
  refine WL.nil ?_
  refine (W.ret (fin rfl (.shut (.plain rfl) .nil) ?_))
  simp [tupAV, List.getD, List.getElem?_eq_none (show l.length ≤ i.toNat by omega)]
 ·simp only [decide_eq_false_iff_not] at hc
  have hlt : i.toNat < l.length := by omega
  have hne := u64AV_ne hlt
  refine W.skip ?_
  refine W.seq (W.region ?_)
  first | refine z_f ?_ | refine z_g ?_
  first | refine z_l ?_ | refine z_r ?_
  refine z_p ?_
  first | refine sp (v_indexAddr rfl rfl rfl rfl rfl rfl rfl (by omega) (by omega)) rfl rfl rfl ?_ | refine sp (v_indexAddr_row rfl rfl rfl rfl rfl rfl (by omega) (by omega) (by assumption)) rfl rfl rfl ?_
  refine sp (v_load_radr rfl rfl rfl (loadc_at rfl (Nat.mul_one _) (u64AV_get hlt))) rfl rfl rfl ?_
  refine z_p ?_
  refine WL.nil ?_
  refine (W.ret (fin rfl (.shut (.plain rfl) .nil) ?_))
  simp [tupAV, List.getD, hlt]
theorem trimmed_spec (l : List Nat) (hl : l.length ≤ 9223372036854775807) : Does Tryz.prog 29 [.row (u64AV l) l.length] (natRow (trim l)) := by
 refine does tab_ok Tryz.func29 rfl rfl rfl rfl rfl fun w0 H0 hk hj => ?_
 refine W.seq (W.region ?_)
 refine z_a 0 [_] ?_
 refine WL.nil ?_
 refine W.seq (W.region ?_)
 refine z_p ?_
 first | refine z_n ?_ | refine z_m ?_ | refine z_k ?_
 refine z_p ?_
 refine WL.nil ?_
 refine W.seq (W.block ?_)
 refine W.while (fun m st => ∃ n : Int, 0 ≤ n ∧ n ≤ l.length ∧ m = n.toNat ∧ trim (l.take n.toNat) = trim l ∧ st = ⟨[(0, .row (u64AV l) l.length), (2, .ptr 0 0 0), (3, .int .i64 n)], [.cells [.nils] 0 1 false none]⟩) l.length
  ⟨l.length, by omega, by omega, by simp, by simp, rfl⟩ (by refine ⟨?_, ?_, rfl, Nat.le_of_ble_eq_true rfl⟩ <;> repeat (first | exact trivial | exact rfl | refine ⟨rfl, ?_⟩ | refine ⟨.inr ⟨rfl, ?_⟩, ?_⟩ | refine ⟨.inl rfl, ?_⟩)) ?_
 rintro m _ ⟨n, hn0, hn1, rfl, ht, rfl⟩
 by_cases hp : n > 0
 ·have hlt : (n - 1).toNat < l.length := by omega
  have hne := u64AV_ne hlt
  have hsucc : n.toNat = (n - 1).toNat + 1 := by omega
  refine W.seq (W.seq (W.region ?_))
  refine z_p ?_
  refine z_T hp ?_
  refine z_p ?_
  refine z_p ?_
  refine z_p ?_
  refine z_i ?_
  first | refine sp (v_indexAddr rfl rfl rfl rfl rfl rfl rfl (by omega) (by omega)) rfl rfl rfl ?_ | refine sp (v_indexAddr_row rfl rfl rfl rfl rfl rfl (by omega) (by omega) (by assumption)) rfl rfl rfl ?_
  refine sp (v_load_radr rfl rfl rfl (loadc_at rfl (Nat.mul_one _) (u64AV_get hlt))) rfl rfl rfl ?_
  refine z_p ?_
  refine z_p ?_
  refine WL.nil ?_
  refine W.cond rfl (fun hc => ?_) (fun hc => ?_)
  ·have hc0 : l[(n - 1).toNat] = 0 := by have := eq_of_beq hc; omega
   refine W.skip (W.block ?_)
   refine W.region ?_
   refine z_p ?_
   refine z_i ?_
   refine z_p ?_
   refine WL.nil ?_
   refine ⟨(n - 1).toNat, _, _, by omega, ⟨n - 1, by omega, by omega, rfl, ?_, rfl⟩, (by refine ⟨?_, ?_, rfl, Nat.le_of_ble_eq_true rfl⟩ <;> repeat (first | exact trivial | exact rfl | refine ⟨rfl, ?_⟩ | refine ⟨.inr ⟨rfl, ?_⟩, ?_⟩ | refine ⟨.inl rfl, ?_⟩))⟩
   rw [← ht, hsucc, trim_take l _ hlt hc0]
  ·have hc0 : l[(n - 1).toNat] ≠ 0 := by intro h; rw [h] at hc; simp at hc
   have htr : trim l = l.take n.toNat := by rw [← ht, hsucc, trim_self l _ hlt hc0]
   have hle : n.toNat ≤ l.length := by omega
   refine W.exit ?_
   refine W.seq (W.region ?_)
   refine z_p ?_
   refine z_p ?_
   refine z_p ?_
   first | refine sq (v_slice_sl  rfl rfl rfl rfl rfl rfl rfl ⟨_, _, rfl, by omega, rfl⟩ (fun _ _ => ⟨⟨_, _, rfl, by omega, rfl⟩, by omega, by omega⟩) (fun _ => rfl) (by omega) (by omega)) (show _ = AV.row (u64AV (trim l)) (trim l).length from by simp [htr, u64AV, hle, List.map_take]) rfl rfl rfl ?_ | refine sq (v_slice_row  rfl rfl rfl rfl rfl (by first | (simp [u64AV]; done) | (simp [i64AV]; done)) rfl ⟨_, _, rfl, by omega, rfl⟩ (fun _ _ => ⟨⟨_, _, rfl, by omega, rfl⟩, by omega, by omega⟩) (fun _ => rfl) (by omega) (by omega)) (show _ = AV.row (u64AV (trim l)) (trim l).length from by simp [htr, u64AV, hle, List.map_take]) rfl rfl rfl ?_
   refine sq (v_build rfl rfl rfl rfl rfl rfl rfl) (rfl : _ = AV.agg [_]) rfl rfl rfl ?_
   refine z_s [_] ?_
   refine WL.nil ?_
   exact W.ret (fin (cs := [natRow (trim l)]) rfl (.shut (.plain (natRow_plain _)) .nil) rfl)
 ·have hz : n = 0 := by omega
  subst hz
  have htr : trim l = [] := by rw [← ht]; rfl
  refine W.seq (W.seq (W.region ?_))
  refine z_p ?_
  refine z_F hp ?_
  refine z_p ?_
  refine z_o ?_
  refine z_o ?_
  refine z_o ?_
  refine z_o ?_
  refine z_o ?_
  refine z_o ?_
  refine z_p ?_
  refine WL.nil ?_
  refine W.cond_false rfl (W.exit ?_)
  refine W.seq (W.region ?_)
  refine z_p ?_
  refine z_p ?_
  refine z_p ?_
  first | refine sq (v_slice_sl  rfl rfl rfl rfl rfl rfl rfl ⟨_, _, rfl, by omega, rfl⟩ (fun _ _ => ⟨⟨_, _, rfl, by omega, rfl⟩, by omega, by omega⟩) (fun _ => rfl) (by omega) (by omega)) (show _ = AV.row (u64AV (trim l)) (trim l).length from by simp [htr, u64AV]) rfl rfl rfl ?_ | refine sq (v_slice_row  rfl rfl rfl rfl rfl (by first | (simp [u64AV]; done) | (simp [i64AV]; done)) rfl ⟨_, _, rfl, by omega, rfl⟩ (fun _ _ => ⟨⟨_, _, rfl, by omega, rfl⟩, by omega, by omega⟩) (fun _ => rfl) (by omega) (by omega)) (show _ = AV.row (u64AV (trim l)) (trim l).length from by simp [htr, u64AV]) rfl rfl rfl ?_
  refine sq (v_build rfl rfl rfl rfl rfl rfl rfl) (rfl : _ = AV.agg [_]) rfl rfl rfl ?_
  refine z_s [_] ?_
  refine WL.nil ?_
  exact W.ret (fin (cs := [natRow (trim l)]) rfl (.shut (.plain (natRow_plain _)) .nil) rfl)
theorem zero_spec (l : List Nat) : Does Tryz.prog 28 [natRow l] (.bool (l == [])) := by
 refine does tab_ok Tryz.func28 rfl rfl rfl rfl rfl fun w0 H0 hk hj => ?_
 refine W.seq (W.region ?_)
 first | refine z_B 0 [_] ?_ | refine sn (a_box rfl rfl (.inr ⟨trivial, rfl⟩)) (rfl : _ = AV.ptr 0 0 0) (rfl : _ = [_]) rfl rfl rfl ?_
 refine z_p ?_
 refine WL.nil ?_
 refine W.seq (W.region ?_)
 first | refine z_f ?_ | refine z_g ?_
 first | refine z_l ?_ | refine z_r ?_
 first | refine z_n ?_ | refine z_m ?_ | refine z_k ?_
 refine z_p ?_
 refine z_p ?_
 refine WL.nil ?_
 refine W.ret (fin rfl (.shut (.plain rfl) .nil) ?_)
 cases l <;> rfl
theorem clone_spec (l : List Nat) (hl : l.length * 8 ≤ 140737488355328) : Does Tryz.prog 30 [.row (u64AV l) l.length] (.row (u64AV l) l.length) := by
 refine does tab_ok Tryz.func30 rfl rfl rfl rfl rfl fun w0 H0 hk hj => ?_
 refine W.seq (W.region ?_)
 refine z_p ?_
 refine WL.nil ?_
 refine W.seq (W.seq (W.region ?_))
 refine z_p ?_
 refine snil rfl rfl rfl rfl rfl rfl rfl fun b hb => ?_
 refine WL.nil ?_
 refine W.cond rfl (fun hc => ?_) (fun hc => ?_)
 ·have hz : l = [] := by have := hb hc; simpa [u64AV] using this
  subst hz
  refine W.seq (W.region ?_)
  refine z_p ?_
  refine WL.sub 2 rfl Sub.nils ?_
  refine WL.nil ?_
  exact W.ret (fin rfl (.shut (.plain rfl) .nil) rfl)
 ·refine W.skip ?_
  refine W.seq (W.region ?_)
  refine sn (v_buildSlice rfl rfl rfl rfl rfl rfl rfl (Nat.le_of_ble_eq_true rfl) (Nat.le_of_ble_eq_true rfl) rfl rfl rfl rfl) (rfl : _ = AV.sl 0 0 0 0 true) (rfl : _ = [_]) rfl rfl rfl ?_
  refine z_p ?_
  refine sn (v_append_own rfl rfl rfl rfl rfl rfl rfl rfl rfl rfl (Nat.lt_of_sub_eq_succ rfl) (.inr (.inl ⟨rfl, by simp [u64AV]⟩)) (by simp [u64AV, AV.oneB]) (by omega) (by show (0 + l.length) * 8 ≤ _; omega)) rfl (rfl : _ = [_]) rfl rfl rfl ?_
  refine z_p ?_
  refine WL.nil ?_
  refine W.ret (fin rfl (.shut (.sl rfl (by simp [u64AV]) (by simp)) .nil) ?_)
  simp [tupAV, u64AV, List.take_of_length_le]
theorem of_spec (l : List Nat) (hl : l.length * 8 ≤ 140737488355328) : Does Tryz.prog 8 [.row (u64AV l) l.length] (natRow (trim l)) := by
 refine does tab_ok Tryz.func8 rfl rfl rfl rfl rfl fun w0 H0 hk hj => ?_
 refine W.seq (W.region ?_)
 refine z_a 0 [_] ?_
 refine WL.nil ?_
 refine W.seq (W.region ?_)
 refine z_p ?_
 refine z_c (clone_spec l hl) ?_
 refine z_c (trimmed_spec l (by omega)) ?_
 refine z_s [_] ?_
 refine WL.nil ?_
 exact W.ret (fin (cs := [natRow (trim l)]) rfl (.shut (.plain (natRow_plain _)) .nil) rfl)
theorem add64_ext (x y c : Nat) (hc : c ≤ 1) : Ext Tryz.prog 143 [.int .u64 x, .int .u64 y, .int .u64 c] (.tup [.int .u64 ((x + y + c) % 18446744073709551616 : Nat), .int .u64 ((x + y + c) / 18446744073709551616 : Nat)]) :=
 Ext.of Tryz.func143 (by kernel_rfl) (by kernel_rfl) (by kernel_rfl) (show Extern.find Tryz.f143 = some (Extern.MathBitsCarry.rows[0]'(by decide)).2 by kernel_rfl) (add64_row x y c hc)
theorem mixed : Tryz.prog.follows .mixedOrders = true := by kernel_rfl
theorem small_getD {B : Nat} {l : List Nat} (h : Small B l) (i : Nat) [NeZero B] : l.getD i 0 < B := by
 by_cases hi : i < l.length
 ·simp only [List.getD, List.getElem?_eq_getElem hi, Option.getD_some]; exact h _ (List.getElem_mem hi)
 ·simp only [List.getD, List.getElem?_eq_none (show l.length ≤ i by omega), Option.getD_none]; exact Nat.pos_of_ne_zero (NeZero.ne B)
def LB : Nat := 18446744073709551616
instance : NeZero LB := ⟨by decide⟩
/-- a number, as the program holds it -/
def natAV (n : Nat) : AV := natRow (digs LB n)
theorem a_make64 {C : Ctx} {o : Oper} {env : List (Nat × AV)} {objs : List AObj} {t e : TypeId} {x x' : Operand} {k k' : IntKind} {n : Int} {y ye : Ty} (N : Nat) (hop : o.op = .makeSlice t x x')
  (hx : ev ⟨env, objs⟩ x = some (.int k n)) (hx' : ev ⟨env, objs⟩ x' = some (.int k' n)) (hn : n = N) (hy : C.T.at t = some y) (hk : y.k = .slice e) (hye : C.T.at e = some ye) (hsz : ye.size = 1) (hbb : ye.bytes = 8) (hz : ye.zero = some [.int .u64 0])
  (hb : N * 8 ≤ 281474976710656) : VStep C o ⟨env, objs⟩ (.sl objs.length 0 0 N true) (objs ++ [.cells (u64AV (List.replicate N 0)) 0 1 true (some e)]) := by
 subst hn
 have := v_make hop hx hx' hy hk hye hsz hz rfl (by omega) (by rw [hbb]; omega) (by omega)
 simpa [u64AV] using this
theorem u64AV_set (pre : List Nat) (z k x : Nat) (j : Nat) (hj : j = pre.length) : (u64AV (pre ++ List.replicate (k + 1) z)).set j (.int .u64 x) = u64AV ((pre ++ [x]) ++ List.replicate k z) := by
 subst hj
 simp [u64AV, List.replicate_succ]
theorem add_spec (a b : List Nat) (ha : Small LB a) (hb : Small LB b) (hl : a.length ≤ 1000000) (hl' : b.length ≤ 1000000) : Does Tryz.prog 119 [natRow a, natRow b] (natAV (val LB a + val LB b)) := by
 obtain ⟨N, hN⟩ : ∃ N, N = max a.length b.length + 1 := ⟨_, rfl⟩
 refine does tab_ok Tryz.func119 rfl rfl rfl rfl rfl fun w0 H0 hk hj => ?_
 refine W.seq (W.region ?_)
 first | refine z_B 0 [_] ?_ | refine sn (a_box rfl rfl (.inr ⟨trivial, rfl⟩)) (rfl : _ = AV.ptr 0 0 0) (rfl : _ = [_]) rfl rfl rfl ?_
 first | refine z_B 1 [_, _] ?_ | refine sn (a_box rfl rfl (.inr ⟨trivial, rfl⟩)) (rfl : _ = AV.ptr 1 0 0) (rfl : _ = [_, _]) rfl rfl rfl ?_
 refine z_a 2 [_, _, _] ?_
 refine WL.nil ?_
 refine W.seq (W.region ?_)
 first | refine z_f ?_ | refine z_g ?_
 first | refine z_l ?_ | refine z_r ?_
 first | refine z_n ?_ | refine z_m ?_ | refine z_k ?_
 first | refine z_f ?_ | refine z_g ?_
 first | refine z_l ?_ | refine z_r ?_
 first | refine z_n ?_ | refine z_m ?_ | refine z_k ?_
 refine sp (v_max2 rfl rfl rfl) rfl rfl rfl ?_
 refine z_i ?_
 refine sn (a_make64 N rfl rfl rfl (by split <;> omega) rfl rfl rfl rfl rfl rfl (by omega)) (rfl : _ = AV.sl 3 0 0 N true) (rfl : _ = [_, _, _, _]) rfl rfl rfl ?_
 refine z_p ?_
 refine WL.nil ?_
 refine W.seq (W.region ?_)
 refine z_p ?_
 refine WL.nil ?_
 refine W.seq (W.seq (W.region ?_))
 refine z_p ?_
 first | refine z_n ?_ | refine z_m ?_ | refine z_k ?_
 refine z_p ?_
 refine WL.nil ?_
 refine W.block ?_
 refine W.while (fun m st => ∃ (i : Nat) (pre : List Nat) (c : Nat), i ≤ N ∧ m = N - i ∧ pre.length = i ∧ Small LB pre ∧ c ≤ 1 ∧ val LB pre + LB ^ i * c = pv LB a i + pv LB b i ∧
  st = ⟨[(2, .ptr 0 0 0), (3, .ptr 1 0 0), (4, .ptr 2 0 0), (5, .sl 3 0 0 N true), (6, .int .u64 c), (18, .int .i64 N), (19, .int .i64 i)],
   [.cells [.row (u64AV a) a.length] 0 1 false none, .cells [.row (u64AV b) b.length] 0 1 false none, .cells [.nils] 0 1 false none, .cells (u64AV (pre ++ List.replicate (N - i) 0)) 0 1 true (some 74)]⟩) N
  ⟨0, [], 0, by omega, by omega, rfl, fun x hx => (by cases hx), by omega, by simp [pv, val], rfl⟩ (by refine ⟨?_, ?_, rfl, Nat.le_of_ble_eq_true rfl⟩ <;> repeat (first | exact trivial | exact rfl | refine ⟨rfl, ?_⟩ | refine ⟨.inr ⟨rfl, ?_⟩, ?_⟩ | refine ⟨.inl rfl, ?_⟩)) ?_
 rintro m _ ⟨i, pre, c, hi, rfl, hpl, hps, hc, hv, rfl⟩
 by_cases hlt : i < N
 ·have hset : ∀ x : Nat, (u64AV (pre ++ List.replicate (N - i) 0)).set (0 + (i : Int).toNat * 1) (.int .u64 x) = u64AV ((pre ++ [x]) ++ List.replicate (N - (i + 1)) 0) := fun x => by
   rw [show N - i = N - (i + 1) + 1 by omega]
   exact u64AV_set pre 0 _ x _ (by simp [hpl])
  refine W.seq (W.region ?_)
  refine z_T (show (i : Int) < N by omega) ?_
  refine WL.nil ?_
  refine W.seq (W.cond_true rfl (W.skip ?_))
  refine W.seq (W.block ?_)
  refine W.seq (W.region ?_)
  refine z_p ?_
  refine z_p ?_
  refine WL.nil ?_
  refine W.middle mixed [23, 24, 25, 26, 27, 28, 29, 30, 31, 32, 22, 33, 34, 35] [12] [0, 1, 2, 3, 4, 5, 6, 7, 8, 9, 10, 11, 13] 1 rfl rfl rfl rfl rfl rfl ?_
  apply MidV.step
  ·intro more
   refine z_p ?_
   exact z_e
  apply MidV.step
  ·intro more
   refine z_p ?_
   exact z_e
  apply MidV.step
  ·intro more
   first | refine z_l1 ?_ | refine z_r1 ?_
   exact z_e
  apply MidV.step
  ·intro more
   refine z_p ?_
   exact z_e
  apply MidV.step
  ·intro more
   refine z_c (limb_spec a i (by omega) (by omega) (by omega)) ?_
   exact z_e
  apply MidV.step
  ·intro more
   first | refine z_l1 ?_ | refine z_r1 ?_
   exact z_e
  apply MidV.step
  ·intro more
   refine z_p ?_
   exact z_e
  apply MidV.step
  ·intro more
   refine z_c (limb_spec b i (by omega) (by omega) (by omega)) ?_
   exact z_e
  apply MidV.step
  ·intro more
   refine z_p ?_
   exact z_e
  apply MidV.step
  ·intro more
   refine sp (v_ext (add64_ext _ _ c hc) rfl rfl rfl) rfl rfl rfl ?_
   exact z_e
  apply MidV.step
  ·intro more
   refine z_p ?_
   exact z_e
  apply MidV.step
  ·intro more
   refine z_p ?_
   exact z_e
  apply MidV.step
  ·intro more
   first | refine sp (v_indexAddr rfl rfl rfl rfl rfl rfl rfl (by omega) (by omega)) rfl rfl rfl ?_ | refine sp (v_indexAddr_row rfl rfl rfl rfl rfl rfl (by omega) (by omega) (by assumption)) rfl rfl rfl ?_
   exact z_e
  refine MidV.done ?_
  apply MidM.eff rfl
  ·intro more
   refine ss (a_store1 rfl rfl rfl rfl trivial (fun _ => rfl) rfl rfl (by simp [u64AV]; omega)) (Eq.trans (rfl : _ = [_, _, _, _]) (congrArg (fun q => [_, _, _, AObj.cells q 0 1 true (some 74)]) (hset _))) rfl rfl ?_
   exact z_e
  refine MidM.done ?_
  apply MidF.step
  ·refine ⟨fun more => ?_, fun more => ?_, trivial⟩
   refine z_p ?_
   exact z_e
   refine z_p ?_
   exact z_e
  refine MidF.done ?_
  refine z_p ?_
  refine WL.nil ?_
  refine W.region ?_
  refine z_i ?_
  refine z_p ?_
  refine WL.nil ?_
  refine ⟨N - (i + 1), _, _, by omega, ⟨i + 1, pre ++ [(a.getD i 0 + b.getD i 0 + c) % 18446744073709551616], (a.getD i 0 + b.getD i 0 + c) / 18446744073709551616, by omega, rfl, by simp [hpl], ?_, ?_, ?_, rfl⟩, (by refine ⟨?_, ?_, rfl, Nat.le_of_ble_eq_true rfl⟩ <;> repeat (first | exact trivial | exact rfl | refine ⟨rfl, ?_⟩ | refine ⟨.inr ⟨rfl, ?_⟩, ?_⟩ | refine ⟨.inl rfl, ?_⟩))⟩
  ·intro x hx
   rcases List.mem_append.1 hx with hx | hx
   ·exact hps x hx
   ·simp at hx; subst hx; exact Nat.mod_lt _ (by decide)
  ·have h1 := small_getD ha i
   have h2 := small_getD hb i
   simp only [LB] at h1 h2
   omega
  ·rw [val_snoc, pv_succ, pv_succ, hpl, Nat.pow_succ]
   have h1 := Nat.mod_add_div (a.getD i 0 + b.getD i 0 + c) 18446744073709551616
   generalize (a.getD i 0 + b.getD i 0 + c) % 18446744073709551616 = x at h1 ⊢
   generalize (a.getD i 0 + b.getD i 0 + c) / 18446744073709551616 = y at h1 ⊢
   have h2 : LB ^ i * x + LB ^ i * LB * y = LB ^ i * a.getD i 0 + LB ^ i * b.getD i 0 + LB ^ i * c := by
    rw [Nat.mul_assoc, ← Nat.mul_add, ← Nat.mul_add, ← Nat.mul_add]
    congr 1
   omega
 ·have hiN : i = N := by omega
  have hlt' : ¬ (i : Int) < N := by omega
  subst hiN
  have hva := val_lt ha
  have hvb := val_lt hb
  rw [pv_all LB (show a.length ≤ i by omega), pv_all LB (show b.length ≤ i by omega)] at hv
  have hc0 : c = 0 := by
   have e1 : LB ^ a.length ≤ LB ^ (i - 1) := Nat.pow_le_pow_right (by decide) (by omega)
   have e2 : LB ^ b.length ≤ LB ^ (i - 1) := Nat.pow_le_pow_right (by decide) (by omega)
   have e3 : LB ^ i = LB ^ (i - 1) * LB := by rw [← Nat.pow_succ]; congr 1; omega
   rcases (show c = 0 ∨ c = 1 by omega) with h | h
   ·exact h
   ·subst h
    have : 2 * LB ^ (i - 1) ≤ LB ^ (i - 1) * LB := by rw [Nat.mul_comm]; exact Nat.mul_le_mul_left _ (by decide)
    omega
  have hs : Does Tryz.prog 29 [.row (u64AV pre) pre.length] (natAV (val LB a + val LB b)) := by
   have := trimmed_spec pre (by omega)
   rw [trim_digs (B := LB) (by decide) hps, show val LB pre = val LB a + val LB b by rw [hc0] at hv; omega] at this
   exact this
  refine W.seq (W.region ?_)
  refine z_F hlt' ?_
  refine WL.nil ?_
  refine W.seq (W.cond_false rfl (W.exit ?_))
  refine W.seq (W.region ?_)
  refine z_p ?_
  refine sk hs rfl rfl rfl rfl (.lend rfl (by simp [u64AV]; omega) .nil) (by rw [hpl]; simp [u64AV, List.take_of_length_le, hpl]) (natRow_plain _) (one_mine rfl) rfl rfl rfl rfl ?_
  refine z_s [_, _, _, _] ?_
  refine WL.nil ?_
  exact W.ret (fin (cs := [natAV (val LB a + val LB b)]) rfl (.shut (.plain (natRow_plain _)) .nil) rfl)
end Go.Proofs.YtejpblopbdgkaaaGreatDoor

set_option linter.unusedVariables false
set_option linter.unusedSimpArgs false
namespace Go.Proofs.YtejpblopbdgkaaaGreatDoor
open Go Go.Lens
theorem half_mul {a b : Nat} (ha : a < 4294967296) (hb : b < 4294967296) : a * b ≤ 18446744065119617025 := by
 have := Nat.mul_le_mul (show a ≤ 4294967295 by omega) (show b ≤ 4294967295 by omega)
 omega
/-- the product in halves -/
theorem mul_halves (x y : Nat) (hx : x < 18446744073709551616) (hy : y < 18446744073709551616) :
  x / 2 ^ 32 * (y / 2 ^ 32) + (x / 2 ^ 32 * (y % 2 ^ 32) + x % 2 ^ 32 * (y % 2 ^ 32) / 2 ^ 32) / 2 ^ 32 +
   ((x / 2 ^ 32 * (y % 2 ^ 32) + x % 2 ^ 32 * (y % 2 ^ 32) / 2 ^ 32) % 2 ^ 32 + x % 2 ^ 32 * (y / 2 ^ 32)) / 2 ^ 32 = x * y / 18446744073709551616 := by
 have e1 := Nat.mod_add_div x (2 ^ 32)
 have e2 := Nat.mod_add_div y (2 ^ 32)
 generalize x / 2 ^ 32 = x1 at *
 generalize x % 2 ^ 32 = x0 at *
 generalize y / 2 ^ 32 = y1 at *
 generalize y % 2 ^ 32 = y0 at *
 subst e1; subst e2
 have e3 : (x0 + 2 ^ 32 * x1) * (y0 + 2 ^ 32 * y1) = x0 * y0 + 2 ^ 32 * (x1 * y0) + 2 ^ 32 * (x0 * y1) + 18446744073709551616 * (x1 * y1) := by
  rw [Nat.add_mul, Nat.mul_add, Nat.mul_add]
  have : x0 * (2 ^ 32 * y1) = 2 ^ 32 * (x0 * y1) := by rw [Nat.mul_left_comm]
  rw [this]
  have : 2 ^ 32 * x1 * y0 = 2 ^ 32 * (x1 * y0) := by rw [Nat.mul_assoc]
  rw [this]
  have : 2 ^ 32 * x1 * (2 ^ 32 * y1) = 18446744073709551616 * (x1 * y1) := by
   rw [Nat.mul_assoc, Nat.mul_left_comm x1, ← Nat.mul_assoc]
  rw [this]
  omega
 rw [e3]
 generalize x0 * y0 = a
 generalize x1 * y0 = b
 generalize x0 * y1 = c
 generalize x1 * y1 = d
 omega
theorem mul64_spec (x y : Nat) (hx : x < 18446744073709551616) (hy : y < 18446744073709551616) : Does Tryz.prog 107 [.int .u64 x, .int .u64 y] (.tup [.int .u64 (x * y / 18446744073709551616 : Nat), .int .u64 (x * y % 18446744073709551616 : Nat)]) := by
 have p00 := half_mul (show x % 2 ^ 32 < 4294967296 by omega) (show y % 2 ^ 32 < 4294967296 by omega)
 have p10 := half_mul (show x / 2 ^ 32 < 4294967296 by omega) (show y % 2 ^ 32 < 4294967296 by omega)
 have p01 := half_mul (show x % 2 ^ 32 < 4294967296 by omega) (show y / 2 ^ 32 < 4294967296 by omega)
 have p11 := half_mul (show x / 2 ^ 32 < 4294967296 by omega) (show y / 2 ^ 32 < 4294967296 by omega)
 have hm := mul_halves x y hx hy
 refine does tab_ok Tryz.func107 rfl rfl rfl rfl rfl fun w0 H0 hk hj => ?_
 refine W.seq (W.region ?_)
 refine z_p ?_
 refine z_p ?_
 refine WL.nil ?_
 refine W.seq (W.region ?_)
 refine z_p ?_
 refine sp (v_maskN 32 rfl rfl rfl (by omega) (by decide) rfl) rfl rfl rfl ?_
 refine z_p ?_
 refine WL.nil ?_
 refine W.seq (W.region ?_)
 refine z_p ?_
 refine sp (v_shrN 32 rfl rfl rfl (by decide)) rfl rfl rfl ?_
 refine z_p ?_
 refine WL.nil ?_
 refine W.seq (W.region ?_)
 refine z_p ?_
 refine sp (v_maskN 32 rfl rfl rfl (by omega) (by decide) rfl) rfl rfl rfl ?_
 refine z_p ?_
 refine WL.nil ?_
 refine W.seq (W.region ?_)
 refine z_p ?_
 refine sp (v_shrN 32 rfl rfl rfl (by decide)) rfl rfl rfl ?_
 refine z_p ?_
 refine WL.nil ?_
 refine W.seq (W.region ?_)
 refine z_p ?_
 refine z_p ?_
 first | refine sp (v_mulN rfl rfl rfl (by omega)) rfl rfl rfl ?_ | refine sp (v_u64 rfl rfl rfl rfl (by omega) (by omega)) rfl rfl rfl ?_
 refine z_p ?_
 refine WL.nil ?_
 refine W.seq (W.region ?_)
 refine z_p ?_
 refine z_p ?_
 first | refine sp (v_mulN rfl rfl rfl (by omega)) rfl rfl rfl ?_ | refine sp (v_u64 rfl rfl rfl rfl (by omega) (by omega)) rfl rfl rfl ?_
 refine z_p ?_
 refine sp (v_shrN 32 rfl rfl rfl (by decide)) rfl rfl rfl ?_
 first | refine sp (v_addN rfl rfl rfl (by omega)) rfl rfl rfl ?_ | refine sp (v_u64 rfl rfl rfl rfl (by omega) (by omega)) rfl rfl rfl ?_
 refine z_p ?_
 refine WL.nil ?_
 refine W.seq (W.region ?_)
 refine z_p ?_
 refine sp (v_maskN 32 rfl rfl rfl (by omega) (by decide) rfl) rfl rfl rfl ?_
 refine z_p ?_
 refine WL.nil ?_
 refine W.seq (W.region ?_)
 refine z_p ?_
 refine sp (v_shrN 32 rfl rfl rfl (by decide)) rfl rfl rfl ?_
 refine z_p ?_
 refine WL.nil ?_
 refine W.seq (W.region ?_)
 refine z_p ?_
 refine z_p ?_
 refine z_p ?_
 first | refine sp (v_mulN rfl rfl rfl (by omega)) rfl rfl rfl ?_ | refine sp (v_u64 rfl rfl rfl rfl (by omega) (by omega)) rfl rfl rfl ?_
 first | refine sp (v_addN rfl rfl rfl (by omega)) rfl rfl rfl ?_ | refine sp (v_u64 rfl rfl rfl rfl (by omega) (by omega)) rfl rfl rfl ?_
 refine z_p ?_
 refine WL.nil ?_
 refine W.seq (W.region ?_)
 refine z_p ?_
 refine z_p ?_
 first | refine sp (v_mulN rfl rfl rfl (by omega)) rfl rfl rfl ?_ | refine sp (v_u64 rfl rfl rfl rfl (by omega) (by omega)) rfl rfl rfl ?_
 refine z_p ?_
 first | refine sp (v_addN rfl rfl rfl (by omega)) rfl rfl rfl ?_ | refine sp (v_u64 rfl rfl rfl rfl (by omega) (by omega)) rfl rfl rfl ?_
 refine z_p ?_
 refine sp (v_shrN 32 rfl rfl rfl (by decide)) rfl rfl rfl ?_
 first | refine sp (v_addN rfl rfl rfl (by omega)) rfl rfl rfl ?_ | refine sp (v_u64 rfl rfl rfl rfl (by omega) (by omega)) rfl rfl rfl ?_
 refine z_p ?_
 refine WL.nil ?_
 refine W.seq (W.region ?_)
 refine z_p ?_
 refine z_p ?_
 refine sp (v_mulW rfl rfl rfl) rfl rfl rfl ?_
 refine z_p ?_
 refine WL.nil ?_
 refine W.ret (fin rfl (.shut (.plain rfl) (.shut (.plain rfl) .nil)) ?_)
 simp only [tupAV]
 rw [← hm]
theorem u64AV_noRow (l : List Nat) : noRowL (u64AV l) = true := by
 induction l with
 | nil => rfl
 | cons x l ih => simp only [u64AV, List.map_cons, noRowL, AV.noRow, Bool.true_and]; exact ih
theorem u64AV_some {L : List Nat} {j x : Nat} (h : L[j]? = some x) : (u64AV L)[j]? = some (.int .u64 (x : Int)) := by simp [u64AV, h]
theorem get_mid {q r : List Nat} {x j : Nat} (h : j = q.length) : (q ++ x :: r)[j]? = some x := by subst h; simp
theorem set_mid {q r : List Nat} {x y j : Nat} (h : j = q.length) : (u64AV (q ++ x :: r)).set j (.int .u64 (y : Int)) = u64AV ((q ++ [y]) ++ r) := by subst h; simp [u64AV]
theorem row_spec (a pre rest : List Nat) (x : Nat) (hx : x < LB) (ha : Small LB a) (hpre : Small LB pre) (hl : pre.length = a.length) (hlen : pre.length + 1 + rest.length ≤ 10000000) :
  Go.Lens.Spec Tryz.prog 142 [natRow a, .int .u64 x, .sl 0 0 0 (pre.length + 1 + rest.length) false] [.cells (u64AV (pre ++ 0 :: rest)) 0 1 true none]
   (fun r os => r = .tup [] ∧ ∃ ds', (∃ q, Small LB q ∧ q.length = a.length + 1 ∧ val LB q = val LB pre + x * val LB a ∧ ds' = u64AV (q ++ rest)) ∧ os = [.cells ds' 0 1 true none]) := by
 refine doesR tab_ok Tryz.func142 rfl rfl rfl rfl rfl rfl fun w0 H0 hk hj => ?_
 refine W.seq (W.region ?_)
 first | refine z_B 1 [_, _] ?_ | refine sn (a_box rfl rfl (.inr ⟨trivial, rfl⟩)) (rfl : _ = AV.ptr 1 0 0) (rfl : _ = [_, _]) rfl rfl rfl ?_
 refine WL.nil ?_
 refine W.seq (W.region ?_)
 refine z_p ?_
 refine WL.nil ?_
 refine W.seq (W.seq (W.region ?_))
 first | refine z_f ?_ | refine z_g ?_
 first | refine z_l ?_ | refine z_r ?_
 first | refine z_n ?_ | refine z_m ?_ | refine z_k ?_
 refine z_p ?_
 refine WL.nil ?_
 refine W.block ?_
 refine W.while (fun m st => ∃ (i : Nat) (q : List Nat) (c : Nat), i ≤ a.length ∧ m = a.length - i ∧ q.length = i ∧ Small LB q ∧ c < LB ∧ val LB q + LB ^ i * c = pv LB pre i + x * pv LB a i ∧
  st = ⟨[(1, .int .u64 x), (2, .sl 0 0 0 (pre.length + 1 + rest.length) false), (3, .ptr 1 0 0), (6, .int .u64 c), (13, .row (u64AV a) a.length), (14, .int .i64 a.length), (15, .int .i64 i)],
   [.cells (u64AV (q ++ (pre.drop i ++ 0 :: rest))) 0 1 true none, .cells [.row (u64AV a) a.length] 0 1 false none]⟩) a.length
  ⟨0, [], 0, by omega, by omega, rfl, fun x hx => (by cases hx), by decide, by simp [pv, val], rfl⟩ (by refine ⟨?_, ?_, rfl, Nat.le_of_ble_eq_true rfl⟩ <;> repeat (first | exact trivial | exact rfl | refine ⟨rfl, ?_⟩ | refine ⟨.inr ⟨rfl, ?_⟩, ?_⟩ | refine ⟨.inl rfl, ?_⟩)) ?_
 rintro m _ ⟨i, q, c, hi, rfl, hql, hqs, hc, hv, rfl⟩
 by_cases hlt : i < a.length
 ·have hip : i < pre.length := by omega
  have hdr : pre.drop i = pre[i] :: pre.drop (i + 1) := List.drop_eq_getElem_cons hip
  have hai := ha _ (List.getElem_mem hlt)
  have hpi := hpre _ (List.getElem_mem hip)
  simp only [LB] at hx hai hpi hc
  have hp := Nat.mul_le_mul (show x ≤ 18446744073709551615 by omega) (show a[i] ≤ 18446744073709551615 by omega)
  have hne := u64AV_ne hlt
  have hne' : 0 < q.length + (pre.length - i + (rest.length + 1)) := by omega
  refine W.seq (W.region ?_)
  refine z_T (show (i : Int) < a.length by omega) ?_
  refine WL.nil ?_
  refine W.seq (W.cond_true rfl (W.skip ?_))
  refine W.seq (W.block ?_)
  refine W.seq (W.region ?_)
  refine z_p ?_
  first | refine sp (v_indexAddr rfl rfl rfl rfl rfl rfl rfl (by omega) (by omega)) rfl rfl rfl ?_ | refine sp (v_indexAddr_row rfl rfl rfl rfl rfl rfl (by omega) (by omega) (by assumption)) rfl rfl rfl ?_
  refine sp (v_load_radr rfl rfl rfl (loadc_at rfl (Nat.mul_one _) (u64AV_get (i := i) hlt))) rfl rfl rfl ?_
  refine z_p ?_
  refine z_p ?_
  refine WL.nil ?_
  refine W.seq (W.region ?_)
  refine z_p ?_
  refine z_p ?_
  refine z_c (mul64_spec x a[i] hx hai) ?_
  refine z_p ?_
  refine z_p ?_
  refine z_p ?_
  refine z_p ?_
  refine z_p ?_
  refine WL.nil ?_
  refine W.seq (W.region ?_)
  refine z_p ?_
  refine WL.nil ?_
  refine W.seq (W.region ?_)
  refine z_p ?_
  refine z_p ?_
  refine sp (v_ext (add64_ext _ c 0 (by omega)) rfl rfl rfl) rfl rfl rfl ?_
  refine z_p ?_
  refine z_p ?_
  refine z_p ?_
  refine z_p ?_
  refine z_p ?_
  refine WL.nil ?_
  refine W.seq (W.region ?_)
  refine z_p ?_
  refine z_p ?_
  first | refine sp (v_addN rfl rfl rfl (by omega)) rfl rfl rfl ?_ | refine sp (v_u64 rfl rfl rfl rfl (by omega) (by omega)) rfl rfl rfl ?_
  refine z_p ?_
  refine WL.nil ?_
  refine W.seq (W.region ?_)
  refine z_p ?_
  refine z_p ?_
  refine z_p ?_
  refine z_p ?_
  first | refine sp (v_indexAddr rfl rfl rfl rfl rfl rfl rfl (by omega) (by omega)) rfl rfl rfl ?_ | refine sp (v_indexAddr_row rfl rfl rfl rfl rfl rfl (by omega) (by omega) (by assumption)) rfl rfl rfl ?_
  refine sp (v_load rfl rfl rfl rfl (show (u64AV (q ++ (pre.drop i ++ 0 :: rest)))[0 + (i : Int).toNat * 1]? = _ from u64AV_some (by rw [hdr]; exact get_mid (by simp [hql])))) rfl rfl rfl ?_
  refine z_p ?_
  refine sp (v_ext (add64_ext pre[i] _ 0 (by omega)) rfl rfl rfl) rfl rfl rfl ?_
  refine z_p ?_
  refine z_p ?_
  refine z_p ?_
  first | refine sp (v_indexAddr rfl rfl rfl rfl rfl rfl rfl (by omega) (by omega)) rfl rfl rfl ?_ | refine sp (v_indexAddr_row rfl rfl rfl rfl rfl rfl (by omega) (by omega) (by assumption)) rfl rfl rfl ?_
  refine ss (a_store1 rfl rfl rfl rfl trivial (fun _ => rfl) rfl rfl (by simp [u64AV]; omega)) (Eq.trans (rfl : _ = [_, _]) (congrArg (fun z => [AObj.cells z 0 1 true none, _]) (show (u64AV (q ++ (pre.drop i ++ 0 :: rest))).set (0 + (i : Int).toNat * 1) (.int .u64 (_ : Nat)) = u64AV ((q ++ [_]) ++ (pre.drop (i + 1) ++ 0 :: rest)) from by rw [hdr]; exact set_mid (by simp [hql])))) rfl rfl ?_
  refine z_p ?_
  refine WL.nil ?_
  refine W.region ?_
  refine z_p ?_
  refine z_p ?_
  first | refine sp (v_addN rfl rfl rfl (by omega)) rfl rfl rfl ?_ | refine sp (v_u64 rfl rfl rfl rfl (by omega) (by omega)) rfl rfl rfl ?_
  refine z_p ?_
  refine WL.nil ?_
  refine W.region ?_
  refine z_i ?_
  refine z_p ?_
  refine WL.nil ?_
  have hkey : ∀ (p u s1 h1 l2 k2 : Nat), p = x * a[i] → s1 = p % 18446744073709551616 + c + 0 → u = pre[i] + s1 % 18446744073709551616 + 0 → l2 = u % 18446744073709551616 → h1 = p / 18446744073709551616 + s1 / 18446744073709551616 → k2 = h1 + u / 18446744073709551616 →
    l2 < 18446744073709551616 ∧ k2 < 18446744073709551616 ∧ l2 + 18446744073709551616 * k2 = pre[i] + p + c := by
   intro p u s1 h1 l2 k2 e1 e2 e3 e4 e5 e6
   rw [← e1] at hp
   omega
  obtain ⟨k1, k2, k3⟩ := hkey _ _ _ _ _ _ rfl rfl rfl rfl rfl rfl
  refine ⟨a.length - (i + 1), _, _, by omega, ⟨i + 1, q ++ [_], _, by omega, rfl, by simp [hql], ?_, k2, ?_, rfl⟩, (by refine ⟨?_, ?_, rfl, Nat.le_of_ble_eq_true rfl⟩ <;> repeat (first | exact trivial | exact rfl | refine ⟨rfl, ?_⟩ | refine ⟨.inr ⟨rfl, ?_⟩, ?_⟩ | refine ⟨.inl rfl, ?_⟩))⟩
  ·intro y hy
   rcases List.mem_append.1 hy with hy | hy
   ·exact hqs y hy
   ·rw [List.mem_singleton] at hy; subst hy; exact k1
  ·rw [val_snoc, pv_succ, pv_succ, hql, Nat.pow_succ]
   rw [show pre.getD i 0 = pre[i] by simp [List.getD, hip], show a.getD i 0 = a[i] by simp [List.getD, hlt]]
   generalize (pre[i] + (x * a[i] % 18446744073709551616 + c + 0) % 18446744073709551616 + 0) % 18446744073709551616 = u at k3 ⊢
   generalize x * a[i] / 18446744073709551616 + (x * a[i] % 18446744073709551616 + c + 0) / 18446744073709551616 + (pre[i] + (x * a[i] % 18446744073709551616 + c + 0) % 18446744073709551616 + 0) / 18446744073709551616 = w at k3 ⊢
   have h2 : LB ^ i * u + LB ^ i * LB * w = LB ^ i * pre[i] + LB ^ i * (x * a[i]) + LB ^ i * c := by
    rw [Nat.mul_assoc, ← Nat.mul_add, ← Nat.mul_add, ← Nat.mul_add]
    congr 1
   rw [Nat.mul_add, Nat.mul_left_comm x]
   omega
 ·have hia : i = a.length := by omega
  have hlt' : ¬ (i : Int) < a.length := by omega
  have hd : pre.drop i = [] := List.drop_eq_nil_of_le (by omega)
  have hc2 := hc
  simp only [LB] at hc
  refine W.seq (W.region ?_)
  refine z_F hlt' ?_
  refine WL.nil ?_
  refine W.seq (W.cond_false rfl (W.exit ?_))
  refine W.region ?_
  refine z_p ?_
  first | refine z_f ?_ | refine z_g ?_
  first | refine z_l ?_ | refine z_r ?_
  first | refine z_n ?_ | refine z_m ?_ | refine z_k ?_
  first | refine sp (v_indexAddr rfl rfl rfl rfl rfl rfl rfl (by omega) (by omega)) rfl rfl rfl ?_ | refine sp (v_indexAddr_row rfl rfl rfl rfl rfl rfl (by omega) (by omega) (by assumption)) rfl rfl rfl ?_
  refine sp (v_load rfl rfl rfl rfl (show (u64AV (q ++ (pre.drop i ++ 0 :: rest)))[0 + (a.length : Int).toNat * 1]? = _ from u64AV_some (by rw [hd]; exact get_mid (by simp [hql, hia])))) rfl rfl rfl ?_
  refine z_p ?_
  refine sp (v_addN (a := 0) rfl rfl rfl (by omega)) rfl rfl rfl ?_
  first | refine sp (v_indexAddr rfl rfl rfl rfl rfl rfl rfl (by omega) (by omega)) rfl rfl rfl ?_ | refine sp (v_indexAddr_row rfl rfl rfl rfl rfl rfl (by omega) (by omega) (by assumption)) rfl rfl rfl ?_
  refine ss (a_store1 rfl rfl rfl rfl trivial (fun _ => rfl) rfl rfl (by simp [u64AV]; omega)) (Eq.trans (rfl : _ = [_, _]) (congrArg (fun z => [AObj.cells z 0 1 true none, _]) (show (u64AV (q ++ (pre.drop i ++ 0 :: rest))).set (0 + (a.length : Int).toNat * 1) (.int .u64 (_ : Nat)) = u64AV ((q ++ [_]) ++ rest) from by rw [hd]; exact set_mid (by simp [hql, hia])))) rfl rfl ?_
  refine WL.nil ?_
  refine ⟨.inr rfl, [], [], [], rfl, .nil, List.nodup_nil, ?_, rfl, _, ⟨q ++ [0 + c], ?_, by simp [hql, hia], ?_, rfl⟩, rfl⟩
  ·intro ob hob
   have : ob = .cells (u64AV ((q ++ [0 + c]) ++ rest)) 0 1 true none := by simpa using hob
   subst this; trivial
  ·intro y hy
   rcases List.mem_append.1 hy with hy | hy
   ·exact hqs y hy
   ·simp at hy; subst hy; exact hc2
  ·rw [pv_all LB (show pre.length ≤ i by omega), pv_all LB (show a.length ≤ i by omega)] at hv
   rw [val_snoc, hql, Nat.zero_add]; exact hv
theorem mul_spec (a b : List Nat) (ha : Small LB a) (hb : Small LB b) (hl : a.length ≤ 1000000) (hl' : b.length ≤ 1000000) : Does Tryz.prog 118 [natRow a, natRow b] (natAV (val LB a * val LB b)) := by
 obtain ⟨N, hN⟩ : ∃ N, N = a.length + b.length + 1 := ⟨_, rfl⟩
 refine does tab_ok Tryz.func118 rfl rfl rfl rfl rfl fun w0 H0 hk hj => ?_
 refine W.seq (W.region ?_)
 first | refine z_B 0 [_] ?_ | refine sn (a_box rfl rfl (.inr ⟨trivial, rfl⟩)) (rfl : _ = AV.ptr 0 0 0) (rfl : _ = [_]) rfl rfl rfl ?_
 first | refine z_B 1 [_, _] ?_ | refine sn (a_box rfl rfl (.inr ⟨trivial, rfl⟩)) (rfl : _ = AV.ptr 1 0 0) (rfl : _ = [_, _]) rfl rfl rfl ?_
 refine z_a 2 [_, _, _] ?_
 refine WL.nil ?_
 refine W.seq (W.region ?_)
 first | refine z_f ?_ | refine z_g ?_
 first | refine z_l ?_ | refine z_r ?_
 first | refine z_n ?_ | refine z_m ?_ | refine z_k ?_
 first | refine z_f ?_ | refine z_g ?_
 first | refine z_l ?_ | refine z_r ?_
 first | refine z_n ?_ | refine z_m ?_ | refine z_k ?_
 refine z_i ?_
 refine z_i ?_
 refine sn (a_make64 N rfl rfl rfl (by omega) rfl rfl rfl rfl rfl rfl (by omega)) (rfl : _ = AV.sl 3 0 0 N true) (rfl : _ = [_, _, _, _]) rfl rfl rfl ?_
 refine z_p ?_
 refine WL.nil ?_
 refine W.seq (W.seq (W.region ?_))
 first | refine z_f ?_ | refine z_g ?_
 first | refine z_l ?_ | refine z_r ?_
 first | refine z_n ?_ | refine z_m ?_ | refine z_k ?_
 refine z_p ?_
 refine WL.nil ?_
 refine W.block ?_
 refine W.while (fun m st => ∃ (i : Nat) (q : List Nat), i ≤ b.length ∧ m = b.length - i ∧ q.length = a.length + i ∧ Small LB q ∧ val LB q = val LB a * pv LB b i ∧
  st = ⟨[(2, .ptr 0 0 0), (3, .ptr 1 0 0), (4, .ptr 2 0 0), (5, .sl 3 0 0 N true), (18, .row (u64AV b) b.length), (19, .int .i64 b.length), (20, .int .i64 i)],
   [.cells [.row (u64AV a) a.length] 0 1 false none, .cells [.row (u64AV b) b.length] 0 1 false none, .cells [.nils] 0 1 false none, .cells (u64AV (q ++ List.replicate (b.length + 1 - i) 0)) 0 1 true (some 74)]⟩) b.length
  ⟨0, List.replicate a.length 0, by omega, by omega, by simp, fun x hx => (by simp at hx; rw [hx.2]; decide), ?_, rfl⟩ ?_ ?_
 ·rw [pv_zero, Nat.mul_zero]
  generalize a.length = n
  induction n with
  | zero => rfl
  | succ n ih => simp [List.replicate_succ, val, ih]
 ·have : List.replicate N 0 = List.replicate a.length 0 ++ List.replicate (b.length + 1 - 0) 0 := by
   rw [List.replicate_append_replicate]; congr 1
  rw [this]
  exact (by refine ⟨?_, ?_, rfl, Nat.le_of_ble_eq_true rfl⟩ <;> repeat (first | exact trivial | exact rfl | refine ⟨rfl, ?_⟩ | refine ⟨.inr ⟨rfl, ?_⟩, ?_⟩ | refine ⟨.inl rfl, ?_⟩))
 rintro m _ ⟨i, q, hi, rfl, hql, hqs, hv, rfl⟩
 by_cases hlt : i < b.length
 ·have hne := u64AV_ne hlt
  have hbi := hb _ (List.getElem_mem hlt)
  refine W.seq (W.region ?_)
  refine z_T (show (i : Int) < b.length by omega) ?_
  refine WL.nil ?_
  refine W.seq (W.cond_true rfl (W.skip ?_))
  refine W.seq (W.block ?_)
  refine W.seq (W.region ?_)
  refine z_p ?_
  first | refine sp (v_indexAddr rfl rfl rfl rfl rfl rfl rfl (by omega) (by omega)) rfl rfl rfl ?_ | refine sp (v_indexAddr_row rfl rfl rfl rfl rfl rfl (by omega) (by omega) (by assumption)) rfl rfl rfl ?_
  refine sp (v_load_radr rfl rfl rfl (loadc_at rfl (Nat.mul_one _) (u64AV_get (i := i) hlt))) rfl rfl rfl ?_
  refine z_p ?_
  refine z_p ?_
  refine WL.nil ?_
  have hlen : N - (i : Int).toNat = (q.drop i).length + 1 + (List.replicate (b.length - i) 0).length := by
   simp [hql]; omega
  have hrow := row_spec a (q.drop i) (List.replicate (b.length - i) 0) b[i] hbi ha (fun y hy => hqs y (List.mem_of_mem_drop hy)) (by simp [hql]) (by simp [hql]; omega)
  have hwin : ((u64AV (q ++ List.replicate (b.length + 1 - i) 0)).drop (0 + (i : Int).toNat * 1)).take ((N - (i : Int).toNat) * 1) = u64AV (q.drop i ++ 0 :: List.replicate (b.length - i) 0) := by
   rw [hlen, show b.length + 1 - i = (b.length - i) + 1 by omega, List.replicate_succ]
   simp only [u64AV, Nat.zero_add, Nat.mul_one, Int.toNat_natCast]
   rw [← List.map_drop, List.drop_append_of_le_length (by omega), List.take_of_length_le (by simp; omega)]
  have hspl : ∀ q' : List Nat, q'.length = a.length + 1 → splice (u64AV (q ++ List.replicate (b.length + 1 - i) 0)) (0 + (i : Int).toNat * 1) (u64AV (q' ++ List.replicate (b.length - i) 0)) = u64AV ((q.take i ++ q') ++ List.replicate (b.length + 1 - (i + 1)) 0) := by
   intro q' hq'
   simp only [splice, u64AV, Nat.zero_add, Nat.mul_one, Int.toNat_natCast]
   rw [← List.map_take, ← List.map_drop, List.take_append_of_le_length (by omega), List.drop_eq_nil_of_le (by simp [hql, hq']; omega)]
   simp [List.append_assoc, show b.length + 1 - (i + 1) = b.length - i by omega]
  refine W.drawnR mixed [25, 26, 27, 28, 29] (by kernel_rfl) ?_
  apply DrawFrom.stepR
  ·intro more
   first | refine z_l1 ?_ | refine z_r1 ?_
   exact z_e
  apply DrawFrom.stepR
  ·intro more
   refine z_p ?_
   exact z_e
  apply DrawFrom.stepR
  ·intro more
   refine z_p ?_
   exact z_e
  apply DrawFrom.stepR
  ·intro more
   refine z_p ?_
   exact z_e
  apply DrawFrom.stepR
  ·intro more
   first | refine sp (v_slice_sl (m := 0) rfl rfl rfl rfl rfl rfl ⟨_, _, rfl, by omega, rfl⟩ rfl (fun _ h => by cases h) (fun h => by cases h) (by omega) (by omega)) rfl rfl rfl ?_ | refine sp (v_slice_row (m := 0) rfl rfl rfl rfl rfl (by first | (simp [u64AV]; done) | (simp [i64AV]; done)) ⟨_, _, rfl, by omega, rfl⟩ rfl (fun _ h => by cases h) (fun h => by cases h) (by omega) (by omega)) rfl rfl rfl ?_
   exact z_e
  refine DrawFrom.doneR (rfl : _ = (_, _) :: (_, _) :: (_, _) :: (_, _) :: (_, _) :: _) ?_
  refine sr hrow rfl rfl rfl rfl (.plain (natRow_plain a) (.plain rfl (.refS rfl (by simp [u64AV, hql]; omega) .nil))) (congrArg (fun n => [natRow a, AV.int .u64 (b[i] : Nat), AV.sl 0 0 0 n false]) hlen) hwin rfl rfl rfl (by rintro ds' ⟨q', _, _, _, rfl⟩; exact u64AV_noRow _) rfl rfl rfl ?_
  rintro ds' ⟨q', hqs', hql', hv', rfl⟩
  refine ⟨_, [_, _, _, _], hspl q' hql', rfl, ?_⟩
  refine WL.nil ?_
  refine W.region ?_
  refine z_i ?_
  refine z_p ?_
  refine WL.nil ?_
  refine ⟨b.length - (i + 1), _, _, by omega, ⟨i + 1, q.take i ++ q', by omega, rfl, by simp [hql, hql']; omega, ?_, ?_, rfl⟩, (by refine ⟨?_, ?_, rfl, Nat.le_of_ble_eq_true rfl⟩ <;> repeat (first | exact trivial | exact rfl | refine ⟨rfl, ?_⟩ | refine ⟨.inr ⟨rfl, ?_⟩, ?_⟩ | refine ⟨.inl rfl, ?_⟩))⟩
  ·intro y hy
   rcases List.mem_append.1 hy with hy | hy
   ·exact hqs y (List.mem_of_mem_take hy)
   ·exact hqs' y hy
  ·have hq0 : val LB q = val LB (q.take i) + LB ^ i * val LB (q.drop i) := by
    conv => lhs; rw [← List.take_append_drop i q]
    rw [val_append]; simp [hql]
   rw [val_append, hv', pv_succ, show b.getD i 0 = b[i] by simp [List.getD, hlt]]
   simp only [List.length_take, hql, Nat.min_eq_left (show i ≤ a.length + i by omega)]
   rw [Nat.mul_add, ← Nat.add_assoc, ← hq0, hv, Nat.mul_add]
   congr 1
   rw [Nat.mul_comm b[i], Nat.mul_left_comm]
 ·have hib : i = b.length := by omega
  have hlt' : ¬ (i : Int) < b.length := by omega
  have hs : Does Tryz.prog 29 [.row (u64AV (q ++ [0])) (q ++ [0]).length] (natAV (val LB a * val LB b)) := by
   have := trimmed_spec (q ++ [0]) (by simp [hql]; omega)
   rw [trim_digs (B := LB) (by decide) (fun y hy => by
    rcases List.mem_append.1 hy with hy | hy
    ·exact hqs y hy
    ·rw [List.mem_singleton] at hy; subst hy; decide), val_snoc, hv, pv_all LB (show b.length ≤ i by omega)] at this
   simpa [natAV] using this
  have hlast : [AV.row (((u64AV (q ++ List.replicate (b.length + 1 - i) 0)).drop 0).take (N * 1)) N] = [AV.row (u64AV (q ++ [0])) (q ++ [0]).length] := by
   have e1 : N = (q ++ [0]).length := by simp [hql]; omega
   have e2 : List.replicate (b.length + 1 - i) 0 = [0] := by rw [show b.length + 1 - i = 1 by omega]; rfl
   rw [e1, e2, List.drop_zero, Nat.mul_one, List.take_of_length_le (by simp [u64AV])]
  refine W.seq (W.region ?_)
  refine z_F hlt' ?_
  refine WL.nil ?_
  refine W.seq (W.cond_false rfl (W.exit ?_))
  refine W.seq (W.region ?_)
  refine z_p ?_
  refine sk hs rfl rfl rfl rfl (.lend rfl (by simp [u64AV, hql]; omega) .nil) hlast (natRow_plain _) (one_mine rfl) rfl rfl rfl rfl ?_
  refine z_s [_, _, _, _] ?_
  refine WL.nil ?_
  exact W.ret (fin (cs := [natAV (val LB a * val LB b)]) rfl (.shut (.plain (natRow_plain _)) .nil) rfl)
end Go.Proofs.YtejpblopbdgkaaaGreatDoor

set_option linter.unusedVariables false
set_option linter.unusedSimpArgs false
namespace Go.Proofs.YtejpblopbdgkaaaGreatDoor
open Go Go.Lens
def hasP (s p : List UInt8) : Bool := s.take p.length == p
theorem hasPrefix_spec (s p : List UInt8) : Does Tryz.prog 108 [.str s, .str p] (.bool (hasP s p)) := by
 refine does tab_ok Tryz.func108 rfl rfl rfl rfl rfl fun w0 H0 hk hj => ?_
 refine W.seq (W.region ?_)
 refine z_p ?_
 refine WL.nil ?_
 refine W.seq (W.region ?_)
 refine z_p ?_
 refine sp (v_len rfl rfl rfl rfl rfl trivial) rfl rfl rfl ?_
 refine z_p ?_
 refine sp (v_len rfl rfl rfl rfl rfl trivial) rfl rfl rfl ?_
 refine spb (v_pure rfl) rfl rfl rfl (fun h9 => ?_) (fun h9 => ?_)
 ·skip
  rw [decide_eq_true_eq] at h9
  refine z_p ?_
  refine z_p ?_
  refine z_p ?_
  refine sp (v_len rfl rfl rfl rfl rfl trivial) rfl rfl rfl ?_
  refine sp (v_slice_str rfl rfl rfl rfl rfl ⟨_, _, rfl, by omega, rfl⟩ (by omega) (by omega)) rfl rfl rfl ?_
  refine z_p ?_
  refine z_p ?_
  refine z_p ?_
  refine z_p ?_
  refine WL.nil ?_
  refine W.ret (fin rfl (.shut (.plain (by first | rfl | simp [plainL, AV.plain])) .nil) ?_)
  refine congrArg AV.bool ?_; first | (simp [hasP]; done) | (rw [eq_comm, hasP, beq_eq_false_iff_ne]; intro h; have := congrArg List.length h; simp at this; omega)
 ·skip
  rw [decide_eq_false_iff_not] at h9
  refine z_p ?_
  refine z_o ?_
  refine z_o ?_
  refine z_o ?_
  refine z_o ?_
  refine z_o ?_
  refine z_o ?_
  refine z_p ?_
  refine z_p ?_
  refine WL.nil ?_
  refine W.ret (fin rfl (.shut (.plain (by first | rfl | simp [plainL, AV.plain])) .nil) ?_)
  refine congrArg AV.bool ?_; first | (simp [hasP]; done) | (rw [eq_comm, hasP, beq_eq_false_iff_ne]; intro h; have := congrArg List.length h; simp at this; omega)
theorem cutPrefixL_spec (s p : List UInt8) : Does Tryz.prog 110 [.str s, .str p] (.tup [.str (if hasP s p then s.drop p.length else s), .bool (hasP s p)]) := by
 have hlen : hasP s p = true → p.length ≤ s.length := by
  intro h; rw [hasP, beq_iff_eq] at h; have := congrArg List.length h; simp at this; omega
 refine does tab_ok Tryz.func110 rfl rfl rfl rfl rfl fun w0 H0 hk hj => ?_
 refine W.seq (W.region ?_)
 refine z_p ?_
 refine z_p ?_
 refine WL.nil ?_
 refine W.seq (W.seq (W.region ?_))
 refine z_p ?_
 refine z_p ?_
 refine z_c (hasPrefix_spec s p) ?_
 refine z_p ?_
 refine WL.nil ?_
 refine W.cond rfl (fun hc9 => ?_) (fun hc9 => ?_)
 ·skip
  simp only [Bool.not_eq_true', Bool.not_eq_false'] at hc9; try have hlen := hlen hc9
  refine W.seq (W.region ?_)
  refine z_p ?_
  refine z_p ?_
  refine z_p ?_
  refine WL.nil ?_
  refine W.ret (fin rfl (.shut (.plain (by first | rfl | simp [plainL, AV.plain])) (.shut (.plain (by first | rfl | simp [plainL, AV.plain])) .nil)) ?_)
  simp [tupAV, hc9, List.take_of_length_le]
 ·skip
  simp only [Bool.not_eq_true', Bool.not_eq_false'] at hc9; try have hlen := hlen hc9
  refine W.skip ?_
  refine W.seq (W.region ?_)
  refine z_p ?_
  refine z_p ?_
  refine sp (v_len rfl rfl rfl rfl rfl trivial) rfl rfl rfl ?_
  refine sp (v_slice_str rfl rfl rfl rfl ⟨_, _, rfl, by omega, rfl⟩ rfl (by omega) (by omega)) rfl rfl rfl ?_
  refine z_p ?_
  refine z_p ?_
  refine WL.nil ?_
  refine W.ret (fin rfl (.shut (.plain (by first | rfl | simp [plainL, AV.plain])) (.shut (.plain (by first | rfl | simp [plainL, AV.plain])) .nil)) ?_)
  simp [tupAV, hc9, List.take_of_length_le]
theorem cutPrefix_spec (s p : List UInt8) : Does Tryz.prog 70 [.str s, .str p] (.tup [.str (if hasP s p then s.drop p.length else s), .bool (hasP s p)]) := by
 refine does tab_ok Tryz.func70 rfl rfl rfl rfl rfl fun w0 H0 hk hj => ?_
 refine W.seq (W.region ?_)
 refine z_p ?_
 refine z_p ?_
 refine WL.nil ?_
 refine W.seq (W.region ?_)
 refine z_p ?_
 refine z_p ?_
 refine z_c (cutPrefixL_spec s p) ?_
 refine z_p ?_
 refine z_p ?_
 refine z_p ?_
 refine z_p ?_
 refine WL.nil ?_
 refine W.ret (fin rfl (.shut (.plain (by first | rfl | simp [plainL, AV.plain])) (.shut (.plain (by first | rfl | simp [plainL, AV.plain])) .nil)) ?_)
 rfl
/-- a whole number, as the program holds it -/
def wholeRow (l : List Nat) (b : Bool) : AV := .agg [.row (u64AV l) l.length, .bool b]
theorem wholeRow_plain (l : List Nat) (b : Bool) : (wholeRow l b).plain = true := by simp [wholeRow, AV.plain, plainL, u64AV_plain]
theorem wholeOf_spec (l : List Nat) (b : Bool) : Does Tryz.prog 7 [natRow l, .bool b] (wholeRow l (b && !(l == []))) := by
 refine does tab_ok Tryz.func7 rfl rfl rfl rfl rfl fun w0 H0 hk hj => ?_
 refine W.seq (W.region ?_)
 first | refine z_B 0 [_] ?_ | refine sn (a_box rfl rfl (.inr ⟨trivial, rfl⟩)) (rfl : _ = AV.ptr 0 0 0) (rfl : _ = [_]) rfl rfl rfl ?_
 refine z_a 1 [_, _] ?_
 refine WL.nil ?_
 refine W.seq (W.drawnR mixed [5, 6, 7, 8, 9, 10, 11] (by kernel_rfl) ?_)
 apply DrawFrom.stepR
 ·intro more
  first | refine z_l1 ?_ | refine z_r1 ?_
  exact z_e
 apply DrawFrom.stepRB
 ·intro more
  refine z_p ?_
  exact z_e
 ·intro h6
  apply DrawFrom.stepR
  ·intro more
   refine z_p ?_
   exact z_e
  apply DrawFrom.stepR
  ·intro more
   first | refine z_l1 ?_ | refine z_r1 ?_
   exact z_e
  apply DrawFrom.stepR
  ·intro more
   refine z_c (zero_spec l) ?_
   exact z_e
  apply DrawFrom.stepR
  ·intro more
   refine z_p ?_
   exact z_e
  apply DrawFrom.stepR
  ·intro more
   refine z_p ?_
   exact z_e
  refine DrawFrom.doneR (rfl : _ = (_, _) :: (_, _) :: (_, _) :: (_, _) :: (_, _) :: (_, _) :: (_, _) :: _) ?_
  refine sq (v_build rfl rfl rfl rfl rfl rfl rfl) (rfl : _ = AV.agg [_, _]) rfl rfl rfl ?_
  refine z_s [_, _] ?_
  refine WL.nil ?_
  refine W.ret (fin (cs := [wholeRow l _]) rfl (.shut (.plain (wholeRow_plain _ _)) .nil) ?_)
  simp [tupAV, *]
 ·intro h6
  apply DrawFrom.stepR
  ·intro more
   refine z_p ?_
   exact z_e
  apply DrawFrom.stepR
  ·intro more
   refine z_o ?_
   exact z_e
  apply DrawFrom.stepR
  ·intro more
   refine z_o ?_
   exact z_e
  apply DrawFrom.stepR
  ·intro more
   refine z_o ?_
   exact z_e
  apply DrawFrom.stepR
  ·intro more
   refine z_p ?_
   exact z_e
  refine DrawFrom.doneR (rfl : _ = (_, _) :: (_, _) :: (_, _) :: (_, _) :: (_, _) :: (_, _) :: (_, _) :: _) ?_
  refine sq (v_build rfl rfl rfl rfl rfl rfl rfl) (rfl : _ = AV.agg [_, _]) rfl rfl rfl ?_
  refine z_s [_, _] ?_
  refine WL.nil ?_
  refine W.ret (fin (cs := [wholeRow l _]) rfl (.shut (.plain (wholeRow_plain _ _)) .nil) ?_)
  simp [tupAV, *]
theorem sign_spec (l : List Nat) (b : Bool) : Does Tryz.prog 44 [wholeRow l b] (.int .i64 (if l = [] then 0 else if b then -1 else 1)) := by
 refine does tab_ok Tryz.func44 rfl rfl rfl rfl rfl fun w0 H0 hk hj => ?_
 refine W.seq (W.region ?_)
 first | refine z_B 0 [_] ?_ | refine sn (a_box rfl rfl (.inr ⟨trivial, rfl⟩)) (rfl : _ = AV.ptr 0 0 0) (rfl : _ = [_]) rfl rfl rfl ?_
 refine z_p ?_
 refine WL.nil ?_
 refine W.seq (W.block ?_)
 refine W.seq (W.region ?_)
 first | refine z_f ?_ | refine z_g ?_
 first | refine z_l1 ?_ | refine z_r1 ?_
 refine z_c (zero_spec l) ?_
 refine z_p ?_
 refine WL.nil ?_
 refine W.cond rfl (fun hc3 => ?_) (fun hc3 => ?_)
 ·skip
  refine W.seq (W.region ?_)
  refine z_p ?_
  refine WL.nil ?_
  refine W.ret (fin rfl (.shut (.plain (by first | rfl | simp [plainL, AV.plain])) .nil) ?_)
  simp_all [tupAV]
 ·skip
  refine W.seq (W.region ?_)
  first | refine z_f ?_ | refine z_g ?_
  first | refine z_l ?_ | refine z_r ?_
  refine z_p ?_
  refine WL.nil ?_
  refine W.cond rfl (fun hc7 => ?_) (fun hc7 => ?_)
  ·skip
   refine W.seq (W.region ?_)
   refine z_p ?_
   refine WL.nil ?_
   refine W.ret (fin rfl (.shut (.plain (by first | rfl | simp [plainL, AV.plain])) .nil) ?_)
   simp_all [tupAV]
  ·skip
   refine W.skip ?_
   refine W.seq (W.region ?_)
   refine z_p ?_
   refine WL.nil ?_
   refine W.ret (fin rfl (.shut (.plain (by first | rfl | simp [plainL, AV.plain])) .nil) ?_)
   simp_all [tupAV]
end Go.Proofs.YtejpblopbdgkaaaGreatDoor

set_option linter.unusedVariables false
set_option linter.unusedSimpArgs false
namespace Go.Proofs.YtejpblopbdgkaaaGreatDoor
open Go Go.Lens
def boolsAV (l : List Bool) : List AV := l.map AV.bool
theorem boolsAV_plain (l : List Bool) : plainL (boolsAV l) = true := by
 induction l with
 | nil => rfl
 | cons x l ih => simp only [boolsAV, List.map_cons, plainL, AV.plain, Bool.true_and]; exact ih
theorem boolsAV_noRow (l : List Bool) : noRowL (boolsAV l) = true := by
 induction l with
 | nil => rfl
 | cons x l ih => simp only [boolsAV, List.map_cons, noRowL, AV.noRow, Bool.true_and]; exact ih
theorem boolsAV_in (k : Nat) (l : List Bool) : scopedL k (boolsAV l) = true := by
 induction l with
 | nil => rfl
 | cons x l ih => simp only [boolsAV, List.map_cons, scopedL, AV.inside, Bool.true_and]; exact ih
/-- the table of a set of signs -/
def tbl (l : List UInt8) : List Bool := (List.range 256).map fun k => l.any fun c => c.toNat == k
theorem tbl_length (l : List UInt8) : (tbl l).length = 256 := by simp [tbl]
theorem tbl_get (l : List UInt8) (c : UInt8) : (tbl l)[c.toNat]? = some (l.contains c) := by
 have := c.toNat_lt
 simp only [tbl, List.getElem?_map, List.getElem?_range (show c.toNat < 256 by omega), Option.map_some, Option.some.injEq]
 rw [Bool.eq_iff_iff]
 simp only [List.any_eq_true, List.contains_iff_mem, beq_iff_eq]
 constructor
 ·rintro ⟨x, hx, h⟩
  have : x = c := UInt8.toNat_inj.1 h
  exact this ▸ hx
 ·intro h; exact ⟨c, h, rfl⟩
def tblO (l : List UInt8) : AObj := .cells (boolsAV (tbl l)) 0 1 false none
theorem tblO_plain (l : List UInt8) : ∀ ob, ob ∈ [tblO l] → match ob with | .cells ds _ _ false _ => plainL ds = true | _ => True := by
 intro ob hob
 rw [List.mem_singleton] at hob
 subst hob
 exact boolsAV_plain _
theorem contains_spec (l : List UInt8) (c : UInt8) : Go.Lens.Spec Tryz.prog 138 [.ptr 0 0 0, .int .u8 c.toNat] [tblO l] (fun r os => r = .bool (l.contains c) ∧ os = [tblO l]) := by
 have hc := c.toNat_lt
 refine doesR tab_ok Tryz.func138 rfl rfl rfl rfl rfl rfl fun w0 H0 hk hj => ?_
 refine W.seq (W.region ?_)
 refine z_p ?_
 refine WL.nil ?_
 refine W.seq (W.region ?_)
 refine z_p ?_
 refine z_p ?_
 refine sp (v_nilCheck rfl rfl rfl) rfl rfl rfl ?_
 refine sp (v_indexAddr_arr rfl rfl rfl rfl rfl rfl rfl (by omega) (by omega)) rfl rfl rfl ?_
 refine sp (v_load rfl rfl rfl rfl (show (boolsAV (tbl l))[0 + (c.toNat : Int).toNat * 1]? = some (.bool (l.contains c)) from by simp [boolsAV, tbl_get])) rfl rfl rfl ?_
 refine z_p ?_
 refine WL.nil ?_
 exact W.ret (finR rfl (.shut (.plain rfl) .nil) rfl (tblO_plain l) rfl)
theorem trimLeftA_spec (l s : List UInt8) : Go.Lens.Spec Tryz.prog 114 [.str s, .ptr 0 0 0] [tblO l] (fun r os => r = .str (s.dropWhile l.contains) ∧ os = [tblO l]) := by
 refine doesR tab_ok Tryz.func114 rfl rfl rfl rfl rfl rfl fun w0 H0 hk hj => ?_
 refine W.seq (W.region ?_)
 refine z_p ?_
 refine WL.nil ?_
 refine W.seq (W.block ?_)
 refine W.while (fun m st => ∃ s' : List UInt8, m = s'.length ∧ s'.length ≤ s.length ∧ s'.dropWhile l.contains = s.dropWhile l.contains ∧ st = ⟨[(0, .str s'), (1, .ptr 0 0 0)], [tblO l]⟩) s.length ⟨s, rfl, Nat.le_refl _, rfl, rfl⟩ ?_ ?_
 ·exact ⟨⟨rfl, rfl, trivial⟩, ⟨.inr ⟨rfl, boolsAV_in _ _⟩, trivial⟩, rfl, Nat.le_of_ble_eq_true rfl⟩
 rintro m _ ⟨s', rfl, hsl, hd, rfl⟩
 cases s' with
 | nil =>
  refine W.seq (W.seq (W.region ?_))
  refine z_p ?_
  refine sp (v_len rfl rfl rfl rfl rfl trivial) rfl rfl rfl ?_
  refine z_F (show ¬ ((([] : List UInt8).length : Nat) : Int) > 0 by simp) ?_
  refine WL.nil ?_
  refine W.cond_false rfl (W.exit ?_)
  refine W.seq (W.region ?_)
  refine z_p ?_
  refine z_p ?_
  refine WL.nil ?_
  exact W.ret (finR rfl (.shut (.plain rfl) .nil) rfl (tblO_plain l) (congrArg AV.str hd))
 | cons c s' =>
  have hl1 : (c :: s').length = s'.length + 1 := rfl
  refine W.seq (W.seq (W.region ?_))
  refine z_p ?_
  refine sp (v_len rfl rfl rfl rfl rfl trivial) rfl rfl rfl ?_
  refine z_T (show (((c :: s').length : Nat) : Int) > 0 by simp) ?_
  refine WL.nil ?_
  refine W.cond_true rfl (W.skip ?_)
  refine W.block ?_
  refine W.seq (W.seq (W.region ?_))
  refine z_p ?_
  refine z_p ?_
  refine sp (v_index_str (b := c) rfl rfl rfl rfl rfl (by omega) rfl) rfl rfl rfl ?_
  refine srp (contains_spec l c) rfl rfl rfl rfl rfl (.refP (i := 0) (sz := 256) rfl (by simp [boolsAV, tbl_length]) (fun _ => by rw [List.drop_zero, List.take_of_length_le (by simp [boolsAV, tbl_length])]; exact boolsAV_plain _) (.plain rfl .nil)) rfl (by rw [List.drop_zero, List.take_of_length_le (by simp [boolsAV, tbl_length])]) rfl rfl (boolsAV_noRow _) (boolsAV_plain _) rfl rfl rfl ?_
  refine z_p ?_
  refine WL.nil ?_
  refine W.cond rfl (fun hc => ?_) (fun hc => ?_)
  ·have hc' : l.contains c = false := by simpa using hc
   refine W.exit ?_
   refine W.seq (W.region ?_)
   refine z_p ?_
   refine z_p ?_
   refine WL.nil ?_
   refine W.ret (finR rfl (.shut (.plain rfl) .nil) rfl (tblO_plain l) (congrArg AV.str ?_))
   rw [← hd, List.dropWhile_cons, if_neg (by rw [hc']; simp)]
  ·have hc' : l.contains c = true := by simpa using hc
   refine W.skip ?_
   refine W.region ?_
   refine z_p ?_
   refine sq (v_slice_str rfl rfl rfl rfl ⟨_, _, rfl, by omega, rfl⟩ rfl (by omega) (by omega)) (show _ = AV.str s' from by simp) rfl rfl rfl ?_
   refine z_p ?_
   refine WL.nil ?_
   refine ⟨s'.length, _, _, by simp, ⟨s', rfl, by simp only [List.length_cons] at hsl; omega, by rw [← hd, List.dropWhile_cons, if_pos hc'], rfl⟩, ⟨⟨rfl, rfl, trivial⟩, ⟨.inr ⟨rfl, boolsAV_in _ _⟩, trivial⟩, rfl, Nat.le_of_ble_eq_true rfl⟩⟩
/-- the same from the right -/
def dropR (p : UInt8 → Bool) (s : List UInt8) : List UInt8 := (s.reverse.dropWhile p).reverse
theorem dropR_snoc {p : UInt8 → Bool} {s : List UInt8} {c : UInt8} : dropR p (s ++ [c]) = if p c then dropR p s else s ++ [c] := by
 simp only [dropR, List.reverse_append, List.reverse_cons, List.reverse_nil, List.nil_append, List.singleton_append, List.dropWhile_cons]
 split <;> simp
theorem trimRightA_spec (l s : List UInt8) (hs : s.length ≤ 9223372036854775807) : Go.Lens.Spec Tryz.prog 115 [.str s, .ptr 0 0 0] [tblO l] (fun r os => r = .str (dropR l.contains s) ∧ os = [tblO l]) := by
 refine doesR tab_ok Tryz.func115 rfl rfl rfl rfl rfl rfl fun w0 H0 hk hj => ?_
 refine W.seq (W.region ?_)
 refine z_p ?_
 refine WL.nil ?_
 refine W.seq (W.block ?_)
 refine W.while (fun m st => ∃ s' : List UInt8, m = s'.length ∧ s'.length ≤ s.length ∧ dropR l.contains s' = dropR l.contains s ∧ st = ⟨[(0, .str s'), (1, .ptr 0 0 0)], [tblO l]⟩) s.length ⟨s, rfl, Nat.le_refl _, rfl, rfl⟩ ?_ ?_
 ·exact ⟨⟨rfl, rfl, trivial⟩, ⟨.inr ⟨rfl, boolsAV_in _ _⟩, trivial⟩, rfl, Nat.le_of_ble_eq_true rfl⟩
 rintro m _ ⟨s', rfl, hsl, hd, rfl⟩
 rcases List.eq_nil_or_concat s' with rfl | ⟨s', c, rfl⟩
 ·skip
  refine W.seq (W.seq (W.region ?_))
  refine z_p ?_
  refine sp (v_len rfl rfl rfl rfl rfl trivial) rfl rfl rfl ?_
  refine z_F (show ¬ ((([] : List UInt8).length : Nat) : Int) > 0 by simp) ?_
  refine WL.nil ?_
  refine W.cond_false rfl (W.exit ?_)
  refine W.seq (W.region ?_)
  refine z_p ?_
  refine z_p ?_
  refine WL.nil ?_
  exact W.ret (finR rfl (.shut (.plain rfl) .nil) rfl (tblO_plain l) (congrArg AV.str hd))
 ·rw [List.concat_eq_append] at hsl hd ⊢
  have hle : (s' ++ [c]).length = s'.length + 1 := by simp
  refine W.seq (W.seq (W.region ?_))
  refine z_p ?_
  refine sp (v_len rfl rfl rfl rfl rfl trivial) rfl rfl rfl ?_
  refine z_T (show (((s' ++ [c]).length : Nat) : Int) > 0 by omega) ?_
  refine WL.nil ?_
  refine W.cond_true rfl (W.skip ?_)
  refine W.block ?_
  refine W.seq (W.seq (W.region ?_))
  refine z_p ?_
  refine z_p ?_
  refine z_p ?_
  refine sp (v_len rfl rfl rfl rfl rfl trivial) rfl rfl rfl ?_
  refine z_i ?_
  refine sp (v_index_str (b := c) rfl rfl rfl rfl rfl (by omega) (by rw [show (((s' ++ [c]).length : Nat) - 1 : Int).toNat = s'.length by omega]; simp)) rfl rfl rfl ?_
  refine srp (contains_spec l c) rfl rfl rfl rfl rfl (.refP (i := 0) (sz := 256) rfl (by simp [boolsAV, tbl_length]) (fun _ => by rw [List.drop_zero, List.take_of_length_le (by simp [boolsAV, tbl_length])]; exact boolsAV_plain _) (.plain rfl .nil)) rfl (by rw [List.drop_zero, List.take_of_length_le (by simp [boolsAV, tbl_length])]) rfl rfl (boolsAV_noRow _) (boolsAV_plain _) rfl rfl rfl ?_
  refine z_p ?_
  refine WL.nil ?_
  refine W.cond rfl (fun hc => ?_) (fun hc => ?_)
  ·have hc' : l.contains c = false := by simpa using hc
   refine W.exit ?_
   refine W.seq (W.region ?_)
   refine z_p ?_
   refine z_p ?_
   refine WL.nil ?_
   refine W.ret (finR rfl (.shut (.plain rfl) .nil) rfl (tblO_plain l) (congrArg AV.str ?_))
   rw [← hd, dropR_snoc, if_neg (by rw [hc']; simp)]
  ·have hc' : l.contains c = true := by simpa using hc
   refine W.skip ?_
   refine W.region ?_
   refine z_p ?_
   refine z_p ?_
   refine sp (v_len rfl rfl rfl rfl rfl trivial) rfl rfl rfl ?_
   refine z_i ?_
   refine sq (v_slice_str rfl rfl rfl rfl rfl ⟨_, _, rfl, by omega, rfl⟩ (by omega) (by omega)) (show _ = AV.str s' from by rw [show (((s' ++ [c]).length : Nat) - 1 : Int).toNat = s'.length by omega]; simp) rfl rfl rfl ?_
   refine z_p ?_
   refine WL.nil ?_
   refine ⟨s'.length, _, _, by omega, ⟨s', rfl, by omega, by rw [← hd, dropR_snoc, if_pos hc'], rfl⟩, ⟨⟨rfl, rfl, trivial⟩, ⟨.inr ⟨rfl, boolsAV_in _ _⟩, trivial⟩, rfl, Nat.le_of_ble_eq_true rfl⟩⟩
end Go.Proofs.YtejpblopbdgkaaaGreatDoor

set_option linter.unusedVariables false
set_option linter.unusedSimpArgs false
set_option maxRecDepth 20000
namespace Go.Proofs.YtejpblopbdgkaaaGreatDoor
open Go Go.Lens
theorem ofVals_rep (n : Nat) : ofVals (List.replicate n (.bool false)) = some (boolsAV (List.replicate n false)) := by
 induction n with
 | zero => rfl
 | succ n ih => simp only [List.replicate_succ, ofVals, ofVal, ih, boolsAV, List.map_cons]
theorem tbl_nil : tbl [] = List.replicate 256 false := by decide
theorem zeros256 : ofVals (List.replicate 256 (.bool false)) = some (boolsAV (tbl [])) := by rw [ofVals_rep, tbl_nil]
theorem loadc_tbl {y : Ty} {l : List UInt8} (hk : y.k.agg = true) (hs : y.size = 256) : loadc y (boolsAV (tbl l)) 0 = some (.agg (boolsAV (tbl l))) := by
 have : (boolsAV (tbl l)).length = 256 := by simp [boolsAV, tbl_length]
 simp [loadc, hk, hs, this, List.take_of_length_le]
theorem boolsAV_oneB (l : List Bool) : (boolsAV l).all AV.oneB = true := by
 induction l with
 | nil => rfl
 | cons x l ih => simp only [boolsAV, List.map_cons, List.all_cons, AV.oneB, Bool.true_and]; exact ih
theorem tbl_set (l : List UInt8) (c : UInt8) : (boolsAV (tbl l)).set c.toNat (.bool true) = boolsAV (tbl (l ++ [c])) := by
 apply List.ext_getElem?
 intro k
 simp only [List.getElem?_set, boolsAV, List.length_map, tbl_length, List.getElem?_map]
 have hc := c.toNat_lt
 by_cases hk : k < 256
 ·simp only [tbl, List.getElem?_map, List.getElem?_range hk, Option.map_some]
  by_cases e : c.toNat = k
  ·subst e; simp; omega
  ·simp [e]
 ·simp only [tbl, List.getElem?_map, List.getElem?_eq_none (show (List.range 256).length ≤ k by simp; omega), Option.map_none]
  rw [if_neg (by omega)]
theorem makeSet_spec (l : List UInt8) (ha : ∀ c ∈ l, c.toNat < 128) (hl : l.length ≤ 9223372036854775807) : Does Tryz.prog 113 [.str l] (.tup [.agg (boolsAV (tbl l)), .bool true]) := by
 refine does tab_ok Tryz.func113 rfl rfl rfl rfl rfl fun w0 H0 hk hj => ?_
 refine W.seq (W.region ?_)
 refine sn (a_alloc rfl rfl rfl zeros256) (rfl : _ = AV.ptr 0 0 0) (rfl : _ = [tblO []]) rfl rfl rfl ?_
 refine z_p ?_
 refine WL.nil ?_
 refine W.seq (W.seq (W.region ?_))
 refine z_p ?_
 refine WL.nil ?_
 refine W.block ?_
 refine W.while (fun m st => ∃ j : Nat, j ≤ l.length ∧ m = l.length - j ∧ st = ⟨[(0, .str l), (2, .ptr 0 0 0), (4, .int .i64 j)], [tblO (l.take j)]⟩) l.length ⟨0, by omega, by omega, rfl⟩ ⟨⟨rfl, rfl, rfl, trivial⟩, ⟨.inr ⟨rfl, boolsAV_in _ _⟩, trivial⟩, rfl, Nat.le_of_ble_eq_true rfl⟩ ?_
 rintro m _ ⟨j, hj1, rfl, rfl⟩
 by_cases hlt : j < l.length
 ·have hc := ha _ (List.getElem_mem hlt)
  have hset : (boolsAV (tbl (l.take j))).set (0 + (l[j].toNat : Int).toNat * 1) (.bool true) = boolsAV (tbl (l.take (j + 1))) := by
   rw [List.take_succ_eq_append_getElem hlt, ← tbl_set]; simp
  refine W.seq (W.seq (W.region ?_))
  refine z_p ?_
  refine z_p ?_
  refine sp (v_len rfl rfl rfl rfl rfl trivial) rfl rfl rfl ?_
  refine z_T (show (j : Int) < l.length by omega) ?_
  refine WL.nil ?_
  refine W.cond_true rfl (W.skip ?_)
  refine W.seq (W.block ?_)
  refine W.seq (W.region ?_)
  refine z_p ?_
  refine z_p ?_
  refine sp (v_index_str (b := l[j]) rfl rfl rfl rfl rfl (by omega) (by simp [hlt])) rfl rfl rfl ?_
  refine z_p ?_
  refine WL.nil ?_
  refine W.seq (W.seq (W.region ?_))
  refine z_p ?_
  refine z_F (show ¬ ((l[j].toNat : Int) ≥ 128) by omega) ?_
  refine WL.nil ?_
  refine W.cond_false rfl (W.skip ?_)
  refine W.region ?_
  refine z_p ?_
  refine sp (v_indexAddr_arr rfl rfl (rfl : [tblO (l.take j)][0]? = _) rfl rfl rfl rfl (by omega) (by omega)) rfl rfl rfl ?_
  refine ss (a_store1 rfl rfl (rfl : [tblO (l.take j)][0]? = _) rfl trivial (fun h => by cases h) rfl rfl (by simp [boolsAV, tbl_length]; omega)) (Eq.trans (rfl : _ = [_]) (congrArg (fun q => [AObj.cells q 0 1 false none]) hset)) rfl rfl ?_
  refine WL.nil ?_
  refine W.region ?_
  refine z_p ?_
  refine z_i ?_
  refine z_p ?_
  refine WL.nil ?_
  exact ⟨l.length - (j + 1), _, _, by omega, ⟨j + 1, by omega, rfl, rfl⟩, ⟨⟨rfl, rfl, rfl, trivial⟩, ⟨.inr ⟨rfl, boolsAV_in _ _⟩, trivial⟩, rfl, Nat.le_of_ble_eq_true rfl⟩⟩
 ·have hj : j = l.length := by omega
  subst hj
  rw [List.take_length]
  refine W.seq (W.seq (W.region ?_))
  refine z_p ?_
  refine z_p ?_
  refine sp (v_len rfl rfl rfl rfl rfl trivial) rfl rfl rfl ?_
  refine z_F (show ¬ ((l.length : Int) < l.length) by omega) ?_
  refine WL.nil ?_
  refine W.cond_false rfl (W.exit ?_)
  refine W.seq (W.region ?_)
  refine sp (v_load rfl rfl (rfl : [tblO l][0]? = _) rfl (loadc_tbl rfl rfl)) rfl rfl rfl ?_
  refine ss (a_storeA rfl rfl (rfl : [tblO l][0]? = _) rfl (boolsAV_oneB _) (fun h => by cases h) rfl (by simp [boolsAV, tbl_length]) (by simp [boolsAV, tbl_length]) (by simp)) (Eq.trans (rfl : _ = [_]) (congrArg (fun q => [AObj.cells q 0 1 false none]) (splice_self _))) rfl rfl ?_
  refine z_p ?_
  refine WL.nil ?_
  exact W.ret (fin (resAV_cell rfl (rfl : [tblO l][0]? = _) rfl (loadc_tbl rfl rfl) rfl) (.shut (.plain (by simp [AV.plain, boolsAV_plain])) (.shut (.plain rfl) .nil)) rfl)
/-- what is left once signs of a set are taken off both ends -/
def trimF (l s : List UInt8) : List UInt8 := (dropR l.contains s).dropWhile l.contains
theorem trim_spec (l s : List UInt8) (ha : ∀ c ∈ l, c.toNat < 128) (hl : l.length ≤ 9223372036854775807) (h2 : 2 ≤ l.length) (hs : s.length ≤ 9223372036854775807) : Does Tryz.prog 72 [.str s, .str l] (.str (trimF l s)) := by
 have hle : (l == ([] : List UInt8)) = false := by cases l with | nil => simp at h2 | cons c l => rfl
 refine does tab_ok Tryz.func72 rfl rfl rfl rfl rfl fun w0 H0 hk hj => ?_
 by_cases he : s = []
 ·subst he
  refine W.seq (W.region ?_)
  refine z_p ?_
  refine WL.nil ?_
  refine W.seq (W.seq (W.region ?_))
  refine z_p ?_
  refine z_p ?_
  refine z_p ?_
  refine z_o ?_
  refine z_o ?_
  refine z_p ?_
  refine WL.nil ?_
  refine W.cond_true rfl ?_
  refine W.seq (W.region ?_)
  refine z_p ?_
  refine z_p ?_
  refine WL.nil ?_
  exact W.ret (fin rfl (.shut (.plain rfl) .nil) rfl)
 ·have hse : (s == ([] : List UInt8)) = false := by cases s with | nil => exact absurd rfl he | cons c s => rfl
  refine W.seq (W.region ?_)
  refine z_p ?_
  refine WL.nil ?_
  refine W.seq (W.seq (W.region ?_))
  refine z_p ?_
  refine sp (v_is false rfl rfl rfl rfl hse) rfl rfl rfl ?_
  refine z_p ?_
  refine z_p ?_
  refine sp (v_is false rfl rfl rfl rfl hle) rfl rfl rfl ?_
  refine z_p ?_
  refine WL.nil ?_
  refine W.cond_false rfl (W.skip ?_)
  refine W.seq (W.seq (W.region ?_))
  refine z_p ?_
  refine sp (v_len rfl rfl rfl rfl rfl trivial) rfl rfl rfl ?_
  refine sp (v_is false rfl rfl rfl rfl (beq_eq_false_iff_ne.2 (by omega))) rfl rfl rfl ?_
  refine z_p ?_
  refine z_o ?_
  refine z_o ?_
  refine z_o ?_
  refine z_p ?_
  refine WL.nil ?_
  refine W.cond_false rfl (W.skip ?_)
  refine W.seq (W.seq (W.region ?_))
  refine z_p ?_
  refine sc (makeSet_spec l ha hl) rfl rfl rfl rfl rfl (by simp [AV.plain, plainL, boolsAV_plain]) rfl rfl rfl ?_
  refine z_p ?_
  refine z_p ?_
  refine z_p ?_
  refine sn (a_alloc rfl rfl rfl zeros256) (rfl : _ = AV.ptr 0 0 0) (rfl : _ = [tblO []]) rfl rfl rfl ?_
  refine ss (a_storeA rfl rfl (rfl : [tblO []][0]? = _) rfl (boolsAV_oneB _) (fun h => by cases h) rfl (by simp [boolsAV, tbl_length]) (by simp [boolsAV, tbl_length]) (by simp [boolsAV, tbl_length])) (Eq.trans (rfl : _ = [_]) (congrArg (fun q => [AObj.cells q 0 1 false none]) (show splice (boolsAV (tbl [])) 0 (boolsAV (tbl l)) = boolsAV (tbl l) from by simp [splice, boolsAV, tbl_length, List.drop_eq_nil_of_le]))) rfl rfl ?_
  refine z_p ?_
  refine WL.nil ?_
  refine W.seq (W.region ?_)
  refine z_p ?_
  refine WL.nil ?_
  refine W.cond_true rfl ?_
  refine W.seq (W.region ?_)
  refine z_p ?_
  refine srp (trimRightA_spec l s hs) rfl rfl rfl rfl (rfl : [tblO l][0]? = _) (.plain rfl (.refP (i := 0) (sz := 256) (rfl : [tblO l][0]? = _) (by simp [boolsAV, tbl_length]) (fun _ => by rw [List.drop_zero, List.take_of_length_le (by simp [boolsAV, tbl_length])]; exact boolsAV_plain _) .nil)) rfl (by rw [List.drop_zero, List.take_of_length_le (by simp [boolsAV, tbl_length])]) rfl rfl (boolsAV_noRow _) (boolsAV_plain _) rfl rfl rfl ?_
  refine srp (trimLeftA_spec l _) rfl rfl rfl rfl (rfl : [tblO l][0]? = _) (.plain rfl (.refP (i := 0) (sz := 256) (rfl : [tblO l][0]? = _) (by simp [boolsAV, tbl_length]) (fun _ => by rw [List.drop_zero, List.take_of_length_le (by simp [boolsAV, tbl_length])]; exact boolsAV_plain _) .nil)) rfl (by rw [List.drop_zero, List.take_of_length_le (by simp [boolsAV, tbl_length])]) rfl rfl (boolsAV_noRow _) (boolsAV_plain _) rfl rfl rfl ?_
  refine z_p ?_
  refine WL.nil ?_
  exact W.ret (fin rfl (.shut (.plain rfl) .nil) rfl)
end Go.Proofs.YtejpblopbdgkaaaGreatDoor
