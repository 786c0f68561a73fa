/- Lens, part 15: regions that draw their order, in which some values may come behind a store. Lens, part 18: a slice that begins as nil and grows, one element at a time. Lens, part 19: what strings.Builder is made of: pointers compared, unsafe pointers, texts appended to bytes, bytes as a text. Lens, part 20: regions that draw their order, in which variables come to be at any time. Lens, part 25: a slice that begins as nil and grows, in a place that is kept free for it. Lens, part 16: what comes in, and what a law's row asks. Texts put together. Lens, part 28: slices without spare room; maps of the call's own. Lens, part 29: objects behind known ones are dropped, also within a call that is walked where it stands; loops there; maps of the call's own. Lens, part 30: a walk over objects of which only some are known: `O ++ l`, the new ones in `l`. The seat's types as a table, by program (wip/seat.py). Plain law: numbers as limbs. nat: what its functions do. nat: products. strings: CutPrefix, Trim; whole: Of, Sign. strings: Trim of plain signs. strings: makeASCIISet, Trim of plain signs. digits: Parse. whole: Parse. date: what its first functions do, and the reference's. chart: is, Check. nat: Limbs, Cmp, Sub. math/bits: Len64, LeadingZeros64, Div64. quot: by, Div by one limb. Numbers as texts: plain law; digits.small. strings.Builder: what its methods do to a builder of the call's own. digits: Print, Length. nat: Bits; digits: Length, power, Pow, Ten. What the laws' inputs are: limbs, whole numbers. whole: From, Add, Sub, Mul, Neg, Cmp, Sign, Abs, Print, Floor, Int. The document's numbers: chattelref01.Trim, Small, Read. The document's numbers: chattelref01.at, Add, Mul, Of. The document's numbers: chattelref01.Mul, Of. The document's whole numbers: chattelref04.Of, From, Read; chattelref03.Text; chattelref14.Whole. whole: Floor, Int; layer 4: num, wakes. Layer 3: wakes, DigitsAdd. Layer 4: num, wakes, WholeRules, WholeInts. book: entries, balances; count. book: New, Balance, amount. Lens, part 17: a law's row out of what the law answers. date.Cmp, by cmp.Or and cmp.Compare; the reference's. chart: words, Word, Of. chattellaw19: wakes. chattelref14.Whole, chattelref19.Check, chattelref09.Make, chattellaw19.ChartChecks. chattelref19.Check, chattelref09.Make, chattellaw19.ChartChecks. book: a book's entries and balances. book: Post. book: Post, of any book. Lens, part 31: slices of the call's own against nil; empty literals without room. book: Entries, Len. book: Upto. book: Back, when it may not be; a nil book. chattellaw20: wakes. -/
import Derived.Test.YtehoobhbginahaaDoorKN0
import Derived.Lib.Builder
import Derived.Lib.AppendStr
import Derived.Lib.UnsafeStr
import Derived.Laws.BytesString
import Derived.Laws.Pointers
import Derived.Carry
import Derived.WalkKit
import Derived.ProofKit
import Derived.ChangeOld
import Derived.ChangeArms
import Derived.OpenShut
import Derived.DataElems
import Derived.SizedLaws
import Derived.ArgAppend
import Derived.MapKept
import Derived.Test.YtehoobhbginahaaDoorProg
import Derived.Lay
import Derived.LaidOnce
import Derived.SevenTiedAt

set_option linter.unusedVariables false
set_option linter.unusedSimpArgs false
namespace Go.Lens
open Go Go.RowKit
def sel (acc : List (Nat × AV)) (ts : List Nat) : List (Nat × AV) :=
  match acc with
  | [] => []
  | p :: r => if ts.contains p.1 then p :: sel r ts else sel r ts
theorem look_sel {acc : List (Nat × AV)} {ts : List Nat} {t : Nat} {v : AV} (h : look (sel acc ts) t = some v) : t ∈ ts ∧ look acc t = some v := by
  induction acc with
  | nil => cases h
  | cons p r ih =>
    obtain ⟨k, c⟩ := p
    simp only [sel] at h
    split at h
    · rename_i hk
      simp only [look] at h ⊢
      split at h
      · rename_i he
        have : k = t := by simpa using he
        subst this
        rw [if_pos (by simp)]
        exact ⟨by simpa using hk, h⟩
      · rename_i he
        rw [if_neg he]; exact ih h
    · rename_i hk
      obtain ⟨h1, h2⟩ := ih h
      have : k ≠ t := fun e => hk (by subst e; simpa using h1)
      refine ⟨h1, ?_⟩
      simp only [look]
      rw [if_neg (by simpa using this)]; exact h2
/-- the temporaries that an operation waits for -/
def depT (ops : Array Oper) (o : Oper) : List Nat := (depsOf o).filterMap fun j => (ops[j]?).bind (·.dst)
def dstsOf (ops : Array Oper) (k m : Nat) : List Nat := ((ops.toList.drop k).take m).filterMap (·.dst)
def midOK (ops : Array Oper) (ds fl : List Nat) (mN : Nat) : Bool :=
  decide ds.Nodup && decide (ds.length + mN ≤ ops.size) && (List.range ds.length).all (fun i => (ops[i]?).any fun o => o.dst == ds[i]?) &&
  ((List.range ops.size).all fun i => (ops[i]?).any fun o => (depsOf o).all fun j => decide (j < i)) &&
  ((List.range mN).all fun j => (List.range (ds.length + j)).all fun i => fl.contains i || behind ops 24 (ds.length + j) i) &&
  ((List.range' (ds.length + mN) (ops.size - (ds.length + mN))).all fun i => (List.range i).all fun j => behind ops 24 i j) &&
  ((dstsOf ops ds.length mN).all fun t => !ds.contains t) && fl.all (fun i => decide (i < ds.length)) &&
  ((List.range ds.length).all fun i => fl.contains i || (ops[i]?).any fun o => (depsOf o).all fun j => !fl.contains j)
theorem ready_ne {ops : Array Oper} {listed : Array Bool} (hsz : listed.size = ops.size) (hback : ∀ (i : Nat) (o : Oper), ops[i]? = some o → ∀ e ∈ o.after.toList, Region.binds .any e = true → e.on < i) {x : Nat} (hx : x < ops.size) (hl : listed.getD x true = false) :
    Region.ready .any ops listed ≠ [] := by
  intro h0
  obtain ⟨m, ⟨hm1, hm2⟩, hmin⟩ := least (p := fun j => j < ops.size ∧ listed.getD j true = false) ⟨x, hx, hl⟩
  have : m ∈ Region.ready .any ops listed := by
    unfold Region.ready
    rw [List.mem_filter, List.mem_range]
    refine ⟨hm1, ?_⟩
    simp only [hm2, Bool.not_false, Bool.true_and, Array.getElem?_eq_getElem hm1, Option.map_some, Option.getD_some, Array.all_eq_true']
    intro e he
    by_cases hb : Region.binds .any e = true
    · simp only [hb, Bool.not_true, Bool.false_or]
      have hbk := hback m _ (Array.getElem?_eq_getElem hm1) e (by simpa using he) hb
      have h5 : listed.getD e.on true = true := by
        cases h6 : listed.getD e.on true with
        | true => rfl
        | false => have := hmin e.on ⟨by omega, h6⟩; omega
      have : e.on < listed.size := by rw [hsz]; omega
      simpa [Array.getD, this] using h5
    · simp [hb]
  rw [h0] at this; cases this
structure Mid (ops : Array Oper) (ds fl : List Nat) (mN : Nat) (acc env0 : List (Nat × AV)) (ms : Nat → St) (p : Nat) (env : List (Nat × AV)) (listed : Array Bool) : Prop where
  size : listed.size = ops.size
  closed : Closed ops listed
  pl : p ≤ mN
  tl : ∀ i, ds.length + p ≤ i → i < ops.size → listed.getD i true = false
  ml : ∀ j, j < p → listed.getD (ds.length + j) true = true
  all : 0 < p → ∀ i, i < ds.length → i ∉ fl → listed.getD i true = true
  vals : ∀ i d, ds[i]? = some d → listed.getD i true = true → look env d = look acc d
  rest : ∀ t v, t ∉ ds → t ∉ dstsOf ops ds.length mN → look env0 t = some v → look env t = some v
  zero : p = 0 → ∀ t v, t ∉ ds → look env0 t = some v → look env t = some v
  pos : 0 < p → ∀ t v, look (ms p).env t = some v → look env t = some v
/-- One of the operations in the middle. -/
def MidStep (C : Ctx) (ops : Array Oper) (o : Oper) (s s' : St) : Prop :=
  ∀ more, WL C ops [o] ⟨s.env ++ more, s.objs⟩ (fun e r => e = .normal ∧ r = ⟨s'.env ++ more, s'.objs⟩)
theorem getD_sw {l : Array Bool} {i : Nat} (h : l.getD i false = true) (hi : i < l.size) : l.getD i true = true := by simpa [Array.getD, hi] using h
theorem unlisted_set {listed : Array Bool} {n i : Nat} (hi : i < n) (hsz : listed.size = n) (h2 : listed.getD i true = false) :
    ((List.range n).filter fun j => !listed.getD j true).length = ((List.range n).filter fun j => !(listed.setIfInBounds i true).getD j true).length + 1 := by
  have aux : ∀ (l : List Nat), l.Nodup → i ∈ l → (l.filter fun j => !listed.getD j true).length = (l.filter fun j => !(listed.setIfInBounds i true).getD j true).length + 1 := by
    intro l
    induction l with
    | nil => intro _ h; cases h
    | cons x l ih2 =>
      intro hn hin
      rw [List.nodup_cons] at hn
      by_cases hx : x = i
      · subst hx
        have hsz' : x < listed.size := by omega
        have hsame : (l.filter fun j => !listed.getD j true) = (l.filter fun j => !(listed.setIfInBounds x true).getD j true) := by
          apply List.filter_congr
          intro j hj
          rw [getD_set, if_neg]
          rintro ⟨rfl, _⟩
          exact hn.1 hj
        rw [List.filter_cons_of_pos (by simp [h2]), List.filter_cons_of_neg (by rw [getD_set]; simp [hsz']), List.length_cons, hsame]
      · have hin' : i ∈ l := by
          rcases List.mem_cons.1 hin with h | h
          · exact absurd h.symm hx
          · exact h
        have hg : (listed.setIfInBounds i true).getD x true = listed.getD x true := by
          rw [getD_set, if_neg]
          rintro ⟨rfl, _⟩
          exact hx rfl
        have := ih2 hn.2 hin'
        by_cases hc : listed.getD x true = true
        · rw [List.filter_cons_of_neg (by simp [hc]), List.filter_cons_of_neg (by rw [hg]; simp [hc])]; exact this
        · rw [List.filter_cons_of_pos (by simpa using hc), List.filter_cons_of_pos (by rw [hg]; simpa using hc), List.length_cons, List.length_cons, this]
  exact aux (List.range n) List.nodup_range (by rw [List.mem_range]; exact hi)
theorem W.mid {C : Ctx} {id : Nat} {ops : Array Oper} {env0 : List (Nat × AV)} {objs0 : List AObj} {Q : Exit → St → Prop} (hmix : C.P.follows .mixedOrders = true) (ds fl : List Nat) (mN : Nat) (acc : List (Nat × AV)) (ms : Nat → St) (hchk : midOK ops ds fl mN = true)
    (hacc : ∀ d ∈ ds, ∃ c, look acc d = some c) (hdom : ∀ t v, look acc t = some v → t ∈ ds) (hm0 : (ms 0).objs = objs0) (he0 : ∀ t v, look (ms 0).env t = some v → (∃ i, i ∉ fl ∧ ds[i]? = some t ∧ look acc t = some v) ∨ (t ∉ ds ∧ look env0 t = some v))
    (hV : ∀ (i : Nat) (o : Oper) (d : Nat) (c : AV), i ∉ fl → ops[i]? = some o → ds[i]? = some d → look acc d = some c → DrawStep C ops o (sel acc (depT ops o) ++ clean ds env0) objs0 c)
    (hM : ∀ (j : Nat) (o : Oper), j < mN → ops[ds.length + j]? = some o → MidStep C ops o (ms j) (ms (j + 1)))
    (hMe : ∀ j, j < mN → (ms (j + 1)).env = (ms j).env ∨ ∃ d c, d ∈ dstsOf ops ds.length mN ∧ (ms (j + 1)).env = (d, c) :: (ms j).env)
    (hF : ∀ (j i : Nat) (o : Oper) (d : Nat) (c : AV), j ≤ mN → i ∈ fl → ops[i]? = some o → ds[i]? = some d → look acc d = some c → DrawStep C ops o (sel acc (depT ops o) ++ clean (ds ++ dstsOf ops ds.length mN) env0) (ms j).objs c)
    (hT : WL C ops (ops.toList.drop (ds.length + mN)) ⟨acc ++ (ms mN).env, (ms mN).objs⟩ Q) : W C (.region id ops true) ⟨env0, objs0⟩ Q := by
  simp only [midOK, Bool.and_eq_true, decide_eq_true_eq, List.all_eq_true, List.mem_range, Bool.or_eq_true, List.contains_iff_mem] at hchk
  obtain ⟨⟨⟨⟨⟨⟨⟨⟨hnd, hle⟩, hds⟩, hbk⟩, hmo⟩, hta⟩, hmd⟩, hfl⟩, hnf2⟩ := hchk
  have hback : ∀ (i : Nat) (o : Oper), ops[i]? = some o → ∀ e ∈ o.after.toList, Region.binds .any e = true → e.on < i := by
    intro i o hi e he hb
    have h2 := hbk i (Array.getElem?_eq_some_iff.1 hi).1
    rw [hi] at h2
    simp only [Option.any_some, List.all_eq_true, decide_eq_true_eq] at h2
    exact h2 e.on (by simp only [depsOf, List.mem_map, List.mem_filter]; exact ⟨e, ⟨he, hb⟩, rfl⟩)
  have htail : ∀ i, i < ops.size → ds.length + mN ≤ i → ∀ j, j < i → behind ops 24 i j = true := fun i h1 h2 j h3 => hta i (by rw [List.mem_range'_1]; omega) j h3
  have hdst : ∀ (i : Nat) (o : Oper) (d : Nat), ops[i]? = some o → ds[i]? = some d → o.dst = some d := by
    intro i o d hi hd
    have hlt := (List.getElem?_eq_some_iff.1 hd).1
    have h2 := hds i hlt
    rw [hi, hd] at h2
    simpa using h2
  have hdisj : ∀ t, t ∈ dstsOf ops ds.length mN → t ∉ ds := fun t ht h => by have := hmd t ht; simp [h] at this
  -- the middle's frames say nothing new of the values
  have hms : ∀ j, j ≤ mN → ∀ t v, look (ms j).env t = some v → (t ∈ ds → look acc t = some v) ∧ (t ∉ ds → t ∉ dstsOf ops ds.length mN → look env0 t = some v) ∧ (t ∈ ds → ∀ i, ds[i]? = some t → i ∉ fl) := by
    intro j
    induction j with
    | zero =>
      intro _ t v h
      rcases he0 t v h with ⟨i, hi1, hi2, h2⟩ | ⟨h1, h2⟩
      · refine ⟨fun _ => h2, fun h => absurd (List.mem_of_getElem? hi2) h, fun _ i' hi' => ?_⟩
        rw [nodup_get hnd hi' hi2]; exact hi1
      · exact ⟨fun h => absurd h h1, fun _ _ => h2, fun h => absurd h h1⟩
    | succ j ih =>
      intro hj t v h
      rcases hMe j (by omega) with he | ⟨d, c, hd, he⟩
      · rw [he] at h; exact ih (by omega) t v h
      · rw [he] at h
        simp only [look] at h
        split at h
        · rename_i hk
          have : d = t := by simpa using hk
          subst this
          exact ⟨fun h => absurd h (hdisj d hd), fun _ h => absurd hd h, fun h => absurd h (hdisj d hd)⟩
        · exact ih (by omega) t v h
  -- when all is there
  have hall : ∀ (listed : Array Bool) (env : List (Nat × AV)) (a : Act) (w : World), Mid ops ds fl mN acc env0 ms mN env listed → Rel C ⟨env, (ms mN).objs⟩ a w → (∀ i, i < ds.length → listed.getD i true = true) →
      wpAny C.P .any ops (Post C Q) (ops.size - (ds.length + mN)) listed a w := by
    intro listed env a w hm hr hv
    refine W.draw_tail hback htail _ (ds.length + mN) listed a w (Nat.le_refl _) hle rfl hm.size (fun j hj => ⟨fun h => ?_, fun h => ?_⟩) (hT a w (hr.env fun t v hl => ?_))
    · rcases Nat.lt_or_ge j (ds.length + mN) with h1 | h1
      · exact h1
      · rw [hm.tl j h1 hj] at h; cases h
    · rcases Nat.lt_or_ge j ds.length with h1 | h1
      · exact hv j h1
      · have := hm.ml (j - ds.length) (by omega)
        rwa [show ds.length + (j - ds.length) = j by omega] at this
    · rw [look_append] at hl
      cases ha : look acc t with
      | some v' =>
        rw [ha, Option.some_or] at hl
        injection hl with hl; subst hl
        obtain ⟨i, hi⟩ := List.getElem?_of_mem (hdom t _ ha)
        rw [hm.vals i t hi (hv i (List.getElem?_eq_some_iff.1 hi).1), ha]
      | none =>
        rw [ha, Option.none_or] at hl
        obtain ⟨h1, h2, _⟩ := hms mN (Nat.le_refl _) t v hl
        by_cases hin : t ∈ ds
        · rw [ha] at h1; cases h1 hin
        · rcases Nat.eq_zero_or_pos mN with h0 | h0
          · have : t ∉ dstsOf ops ds.length mN := by rw [h0]; simp [dstsOf]
            exact hm.zero h0 t v hin (h2 hin this)
          · exact hm.pos h0 t v hl
  have hcount : ∀ (listed : Array Bool) (env : List (Nat × AV)), Mid ops ds fl mN acc env0 ms mN env listed → (∀ i, i < ds.length → listed.getD i true = true) → ((List.range ops.size).filter fun j => !listed.getD j true).length = ops.size - (ds.length + mN) := by
    intro listed env hm hv
    have h4 : List.range ops.size = List.range (ds.length + mN) ++ List.range' (ds.length + mN) (ops.size - (ds.length + mN)) := by
      rw [List.range_eq_range', List.range_eq_range', show ops.size = (ds.length + mN) + (ops.size - (ds.length + mN)) by omega]
      have := List.range'_append (s := 0) (m := ds.length + mN) (n := ops.size - (ds.length + mN)) (step := 1)
      simp at this
      rw [← this]; simp
    rw [h4, List.filter_append, List.filter_eq_nil_iff.2, List.nil_append, List.filter_eq_self.2]
    · simp
    · intro j hj
      rw [List.mem_range'_1] at hj
      simp [hm.tl j hj.1 (by omega)]
    · intro j hj
      rw [List.mem_range] at hj
      rcases Nat.lt_or_ge j ds.length with h1 | h1
      · simp [hv j h1]
      · have := hm.ml (j - ds.length) (by omega)
        rw [show ds.length + (j - ds.length) = j by omega] at this
        simp [this]
  have main : ∀ (fuel p : Nat) (listed : Array Bool) (env : List (Nat × AV)) (a : Act) (w : World), fuel = ((List.range ops.size).filter fun j => !listed.getD j true).length → Mid ops ds fl mN acc env0 ms p env listed → Rel C ⟨env, (ms p).objs⟩ a w →
      wpAny C.P .any ops (Post C Q) fuel listed a w := by
    intro fuel
    induction fuel with
    | zero =>
      intro p listed env a w hf hm hr
      have hnone : ∀ j, j < ops.size → listed.getD j true = true := by
        intro j hj
        have h0 := List.eq_nil_of_length_eq_zero hf.symm
        cases h1 : listed.getD j true with
        | true => rfl
        | false =>
          have : j ∈ (List.range ops.size).filter fun j => !listed.getD j true := by
            rw [List.mem_filter, List.mem_range]; exact ⟨hj, by simp [h1]⟩
          rw [h0] at this; cases this
      have hp : p = mN := by
        have := hm.pl
        rcases Nat.lt_or_ge p mN with h | h
        · have h1 := hnone (ds.length + p) (by omega)
          rw [hm.tl _ (Nat.le_refl _) (by omega)] at h1; cases h1
        · omega
      subst hp
      have h1 := hall listed env a w hm hr (fun i hi => hnone i (by omega))
      rw [← hcount listed env hm (fun i hi => hnone i (by omega)), ← hf] at h1
      exact h1
    | succ fuel ih =>
      intro p listed env a w hf hm hr
      by_cases hend : p = mN ∧ ∀ i, i < ds.length → listed.getD i true = true
      · obtain ⟨rfl, hv⟩ := hend
        have h1 := hall listed env a w hm hr hv
        rw [← hcount listed env hm hv, ← hf] at h1
        exact h1
      · refine ⟨fun h0 => ?_, fun i hi => ?_⟩
        · exfalso
          have hex : ∃ x, x < ops.size ∧ listed.getD x true = false := by
            have := hm.pl
            rcases Nat.lt_or_ge p mN with h | h
            · exact ⟨ds.length + p, by omega, hm.tl _ (Nat.le_refl _) (by omega)⟩
            · apply Classical.byContradiction
              intro hn
              refine hend ⟨by omega, fun i hi => ?_⟩
              cases h1 : listed.getD i true with
              | true => rfl
              | false => exact absurd ⟨i, by omega, h1⟩ hn
          obtain ⟨x, hx1, hx2⟩ := hex
          exact ready_ne hm.size hback hx1 hx2 h0
        · obtain ⟨h1, h2, o, ho, h3⟩ := mem_ready hi
          have hdep : ∀ k ∈ depsOf o, listed.getD k false = true := by
            intro k hk
            simp only [depsOf, List.mem_map, List.mem_filter] at hk
            obtain ⟨e, ⟨he1, he2⟩, rfl⟩ := hk
            exact h3 e he1 he2
          have hlt : ∀ k ∈ depsOf o, k < i := by
            intro k hk
            simp only [depsOf, List.mem_map, List.mem_filter] at hk
            obtain ⟨e, ⟨he1, he2⟩, rfl⟩ := hk
            exact hback i o ho e he1 he2
          have hfew := unlisted_set h1 hm.size h2
          have hsel : i < ds.length → ∀ t v, look (sel acc (depT ops o)) t = some v → look env t = some v := by
            intro hik t v hl
            obtain ⟨g1, g2⟩ := look_sel hl
            simp only [depT, List.mem_filterMap] at g1
            obtain ⟨j, g3, g4⟩ := g1
            have hj := hlt j g3
            have hjd : j < ds.length := by omega
            cases hoj : ops[j]? with
            | none => rw [hoj] at g4; cases g4
            | some oj =>
              rw [hoj] at g4
              have := hdst j oj ds[j] hoj (List.getElem?_eq_getElem hjd)
              simp only [Option.bind_some] at g4
              rw [this] at g4
              injection g4 with g4
              rw [hm.vals j t (by rw [List.getElem?_eq_getElem hjd, g4]) (getD_sw (hdep j g3) (by rw [hm.size]; omega)), g2]
          rcases Nat.lt_or_ge i ds.length with hik | hik
          · -- a value
            have hd : ds[i]? = some ds[i] := List.getElem?_eq_getElem hik
            obtain ⟨c, hc⟩ := hacc ds[i] (List.getElem_mem hik)
            have hod := hdst i o _ ho hd
            have hmem : ds[i] ∈ ds := List.getElem_mem hik
            -- what is new
            have hnew : Mid ops ds fl mN acc env0 ms p ((ds[i], c) :: env) (listed.setIfInBounds i true) := by
              refine ⟨by simp [hm.size], hm.closed.set ho hdep, hm.pl, fun x hx1 hx2 => ?_, fun j hj => ?_, fun hp x hx1 hx2 => ?_, fun x d hx1 hx2 => ?_, fun t v ht1 ht2 hl => ?_, fun hp t v ht hl => ?_, fun hp t v hl => ?_⟩
              · rw [getD_set, if_neg (by omega)]; exact hm.tl x hx1 hx2
              · rw [getD_set]; split
                · rfl
                · exact hm.ml j hj
              · rw [getD_set]; split
                · rfl
                · exact hm.all hp x hx1 hx2
              · by_cases e : i = x
                · subst e
                  rw [hd] at hx1; injection hx1 with hx1; subst hx1
                  simp [look, hc]
                · rw [getD_set, if_neg (fun h => e h.1)] at hx2
                  have hne : ds[i] ≠ d := fun h => e (nodup_get hnd hd (by rw [h]; exact hx1))
                  simp only [look]
                  rw [if_neg (by simpa using hne)]
                  exact hm.vals x d hx1 hx2
              · have hne : ds[i] ≠ t := fun h => ht1 (h ▸ hmem)
                simp only [look]
                rw [if_neg (by simpa using hne)]
                exact hm.rest t v ht1 ht2 hl
              · have hne : ds[i] ≠ t := fun h => ht (h ▸ hmem)
                simp only [look]
                rw [if_neg (by simpa using hne)]
                exact hm.zero hp t v ht hl
              · simp only [look]
                split
                · rename_i he
                  have he' : ds[i] = t := by simpa using he
                  have := (hms p hm.pl t v hl).1 (he' ▸ hmem)
                  rw [← he', hc] at this; exact this
                · exact hm.pos hp t v hl
            have fin : ∀ (pre : List (Nat × AV)), (∀ t v, look (pre ++ env) t = some v → look env t = some v) → DrawStep C ops o pre (ms p).objs c → wpOp C.P ops (Post C Q) i (wpAny C.P .any ops (Post C Q) fuel (listed.setIfInBounds i true)) a w := by
              intro pre hpre hstep
              refine wpOp_of_WL (st := ⟨pre ++ env, (ms p).objs⟩) ho (hstep env) (hr.env hpre) fun a' w' hr' => ih p _ ((ds[i], c) :: env) a' w' (by omega) hnew ?_
              rw [hod] at hr'
              refine Rel.env (st := ⟨(ds[i], c) :: (pre ++ env), (ms p).objs⟩) hr' fun t v hl => ?_
              simp only [look] at hl ⊢
              split at hl
              · rename_i he; rw [if_pos he]; exact hl
              · rename_i he
                rw [if_neg he]
                cases h5 : look (pre ++ env) t with
                | some v' => have := hpre t v' h5; rw [hl] at this; exact this.symm
                | none => rw [look_append, hl] at h5; cases h6 : look pre t <;> rw [h6] at h5 <;> cases h5
            by_cases hif : i ∈ fl
            · refine fin _ (fun t v hl => ?_) (hF p i o _ c hm.pl hif ho hd hc)
              rw [look_append, look_append] at hl
              cases h5 : look (sel acc (depT ops o)) t with
              | some v' => rw [h5] at hl; simp only [Option.some_or, Option.some.injEq] at hl; subst hl; exact hsel hik t _ h5
              | none =>
                rw [h5, Option.none_or] at hl
                cases h6 : look (clean (ds ++ dstsOf ops ds.length mN) env0) t with
                | some v' =>
                  rw [h6] at hl; simp only [Option.some_or, Option.some.injEq] at hl; subst hl
                  obtain ⟨h7, h8⟩ := look_clean h6
                  rw [List.mem_append, not_or] at h7
                  exact hm.rest t _ h7.1 h7.2 h8
                | none => rw [h6, Option.none_or] at hl; exact hl
            · have hp0 : p = 0 := by
                rcases Nat.eq_zero_or_pos p with h | h
                · exact h
                · have := hm.all h i hik hif; rw [h2] at this; cases this
              subst hp0
              refine fin _ (fun t v hl => ?_) (by have := hV i o _ c hif ho hd hc; rw [hm0]; exact this)
              rw [look_append, look_append] at hl
              cases h5 : look (sel acc (depT ops o)) t with
              | some v' => rw [h5] at hl; simp only [Option.some_or, Option.some.injEq] at hl; subst hl; exact hsel hik t _ h5
              | none =>
                rw [h5, Option.none_or] at hl
                cases h6 : look (clean ds env0) t with
                | some v' =>
                  rw [h6] at hl; simp only [Option.some_or, Option.some.injEq] at hl; subst hl
                  obtain ⟨h7, h8⟩ := look_clean h6
                  exact hm.zero rfl t _ h7 h8
                | none => rw [h6, Option.none_or] at hl; exact hl
          · -- one of the middle
            have hlisted : ∀ j, behind ops 24 i j = true → j < ops.size → listed.getD j true = true := fun j hj hjs => getD_sw (hm.closed.behind 24 i o ho hdep hj) (by rw [hm.size]; exact hjs)
            have him : i < ds.length + mN := by
              rcases Nat.lt_or_ge i (ds.length + mN) with h | h
              · exact h
              · exfalso
                refine hend ⟨?_, fun x hx => hlisted x (htail i h1 h x (by omega)) (by omega)⟩
                have := hm.pl
                rcases Nat.lt_or_ge p mN with h4 | h4
                · have h5 := hlisted (ds.length + p) (htail i h1 h _ (by omega)) (by omega)
                  rw [hm.tl _ (Nat.le_refl _) (by omega)] at h5; cases h5
                · omega
            obtain ⟨q, rfl⟩ := Nat.exists_eq_add_of_le hik
            have hq : q < mN := by omega
            have hqp : q = p := by
              rcases Nat.lt_trichotomy q p with h | h | h
              · have := hm.ml q h; rw [h2] at this; cases this
              · exact h
              · have h4 := hmo q hq (ds.length + p) (by omega)
                rcases h4 with h4 | h4
                · have := hfl _ h4; omega
                · have h5 := hlisted _ h4 (by omega)
                  rw [hm.tl _ (Nat.le_refl _) (by omega)] at h5; cases h5
            subst hqp
            have hnfl : ∀ x, x < ds.length → x ∉ fl → listed.getD x true = true := by
              intro x hx hxf
              rcases hmo q hq x (by omega) with h4 | h4
              · exact absurd h4 hxf
              · exact hlisted x h4 (by omega)
            have hpre : ∀ t v, look ((ms q).env ++ env) t = some v → look env t = some v := by
              intro t v hl
              rw [look_append] at hl
              cases h5 : look (ms q).env t with
              | none => rw [h5, Option.none_or] at hl; exact hl
              | some v' =>
                rw [h5, Option.some_or] at hl
                injection hl with hl; subst hl
                rcases Nat.eq_zero_or_pos q with h0 | h0
                · subst h0
                  rcases he0 t _ h5 with ⟨x, hx1, hx2, g2⟩ | ⟨g1, g2⟩
                  · rw [hm.vals x t hx2 (hnfl x (List.getElem?_eq_some_iff.1 hx2).1 hx1), g2]
                  · exact hm.zero rfl t _ g1 g2
                · exact hm.pos h0 t _ h5
            refine wpOp_of_WL (st := ⟨(ms q).env ++ env, (ms q).objs⟩) ho (hM q o hq ho env) (hr.env hpre) fun a' w' hr' => ih (q + 1) _ ((ms (q + 1)).env ++ env) a' w' (by omega) ?_ hr'
            refine ⟨by simp [hm.size], hm.closed.set ho hdep, hq, fun x hx1 hx2 => ?_, fun j hj => ?_, fun _ x hx1 hx2 => ?_, fun x d hx1 hx2 => ?_, fun t v ht1 ht2 hl => ?_, fun h => by omega, fun _ t v hl => ?_⟩
            · rw [getD_set, if_neg (by omega)]; exact hm.tl x (by omega) hx2
            · rw [getD_set]; split
              · rfl
              · rename_i hne
                refine hm.ml j ?_
                rcases Nat.lt_or_ge j q with h | h
                · exact h
                · exact absurd ⟨by omega, by rw [hm.size]; omega⟩ hne
            · rw [getD_set]; split
              · rfl
              · exact hnfl x hx1 hx2
            · have hxl := (List.getElem?_eq_some_iff.1 hx1).1
              rw [getD_set, if_neg (by omega)] at hx2
              rw [look_append]
              cases h5 : look (ms (q + 1)).env d with
              | some v => rw [Option.some_or, (hms (q + 1) hq d v h5).1 (List.mem_of_getElem? hx1)]
              | none => rw [Option.none_or]; exact hm.vals x d hx1 hx2
            · rw [look_append]
              cases h5 : look (ms (q + 1)).env t with
              | some v' =>
                have := (hms (q + 1) hq t v' h5).2.1 ht1 ht2
                rw [hl] at this
                rw [Option.some_or, this]
              | none => rw [Option.none_or]; exact hm.rest t v ht1 ht2 hl
            · rw [look_append, hl, Option.some_or]
  intro a w hr
  refine wp_region_any hmix (main ops.size 0 _ env0 a _ ?_ ⟨by simp, ?_, Nat.zero_le _, fun j h1 h2 => by simp [Array.getD, h2], fun j h => absurd h (Nat.not_lt_zero _), fun h => absurd h (Nat.lt_irrefl _), fun i d h1 h2 => ?_, fun t v _ _ h => h, fun _ t v _ h => h, fun h => absurd h (Nat.lt_irrefl _)⟩ (by rw [hm0]; exact hr.drew))
  · rw [List.filter_eq_self.2, List.length_range]
    intro j hj
    rw [List.mem_range] at hj
    simp [Array.getD, hj]
  · intro i o ho hl
    have := (Array.getElem?_eq_some_iff.1 ho).1
    simp [Array.getD, this] at hl
  · have := (List.getElem?_eq_some_iff.1 h1).1
    have hlt : i < ops.size := by omega
    simp [Array.getD, hlt] at h2
/-! ### the walk -/
def MidV (C : Ctx) (ops : Array Oper) (ds : List Nat) (env0 : List (Nat × AV)) (objs0 : List AObj) (K : List (Nat × AV) → Prop) : List (Nat × Oper) → List (Nat × AV) → Prop
  | [], acc => K acc
  | (d, o) :: r, acc => ∃ c, DrawStep C ops o (sel acc (depT ops o) ++ clean ds env0) objs0 c ∧ MidV C ops ds env0 objs0 K r ((d, c) :: acc)
def MidM (C : Ctx) (ops : Array Oper) (K : St → List St → Prop) : List Oper → St → List St → Prop
  | [], s, l => K s l
  | o :: r, s, l => ∃ s', MidStep C ops o s s' ∧ (s'.env = s.env ∨ ∃ d c, o.dst = some d ∧ s'.env = (d, c) :: s.env) ∧ MidM C ops K r s' (l ++ [s])
def MidF (C : Ctx) (ops : Array Oper) (ds : List Nat) (env0 : List (Nat × AV)) (l : List St) (K : List (Nat × AV) → Prop) : List (Nat × Oper) → List (Nat × AV) → Prop
  | [], acc => K acc
  | (d, o) :: r, acc => ∃ c, (∀ s ∈ l, DrawStep C ops o (sel acc (depT ops o) ++ clean ds env0) s.objs c) ∧ MidF C ops ds env0 l K r ((d, c) :: acc)
/-- each waits for none that comes later -/
def laterOK (ops : Array Oper) : List (Nat × Oper) → Bool
  | [] => true
  | (d, o) :: r => (depT ops o).all (fun t => !((d :: r.map (·.1)).contains t)) && !(r.map (·.1)).contains d && laterOK ops r
theorem sel_cons {acc : List (Nat × AV)} {d : Nat} {c : AV} {ts : List Nat} (h : d ∉ ts) : sel ((d, c) :: acc) ts = sel acc ts := by
  simp only [sel]
  rw [if_neg (by simpa using h)]
/-- what was found stays found -/
def Ext1 (L : List (Nat × Oper)) (acc acc' : List (Nat × AV)) : Prop :=
  (∀ ts, (∀ t ∈ ts, t ∉ L.map (·.1)) → sel acc' ts = sel acc ts) ∧ (∀ t v, t ∉ L.map (·.1) → (look acc' t = some v ↔ look acc t = some v)) ∧ (∀ t v, look acc' t = some v → t ∈ L.map (·.1) ∨ look acc t = some v)
theorem Ext1.cons {d : Nat} {o : Oper} {c : AV} {r : List (Nat × Oper)} {acc acc' : List (Nat × AV)} (h : Ext1 r ((d, c) :: acc) acc') (hd : d ∉ r.map (·.1)) : Ext1 ((d, o) :: r) acc acc' ∧ look acc' d = some c := by
  obtain ⟨h1, h2, h3⟩ := h
  refine ⟨⟨fun ts ht => ?_, fun t v ht => ?_, fun t v hl => ?_⟩, (h2 d c hd).2 (by simp [look])⟩
  · rw [h1 ts fun t hm hin => ht t hm (by simp [hin]), sel_cons fun hm => ht d hm (by simp)]
  · simp only [List.map_cons, List.mem_cons, not_or] at ht
    rw [h2 t v ht.2]
    simp only [look]
    rw [if_neg (by simpa using fun e : d = t => ht.1 e.symm)]
  · rcases h3 t v hl with h | h
    · exact .inl (by simp [h])
    · simp only [look] at h
      split at h
      · rename_i he
        exact .inl (by simp at he; simp [he])
      · exact .inr h
theorem MidV.out {C : Ctx} {ops : Array Oper} {ds : List Nat} {env0 : List (Nat × AV)} {objs0 : List AObj} {K : List (Nat × AV) → Prop} : ∀ {L : List (Nat × Oper)} {acc : List (Nat × AV)}, MidV C ops ds env0 objs0 K L acc → laterOK ops L = true →
    ∃ acc', K acc' ∧ Ext1 L acc acc' ∧ ∀ d o, (d, o) ∈ L → ∃ c, look acc' d = some c ∧ DrawStep C ops o (sel acc' (depT ops o) ++ clean ds env0) objs0 c
  | [], acc, h, _ => ⟨acc, h, ⟨fun _ _ => rfl, fun _ _ _ => Iff.rfl, fun _ _ h => .inr h⟩, fun _ _ h => by cases h⟩
  | (d, o) :: r, acc, ⟨c, h1, h2⟩, hl => by
    simp only [laterOK, Bool.and_eq_true, List.all_eq_true, Bool.not_eq_true', List.contains_eq_mem, decide_eq_false_iff_not] at hl
    obtain ⟨⟨hl1, hl2⟩, hl3⟩ := hl
    obtain ⟨acc', k1, k2, k3⟩ := MidV.out h2 hl3
    obtain ⟨k4, k5⟩ := k2.cons (o := o) hl2
    refine ⟨acc', k1, k4, fun d' o' hm => ?_⟩
    rcases List.mem_cons.1 hm with h | h
    · injection h with e1 e2
      subst e1; subst e2
      refine ⟨c, k5, ?_⟩
      rw [k4.1 _ fun t ht => by simpa using hl1 t ht]
      exact h1
    · exact k3 d' o' h
theorem MidF.out {C : Ctx} {ops : Array Oper} {ds : List Nat} {env0 : List (Nat × AV)} {l : List St} {K : List (Nat × AV) → Prop} : ∀ {L : List (Nat × Oper)} {acc : List (Nat × AV)}, MidF C ops ds env0 l K L acc → laterOK ops L = true →
    ∃ acc', K acc' ∧ Ext1 L acc acc' ∧ ∀ d o, (d, o) ∈ L → ∃ c, look acc' d = some c ∧ ∀ s ∈ l, DrawStep C ops o (sel acc' (depT ops o) ++ clean ds env0) s.objs c
  | [], acc, h, _ => ⟨acc, h, ⟨fun _ _ => rfl, fun _ _ _ => Iff.rfl, fun _ _ h => .inr h⟩, fun _ _ h => by cases h⟩
  | (d, o) :: r, acc, ⟨c, h1, h2⟩, hl => by
    simp only [laterOK, Bool.and_eq_true, List.all_eq_true, Bool.not_eq_true', List.contains_eq_mem, decide_eq_false_iff_not] at hl
    obtain ⟨⟨hl1, hl2⟩, hl3⟩ := hl
    obtain ⟨acc', k1, k2, k3⟩ := MidF.out h2 hl3
    obtain ⟨k4, k5⟩ := k2.cons (o := o) hl2
    refine ⟨acc', k1, k4, fun d' o' hm => ?_⟩
    rcases List.mem_cons.1 hm with h | h
    · injection h with e1 e2
      subst e1; subst e2
      refine ⟨c, k5, ?_⟩
      rw [k4.1 _ fun t ht => by simpa using hl1 t ht]
      exact h1
    · exact k3 d' o' h
theorem MidM.out {C : Ctx} {ops : Array Oper} {K : St → List St → Prop} : ∀ {L : List Oper} {s : St} {l : List St}, MidM C ops K L s l →
    ∃ ms : Nat → St, ms 0 = s ∧ K (ms L.length) (l ++ (List.range L.length).map ms) ∧ ∀ j o, L[j]? = some o → MidStep C ops o (ms j) (ms (j + 1)) ∧ ((ms (j + 1)).env = (ms j).env ∨ ∃ d c, o.dst = some d ∧ (ms (j + 1)).env = (d, c) :: (ms j).env)
  | [], s, l, h => ⟨fun _ => s, rfl, by simp only [List.length_nil, List.range_zero, List.map_nil, List.append_nil]; exact h, fun j o h => by simp at h⟩
  | o :: r, s, l, ⟨s', h1, h2, h3⟩ => by
    obtain ⟨ms, k1, k2, k3⟩ := MidM.out h3
    refine ⟨fun j => match j with | 0 => s | j + 1 => ms j, rfl, ?_, fun j o' hj => ?_⟩
    · simp only [List.length_cons]
      rw [List.range_succ_eq_map, List.map_cons, List.map_map]
      simpa [List.append_assoc, Function.comp_def] using k2
    · cases j with
      | zero => simp at hj; subst hj; simp only [k1]; exact ⟨h1, h2⟩
      | succ j => exact k3 j o' (by simpa using hj)
def pairs (ops : Array Oper) (ds : List Nat) (is : List Nat) : List (Nat × Oper) := is.filterMap fun i => match ds[i]?, ops[i]? with | some d, some o => some (d, o) | _, _ => none
theorem W.middle {C : Ctx} {id : Nat} {ops : Array Oper} {env0 : List (Nat × AV)} {objs0 : List AObj} {Q : Exit → St → Prop} (hmix : C.P.follows .mixedOrders = true) (ds fl nf : List Nat) (mN : Nat) (hchk : midOK ops ds fl mN = true)
    (hcov : (List.range ds.length).all (fun i => nf.contains i != fl.contains i) = true) (hnf : nf.all (fun i => decide (i < ds.length)) = true) (hlat : laterOK ops (pairs ops ds nf ++ pairs ops ds fl) = true) (hlv : laterOK ops (pairs ops ds nf) = true) (hlf : laterOK ops (pairs ops ds fl) = true)
    (h : MidV C ops ds env0 objs0 (fun acc => MidM C ops (fun s l => MidF C ops (ds ++ dstsOf ops ds.length mN) env0 (l ++ [s]) (fun acc' => WL C ops (ops.toList.drop (ds.length + mN)) ⟨acc' ++ s.env, s.objs⟩ Q) (pairs ops ds fl) acc)
      ((ops.toList.drop ds.length).take mN) ⟨acc ++ clean ds env0, objs0⟩ []) (pairs ops ds nf) []) : W C (.region id ops true) ⟨env0, objs0⟩ Q := by
  have hchk0 := hchk
  simp only [midOK, Bool.and_eq_true, decide_eq_true_eq, List.all_eq_true, List.mem_range, Bool.or_eq_true, List.contains_iff_mem] at hchk0
  obtain ⟨⟨⟨⟨⟨⟨⟨⟨hnd, hle⟩, hds⟩, hbk⟩, hmo⟩, hta⟩, hmd⟩, hfl⟩, hnf2⟩ := hchk0
  simp only [List.all_eq_true, List.mem_range, decide_eq_true_eq] at hcov hnf
  obtain ⟨acc, hM, hE1, hV⟩ := h.out hlv
  obtain ⟨ms, m0, hK, hMs⟩ := hM.out
  obtain ⟨acc', hT, hE2, hF⟩ := hK.out hlf
  have hlen : ((ops.toList.drop ds.length).take mN).length = mN := by simp; omega
  rw [hlen] at hT hF
  have hpair : ∀ (is : List Nat) (d : Nat) (o : Oper), (d, o) ∈ pairs ops ds is ↔ ∃ i ∈ is, ds[i]? = some d ∧ ops[i]? = some o := by
    intro is d o
    simp only [pairs, List.mem_filterMap]
    constructor
    · rintro ⟨i, hi, h⟩
      refine ⟨i, hi, ?_⟩
      split at h
      · rename_i d' o' h1 h2
        injection h with h; injection h with e1 e2
        subst e1; subst e2
        exact ⟨h1, h2⟩
      · cases h
    · rintro ⟨i, hi, h1, h2⟩
      exact ⟨i, hi, by rw [h1, h2]⟩
  have hkey : ∀ (is : List Nat) (d : Nat), d ∈ (pairs ops ds is).map (·.1) → ∃ i ∈ is, ds[i]? = some d := by
    intro is d hd
    obtain ⟨⟨d', o⟩, h1, rfl⟩ := List.mem_map.1 hd
    obtain ⟨i, hi, h2, _⟩ := (hpair is d' o).1 h1
    exact ⟨i, hi, h2⟩
  have hnot : ∀ (i d : Nat), i ∉ fl → ds[i]? = some d → d ∉ (pairs ops ds fl).map (·.1) := by
    intro i d hi hd hin
    obtain ⟨i', hi', hd'⟩ := hkey fl d hin
    rw [nodup_get hnd hd hd'] at hi
    exact hi hi'
  have hin : ∀ i, i < ds.length → i ∉ fl → i ∈ nf := by
    intro i hi hf
    have := hcov i hi
    simpa [hf] using this
  have hnin : ∀ i, i ∈ nf → i ∉ fl := by
    intro i hi hf
    have := hcov i (hnf i hi)
    simp [hi, hf] at this
  have hop : ∀ (i d : Nat), ds[i]? = some d → ∃ o, ops[i]? = some o := by
    intro i d hd
    have hlt := (List.getElem?_eq_some_iff.1 hd).1
    exact ⟨ops[i], Array.getElem?_eq_getElem (by omega)⟩
  have hsplit : ∀ (L1 L2 : List (Nat × Oper)), laterOK ops (L1 ++ L2) = true → ∀ d o, (d, o) ∈ L1 → ∀ t ∈ depT ops o, t ∉ L2.map (·.1) := by
    intro L1
    induction L1 with
    | nil => intro L2 _ d o h; cases h
    | cons p r ih =>
      intro L2 hl d o hm t ht
      obtain ⟨d0, o0⟩ := p
      simp only [List.cons_append, laterOK, Bool.and_eq_true, List.all_eq_true, Bool.not_eq_true', List.contains_eq_mem, decide_eq_false_iff_not] at hl
      rcases List.mem_cons.1 hm with h | h
      · injection h with e1 e2
        subst e1; subst e2
        have := hl.1.1 t ht
        simp only [List.map_append, List.mem_cons, List.mem_append, not_or] at this
        exact this.2.2
      · exact ih L2 hl.2 d o h t ht
  refine W.mid hmix ds fl mN acc' ms hchk ?_ ?_ (by rw [m0]) ?_ ?_ ?_ ?_ ?_ (by simpa using hT)
  · intro d hd
    obtain ⟨i, hi⟩ := List.getElem?_of_mem hd
    obtain ⟨o, ho⟩ := hop i d hi
    by_cases hf : i ∈ fl
    · obtain ⟨c, h1, _⟩ := hF d o ((hpair fl d o).2 ⟨i, hf, hi, ho⟩)
      exact ⟨c, h1⟩
    · obtain ⟨c, h1, _⟩ := hV d o ((hpair nf d o).2 ⟨i, hin i (List.getElem?_eq_some_iff.1 hi).1 hf, hi, ho⟩)
      exact ⟨c, (hE2.2.1 d c (hnot i d hf hi)).2 h1⟩
  · intro t v hl
    rcases hE2.2.2 t v hl with h | h
    · obtain ⟨i, _, hi⟩ := hkey fl t h; exact List.mem_of_getElem? hi
    · rcases hE1.2.2 t v h with h | h
      · obtain ⟨i, _, hi⟩ := hkey nf t h; exact List.mem_of_getElem? hi
      · cases h
  · intro t v hl
    rw [m0] at hl
    simp only at hl
    rw [look_append] at hl
    cases ha : look acc t with
    | some v' =>
      rw [ha, Option.some_or] at hl
      injection hl with hl; subst hl
      rcases hE1.2.2 t _ ha with h | h
      · obtain ⟨i, hi1, hi2⟩ := hkey nf t h
        exact .inl ⟨i, hnin i hi1, hi2, (hE2.2.1 t _ (hnot i t (hnin i hi1) hi2)).2 ha⟩
      · cases h
    | none =>
      rw [ha, Option.none_or] at hl
      exact .inr (look_clean hl)
  · intro i o d c hf ho hd hc
    have hm := (hpair nf d o).2 ⟨i, hin i (List.getElem?_eq_some_iff.1 hd).1 hf, hd, ho⟩
    obtain ⟨c', h1, h2⟩ := hV d o hm
    have h3 := (hE2.2.1 d c' (hnot i d hf hd)).2 h1
    rw [hc] at h3; injection h3 with h3; subst h3
    rw [hE2.1 _ (hsplit _ _ hlat d o hm)]
    exact h2
  · intro j o hj ho
    refine (hMs j o ?_).1
    rw [List.getElem?_take, if_pos hj, List.getElem?_drop, Array.getElem?_toList]; exact ho
  · intro j hj
    have hlt : ds.length + j < ops.size := by omega
    obtain ⟨_, h⟩ := hMs j ops[ds.length + j] (by rw [List.getElem?_take, if_pos hj, List.getElem?_drop, Array.getElem?_toList]; exact Array.getElem?_eq_getElem hlt)
    rcases h with h | ⟨d, c, h1, h2⟩
    · exact .inl h
    · refine .inr ⟨d, c, ?_, h2⟩
      simp only [dstsOf, List.mem_filterMap]
      refine ⟨ops[ds.length + j], ?_, h1⟩
      refine List.mem_of_getElem? (i := j) ?_
      rw [List.getElem?_take, if_pos hj, List.getElem?_drop, Array.getElem?_toList]; exact Array.getElem?_eq_getElem hlt
  · intro j i o d c hj hf ho hd hc
    obtain ⟨c', h1, h2⟩ := hF d o ((hpair fl d o).2 ⟨i, hf, hd, ho⟩)
    rw [hc] at h1; injection h1 with h1; subst h1
    refine h2 (ms j) ?_
    rcases Nat.lt_or_ge j mN with h | h
    · simp only [List.nil_append, List.mem_append, List.mem_map, List.mem_range]
      exact .inl ⟨j, h, rfl⟩
    · have : j = mN := by omega
      subst this; simp
theorem MidV.done {C : Ctx} {ops : Array Oper} {ds : List Nat} {env0 : List (Nat × AV)} {objs0 : List AObj} {K : List (Nat × AV) → Prop} {acc : List (Nat × AV)} (h : K acc) : MidV C ops ds env0 objs0 K [] acc := h
theorem MidM.done {C : Ctx} {ops : Array Oper} {K : St → List St → Prop} {s : St} {l : List St} (h : K s l) : MidM C ops K [] s l := h
theorem MidF.done {C : Ctx} {ops : Array Oper} {ds : List Nat} {env0 : List (Nat × AV)} {l : List St} {K : List (Nat × AV) → Prop} {acc : List (Nat × AV)} (h : K acc) : MidF C ops ds env0 l K [] acc := h
end Go.Lens

set_option linter.unusedVariables false
set_option linter.unusedSimpArgs false
namespace Go.Lens
open Go Go.RowKit
def strsAV (l : List (List UInt8)) : List AV := l.map AV.str
@[simp] theorem strsAV_plain (l : List (List UInt8)) : plainL (strsAV l) = true := by
  induction l with
  | nil => rfl
  | cons x l ih => simp only [strsAV, List.map_cons, plainL, AV.plain, Bool.true_and]; exact ih
end Go.Lens

set_option linter.unusedVariables false
set_option linter.unusedSimpArgs false
namespace Go.Lens
open Go Go.RowKit
def bytesAV (s : List UInt8) : List AV := s.map fun c => .int .u8 c.toNat
@[simp] theorem bytesAV_plain (l : List UInt8) : plainL (bytesAV l) = true := by
  induction l with
  | nil => rfl
  | cons x l ih => simp only [bytesAV, List.map_cons, plainL, AV.plain, Bool.true_and]; exact ih
/-! ### pointers -/
/-! ### a text behind bytes -/
/-! ### bytes as a text -/
end Go.Lens

set_option linter.unusedVariables false
set_option linter.unusedSimpArgs false
namespace Go.Lens
open Go Go.RowKit
/-- a place that is kept free for an object to come -/
theorem Rel.slot {C : Ctx} {env : List (Nat × AV)} {objs : List AObj} {a : Act} {w : World} (h : Rel C ⟨env, objs⟩ a w) : Rel C ⟨env, objs ++ [.slot]⟩ a w := by
  obtain ⟨H, hi⟩ := h
  have hn := hi.objs.n
  have hn' : H.n = objs.length := hn
  let H' : View := { H with n := H.n + 1, ver := fun o => if o = H.n then 0 else H.ver o }
  have hK : Keeps w H w H' := ⟨fun _ _ h _ => h, fun _ _ h => h, Nat.le_succ _, fun o ho => by simp [H', show o ≠ H.n by omega], fun o ho _ => ⟨rfl, rfl, rfl⟩⟩
  refine ⟨H', hi.move (objs' := objs ++ [.slot]) hK ⟨by simp [H', hn'], fun i ob hob => ?_, fun i i' ob ob' h1 h2 l1 l2 hb => ?_, hi.objs.lt⟩ (fun _ _ => Iff.rfl) (by have := hi.klen; simp at this ⊢; omega) (fun _ _ => ⟨rfl, rfl, rfl⟩) (fun o cs ver esz flat own ho hob => ?_) (fun o ho => Outside.of_eq rfl _ _) (fun i ob hob hl => ?_) (fun _ _ _ => rfl) (Nat.le_refl _) rfl rfl rfl⟩
  · rcases get_snoc hob with ⟨hlt, hob⟩ | ⟨he, rfl⟩
    · have hne : i ≠ H.n := by omega
      by_cases hl : ob.live = true
      · exact (hi.objs.rel i ob hob).keeps hK rfl rfl rfl (by simp [H', hne]) id rfl
      · cases ob <;> first | trivial | (simp [AObj.live] at hl; done) | (have := hi.objs.rel i _ hob; simpa [RelO, H', hne] using this)
    · simp [RelO, H', he, hn']
  · rcases get_snoc h1 with ⟨_, h1⟩ | ⟨_, rfl⟩
    · rcases get_snoc h2 with ⟨_, h2⟩ | ⟨_, rfl⟩
      · exact hi.objs.inj i i' ob ob' h1 h2 l1 l2 hb
      · cases l2
    · cases l1
  · rcases get_snoc hob with ⟨_, hob⟩ | ⟨_, h⟩
    · exact hi.lens o cs ver esz flat own ho hob
    · cases h
  · rcases get_snoc hob with ⟨_, hob⟩ | ⟨_, rfl⟩
    · exact hi.own i ob hob hl
    · cases hl
/-- One of the operations in the middle: it may use values that came at any time. -/
def MidQ (C : Ctx) (ops : Array Oper) (o : Oper) (pre : List (Nat × AV)) (s s' : St) : Prop :=
  (s'.env = s.env ∧ ∀ more, WL C ops [o] ⟨pre ++ (s.env ++ more), s.objs⟩ (fun e r => e = .normal ∧ r = ⟨pre ++ (s.env ++ more), s'.objs⟩)) ∨
  (∃ d c, o.dst = some d ∧ s'.env = (d, c) :: s.env ∧ ∀ more, WL C ops [o] ⟨pre ++ (s.env ++ more), s.objs⟩ (fun e r => e = .normal ∧ r = ⟨(d, c) :: (pre ++ (s.env ++ more)), s'.objs⟩))
/-! ### the walk -/
def AStep (C : Ctx) (ops : Array Oper) (o : Oper) (pre : List (Nat × AV)) (objsB : List AObj) (k d : Nat) (z : AObj) (c : AV) : Prop :=
  ∀ mo more, mo[k]? = some .slot → WL C ops [o] ⟨pre ++ more, objsB ++ mo⟩ (fun e s => e = .normal ∧ s = ⟨(d, c) :: (pre ++ more), objsB ++ mo.set k z⟩)
def MidVS (C : Ctx) (ops : Array Oper) (ds : List Nat) (env0 : List (Nat × AV)) (objsB : List AObj) (adst : List (Nat × AObj)) (K : List (Nat × AV) → Prop) : List (Nat × Oper) → List (Nat × AV) → Prop
  | [], acc => K acc
  | (d, o) :: r, acc => ∃ c, ((d ∉ adst.map (·.1) ∧ ∀ mo, DrawStep C ops o (sel acc (depT ops o) ++ clean ds env0) (objsB ++ mo) c) ∨ (∃ k z, adst[k]? = some (d, z) ∧ AStep C ops o (sel acc (depT ops o) ++ clean ds env0) objsB k d z c)) ∧ MidVS C ops ds env0 objsB adst K r ((d, c) :: acc)
def MidFS (C : Ctx) (ops : Array Oper) (ds : List Nat) (env0 : List (Nat × AV)) (objsB : List AObj) (l : List St) (K : List (Nat × AV) → Prop) : List (Nat × Oper) → List (Nat × AV) → Prop
  | [], acc => K acc
  | (d, o) :: r, acc => ∃ c, ((∀ mo, DrawStep C ops o (sel acc (depT ops o) ++ clean ds env0) (objsB ++ mo) c) ∧ ∀ s ∈ l, DrawStep C ops o (sel acc (depT ops o) ++ clean ds env0) s.objs c) ∧ MidFS C ops ds env0 objsB l K r ((d, c) :: acc)
def MidP (C : Ctx) (ops : Array Oper) (ds : List Nat) (env0 : List (Nat × AV)) (K : List (Nat × AV) → Prop) : List (Nat × Oper) → List (Nat × AV) → Prop
  | [], acc => K acc
  | (d, o) :: r, acc => ∃ c, (∀ objs, DrawStep C ops o (sel acc (depT ops o) ++ clean ds env0) objs c) ∧ MidP C ops ds env0 K r ((d, c) :: acc)
def MidMP (C : Ctx) (ops : Array Oper) (acc : List (Nat × AV)) (K : St → List St → Prop) : List Oper → St → List St → Prop
  | [], s, l => K s l
  | o :: r, s, l => ∃ s', MidQ C ops o (sel acc (depT ops o)) s s' ∧ MidMP C ops acc K r s' (l ++ [s])
theorem Ext1.trans {L1 L2 : List (Nat × Oper)} {a b c : List (Nat × AV)} (h1 : Ext1 L1 a b) (h2 : Ext1 L2 b c) : Ext1 (L1 ++ L2) a c := by
  refine ⟨fun ts ht => ?_, fun t v ht => ?_, fun t v hl => ?_⟩
  · rw [h2.1 ts fun t h hin => ht t h (by simp only [List.map_append, List.mem_append]; exact .inr hin), h1.1 ts fun t h hin => ht t h (by simp only [List.map_append, List.mem_append]; exact .inl hin)]
  · simp only [List.map_append, List.mem_append, not_or] at ht
    rw [h2.2.1 t v ht.2, h1.2.1 t v ht.1]
  · simp only [List.map_append, List.mem_append]
    rcases h2.2.2 t v hl with h | h
    · exact .inl (.inr h)
    · rcases h1.2.2 t v h with h | h
      · exact .inl (.inl h)
      · exact .inr h
theorem MidVS.done {C : Ctx} {ops : Array Oper} {ds : List Nat} {env0 : List (Nat × AV)} {objsB : List AObj} {adst : List (Nat × AObj)} {K : List (Nat × AV) → Prop} {acc : List (Nat × AV)} (h : K acc) : MidVS C ops ds env0 objsB adst K [] acc := h
theorem MidFS.done {C : Ctx} {ops : Array Oper} {ds : List Nat} {env0 : List (Nat × AV)} {objsB : List AObj} {l : List St} {K : List (Nat × AV) → Prop} {acc : List (Nat × AV)} (h : K acc) : MidFS C ops ds env0 objsB l K [] acc := h
theorem MidP.done {C : Ctx} {ops : Array Oper} {ds : List Nat} {env0 : List (Nat × AV)} {K : List (Nat × AV) → Prop} {acc : List (Nat × AV)} (h : K acc) : MidP C ops ds env0 K [] acc := h
theorem MidMP.done {C : Ctx} {ops : Array Oper} {acc : List (Nat × AV)} {K : St → List St → Prop} {s : St} {l : List St} (h : K s l) : MidMP C ops acc K [] s l := h
end Go.Lens

set_option linter.unusedVariables false
set_option linter.unusedSimpArgs false
namespace Go.Lens
open Go Go.RowKit
end Go.Lens

set_option linter.unusedVariables false
set_option linter.unusedSimpArgs false
namespace Go.Lens
open Go Go.RowKit
mutual
/-- the data that came in, as abstract values -/
def avOf {H : Type} : DataW H → List AV
  | .lit (.int k n) => [.int k n]
  | .lit (.bool b) => [.bool b]
  | .lit (.string l) => [.str l]
  | .nil => [.nils]
  | .slice ds _ => [.row (avOfL ds) ds.length]
  | .agg ds => avOfL ds
  | _ => [.any]
def avOfL {H : Type} : List (DataW H) → List AV
  | [] => []
  | d :: ds => avOf d ++ avOfL ds
end
/-- what is left behind by a call to which nothing was handed to be written -/
theorem Left.below {w : World} {H : View} {w' : World} {H' : View} (h : Left w H [] w' H' []) : Below w.heap.size w w' :=
  ⟨h.os, h.tape, h.output, h.size, fun k hk => h.frame k hk (fun o ob ho => by simp at ho)⟩
/-- the view of a call's beginning: nothing is known, nothing may be written -/
def View.none : View := ⟨0, fun _ => 0, fun _ => 0, fun _ => 0, fun _ => 0, fun _ => False⟩
theorem Objs.none (w : World) : Objs w View.none [] := ⟨rfl, fun o ob h => by simp at h, fun o o' ob ob' h => by simp at h, fun b h => h.elim⟩
/-- a law that answers true leaves the world as it was -/
theorem Does.calls {P : Program} {f : FuncId} {args : List AV} {r : AV} (h : Does P f args r) {w : World} {vs : List Value} (hr : RelL w args View.none vs) :
    Calls P f vs.toArray w fun e w' => ∃ v H', e = .returned v ∧ RelV w' r H' v ∧ Below w.heap.size w w' := by
  refine (h.2 View.none w vs (Objs.none w) hr).mono fun e w' ⟨r', os, H', v, he, ⟨h1, h2⟩, h3, h4⟩ => ?_
  subst h1; subst h2
  exact ⟨v, H', he, h3, h4.below⟩
/-- the fields lie one behind the other, and fill the whole -/
def tiles (T : Tab) (size : Nat) : Nat → List (Nat × TypeId) → Bool
  | n, [] => n == size
  | n, (off, t) :: fs => off == n && (match T.at t with | some y => tiles T size (n + y.size) fs | none => false)
/-- a type of whole numbers, truth values, strings, and of structs, arrays and slices of such -/
def goodT (T : Tab) : Nat → TypeId → Bool
  | 0, _ => false
  | f + 1, t => match T.at t with
    | some y => (match y.k with
      | .int _ => y.size == 1
      | .bool => y.size == 1
      | .string => y.size == 1
      | .slice e => y.size == 1 && goodT T f e
      | .array n e => goodT T f e && (match T.at e with | some ye => y.size == n * ye.size | none => false)
      | .struct fs => tiles T y.size 0 fs && fs.all (fun q => goodT T f q.2)
      | _ => false)
    | none => false
theorem tabTy {P : Program} {T : Tab} (ok : TabOK P T) {t : TypeId} {y : Ty} (h : T.at t = some y) : ∃ d i, P.underlying t = some d ∧ P.info? t = some i ∧ y.k = kOf d ∧ y.size = i.size ∧ y.bytes = i.bytes ∧ y.zero = i.zero.map fun z => z.cells.toList := tyOf_spec (ok t y h)
theorem cellsOf_tab {P : Program} {T : Tab} (ok : TabOK P T) {t : TypeId} {y : Ty} (h : T.at t = some y) : P.cellsOf t = y.size := by
  obtain ⟨d, i, _, hi, _, hs, _⟩ := tabTy ok h
  simp [Program.cellsOf, hi, hs]
/-- cells that are read in pieces -/
theorem pieces_rel {H : Type} {w : World} : ∀ (xs : List (DataW H × List MemPlace)) (L : Nat → List Value), (∀ i x, xs[i]? = some x → RelL w (avOf x.1) View.none (L i)) →
    RelL w (avOfL (xs.map (·.1))) View.none ((List.range xs.length).flatMap L)
  | [], L, _ => by simp [avOfL, RelL]
  | x :: xs, L, h => by
    rw [List.length_cons, List.range_succ_eq_map]
    simp only [List.map_cons, avOfL, List.flatMap_cons, List.flatMap_map]
    exact (h 0 x rfl).append (pieces_rel xs (fun i => L (i + 1)) fun i y hy => h (i + 1) y (by simpa using hy))
theorem chunks {k : Nat} : ∀ (n : Nat) (cs : List Value), cs.length = n * k → (List.range n).flatMap (fun i => (cs.drop (i * k)).take k) = cs
  | 0, cs, h => by
    have : cs = [] := List.length_eq_zero_iff.1 (by simpa using h)
    subst this; rfl
  | n + 1, cs, h => by
    rw [List.range_succ_eq_map]
    simp only [List.flatMap_cons, List.flatMap_map, Nat.zero_mul, List.drop_zero]
    have e := chunks n (cs.drop k) (by rw [List.length_drop, h, Nat.succ_mul, Nat.add_sub_cancel])
    have e2 : (fun i => (cs.drop (Nat.succ i * k)).take k) = fun i => ((cs.drop k).drop (i * k)).take k := by
      funext i; rw [List.drop_drop, Nat.succ_mul, Nat.add_comm]
    rw [e2, e, List.take_append_drop]
/-- what a reading of an argument tells -/
theorem trod_rel {H : Type} {enc : TypeId × Value → H} {P : Program} {T : Tab} (ok : TabOK P T) {w : World} : ∀ (fuel g : Nat) (t : TypeId) (cs : List Value) (d : DataW H) (ps : List MemPlace),
    DataW.trod enc P w 0 (fun _ => true) true fuel t cs = some (d, ps) → goodT T g t = true → RelL w (avOf d) View.none cs ∧ cs.length = P.cellsOf t := by
  intro fuel
  induction fuel with
  | zero => intro g t cs d ps h; simp [DataW.trod] at h
  | succ fuel ih =>
    intro g t cs d ps h hg
    cases g with
    | zero => simp [goodT] at hg
    | succ g =>
      simp only [goodT] at hg
      cases hy : T.at t with
      | none => rw [hy] at hg; cases hg
      | some y =>
        rw [hy] at hg
        obtain ⟨dd, inf, hd, _, hk, _⟩ := tabTy ok hy
        have hcell := cellsOf_tab ok hy
        simp only [hk] at hg
        cases dd <;> simp only [kOf] at hg <;> try (cases hg; done)
        case int k =>
          have hsz : y.size = 1 := by simpa using hg
          rcases cs with _ | ⟨v, _ | ⟨v2, r⟩⟩
          · simp [DataW.trod, hd] at h
          · cases v <;> simp only [DataW.trod, hd] at h <;> try (simp at h; done)
            split at h
            · rename_i hq
              injection h with h; injection h with h1 h2
              subst h1
              obtain ⟨rfl, _⟩ := hq
              exact ⟨RelL_cons rfl RelL_nil, by rw [hcell, hsz]; rfl⟩
            · cases h
          · simp [DataW.trod, hd] at h
        case bool =>
          have hsz : y.size = 1 := by simpa using hg
          rcases cs with _ | ⟨v, _ | ⟨v2, r⟩⟩
          · simp [DataW.trod, hd] at h
          · cases v <;> simp only [DataW.trod, hd] at h <;> try (simp at h; done)
            injection h with h; injection h with h1 h2
            subst h1
            exact ⟨RelL_cons rfl RelL_nil, by rw [hcell, hsz]; rfl⟩
          · simp [DataW.trod, hd] at h
        case string =>
          have hsz : y.size = 1 := by simpa using hg
          rcases cs with _ | ⟨v, _ | ⟨v2, r⟩⟩
          · simp [DataW.trod, hd] at h
          · cases v <;> simp only [DataW.trod, hd] at h <;> try (simp at h; done)
            split at h
            · injection h with h; injection h with h1 h2
              subst h1
              exact ⟨RelL_cons rfl RelL_nil, by rw [hcell, hsz]; rfl⟩
            · cases h
          · simp [DataW.trod, hd] at h
        case slice e =>
          have hsz : y.size = 1 := by simp at hg; exact hg.1
          have hge : goodT T g e = true := by simp at hg; exact hg.2
          rcases DataW.trod_slice hd h with ⟨rfl, hx⟩ | ⟨a, len, cap, elems, rest, m, hm, rfl, hx, _, hl, _, hlen, hel, _, _⟩
          · injection hx with h1 h2
            subst h1
            exact ⟨RelL_cons rfl RelL_nil, by rw [hcell, hsz]; rfl⟩
          · injection hx with h1 h2
            subst h1
            obtain rfl : fuel = m := by omega
            refine ⟨RelL_cons ?_ RelL_nil, by rw [hcell, hsz]; rfl⟩
            have hp : ∀ i x, elems[i]? = some x → RelL w (avOf x.1) View.none ((w.cells? 0 (a.add (i * P.cellsOf e)) (P.cellsOf e)).getD []) := by
              intro i x hx
              have hi : i < len := by rw [← hlen]; exact (List.getElem?_eq_some_iff.1 hx).1
              have hh := hel i hi
              rw [hx] at hh
              obtain ⟨cs, h1, h2⟩ := Option.bind_eq_some_iff.1 hh
              rw [h1]
              exact (ih g e cs x.1 x.2 h2 hge).1
            have hr := pieces_rel elems _ hp
            refine ⟨some a, cap, _, by rw [List.length_map, hlen], by rw [List.length_map, hlen]; exact hl, hr, fun _ => ⟨a, rfl, ?_, id⟩⟩
            have hat : ∀ n, n ≤ elems.length → At w a ((List.range n).flatMap fun i => (w.cells? 0 (a.add (i * P.cellsOf e)) (P.cellsOf e)).getD []) ∧ ((List.range n).flatMap fun i => (w.cells? 0 (a.add (i * P.cellsOf e)) (P.cellsOf e)).getD []).length = n * P.cellsOf e := by
              intro n
              induction n with
              | zero => intro _; exact ⟨fun j u h => by simp at h, by simp⟩
              | succ n ihn =>
                intro hn
                obtain ⟨k1, k2⟩ := ihn (by omega)
                have hh := hel n (by omega)
                rw [List.getElem?_eq_getElem (by omega)] at hh
                obtain ⟨cs, h1, h2⟩ := Option.bind_eq_some_iff.1 hh
                obtain ⟨_, hcl, hcc⟩ := World.cells?_some h1
                rw [List.range_succ, List.flatMap_append]
                simp only [List.flatMap_cons, List.flatMap_nil, List.append_nil]
                rw [h1, Option.getD_some]
                refine ⟨fun j u hj => ?_, by rw [List.length_append, k2, hcl, Nat.succ_mul]⟩
                by_cases hjl : j < n * P.cellsOf e
                · rw [List.getElem?_append_left (by rw [k2]; exact hjl)] at hj
                  exact k1 j u hj
                · rw [List.getElem?_append_right (by rw [k2]; omega), k2] at hj
                  have hlt : j - n * P.cellsOf e < P.cellsOf e := by
                    have := (List.getElem?_eq_some_iff.1 hj).1; rw [hcl] at this; exact this
                  have := hcc _ hlt
                  rw [hj, Addr.add_add] at this
                  rw [← this]
                  congr 2; omega
            exact (hat elems.length (Nat.le_refl _)).1
        case array n e =>
          obtain ⟨xs, m, hm, hx, hl, hxl, hel⟩ := DataW.trod_array hd h
          injection hx with h1 h2
          subst h1
          obtain rfl : fuel = m := by omega
          refine ⟨?_, hl⟩
          cases he : T.at e with
          | none => rw [he] at hg; simp at hg
          | some ye =>
            rw [he] at hg
            simp only [Bool.and_eq_true, beq_iff_eq] at hg
            have hce := cellsOf_tab ok he
            have hr := pieces_rel xs (fun i => (cs.drop (i * P.cellsOf e)).take (P.cellsOf e)) fun i x hx => by
              have hi : i < n := by rw [← hxl]; exact (List.getElem?_eq_some_iff.1 hx).1
              exact (ih g e _ x.1 x.2 ((hel i hi).trans hx) hg.1).1
            rw [hxl, chunks n cs (by rw [hl, hcell, hce]; exact hg.2)] at hr
            exact hr
        case struct fs =>
          obtain ⟨xs, m, hm, hx, hl, hxl, hel⟩ := DataW.trod_struct hd h
          injection hx with h1 h2
          subst h1
          obtain rfl : fuel = m := by omega
          refine ⟨?_, hl⟩
          simp only [Bool.and_eq_true] at hg
          have hgo : ∀ (l : List Field) (n : Nat) (ys : List (DataW H × List MemPlace)), tiles T y.size n (l.map fun f => (f.offset, f.type)) = true → (∀ f, f ∈ l → goodT T g f.type = true) → ys.length = l.length →
              (∀ (i : Nat) (f : Field), l[i]? = some f → DataW.trod enc P w 0 (fun _ => true) true fuel f.type ((cs.drop f.offset).take (P.cellsOf f.type)) = ys[i]?) → RelL w (avOfL (ys.map (·.1))) View.none (cs.drop n) := by
            intro l
            induction l with
            | nil =>
              intro n ys ht _ hyl _
              have : ys = [] := List.length_eq_zero_iff.1 hyl
              subst this
              have hn : n = y.size := by simpa [tiles] using ht
              rw [List.drop_of_length_le (by rw [hl, hcell, hn]; exact Nat.le_refl _)]
              exact rfl
            | cons f l ihl =>
              intro n ys ht hgd hyl hel
              cases ys with
              | nil => simp at hyl
              | cons x ys =>
                simp only [List.map_cons, tiles, Bool.and_eq_true, beq_iff_eq] at ht
                obtain ⟨hoff, ht⟩ := ht
                cases hfy : T.at f.type with
                | none => rw [hfy] at ht; cases ht
                | some yf =>
                  rw [hfy] at ht
                  have h0 := hel 0 f rfl
                  rw [hoff] at h0
                  have hx0 := (ih g f.type _ x.1 x.2 (h0.trans rfl) (hgd f (List.mem_cons_self ..))).1
                  have hr := ihl (n + yf.size) ys ht (fun f' hf' => hgd f' (List.mem_cons_of_mem _ hf')) (by simpa using hyl) fun i f' hf' => by simpa using hel (i + 1) f' (by simpa using hf')
                  rw [List.map_cons, avOfL]
                  have e : cs.drop n = (cs.drop n).take (P.cellsOf f.type) ++ cs.drop (n + yf.size) := by
                    rw [cellsOf_tab ok hfy, ← List.drop_drop, List.take_append_drop]
                  rw [e]
                  exact hx0.append hr
          have := hgo fs.toList 0 xs hg.1 (fun f hf => by
            have := List.all_eq_true.1 hg.2 (f.offset, f.type) (List.mem_map.2 ⟨f, hf, rfl⟩)
            exact this) (by simpa using hxl) (fun i f hf => hel i f (by simpa using hf))
          rw [List.drop_zero] at this
          exact this
/-- an argument, as an abstract value -/
def avArg {H : Type} : DataW H → AV
  | .agg ds => .agg (avOfL ds)
  | d => (avOf d).headD .any
theorem arg_rel {H : Type} {enc : TypeId × Value → H} {P : Program} {T : Tab} (ok : TabOK P T) {w w' : World} {r : Reach} {base g : Nat} {t : TypeId} {v : Value} {d : DataW H} {ps : List MemPlace} (hok : Value.okWide P w' r base t v)
    (h : DataW.Trod enc P w 0 (fun _ => true) true t v d ps) (hg : goodT T g t = true) : RelV w (avArg d) View.none v := by
  obtain ⟨fuel, h⟩ := h
  obtain ⟨hr, _⟩ := trod_rel ok fuel g t _ d ps h hg
  cases g with
  | zero => simp [goodT] at hg
  | succ g =>
    simp only [goodT] at hg
    cases hy : T.at t with
    | none => rw [hy] at hg; cases hg
    | some y =>
      rw [hy] at hg
      obtain ⟨dd, inf, hd, _, hk, _⟩ := tabTy ok hy
      simp only [hk] at hg
      cases dd <;> simp only [kOf] at hg <;> try (cases hg; done)
      case int k =>
        obtain ⟨n, h1, h2, _⟩ := DataW.trod_int hd h
        injection h2 with h2 h3; subst h2
        obtain ⟨u, vs, e, hu, e2⟩ := hr
        simp only [RelV] at hu; subst hu
        cases v <;> simp_all [Value.cells, Value.okWide, Cell.okWide, Cell.ok, avArg, avOf, RelV]
      case bool =>
        obtain ⟨n, h1, h2⟩ := DataW.trod_bool hd h
        injection h2 with h2 h3; subst h2
        obtain ⟨u, vs, e, hu, e2⟩ := hr
        simp only [RelV] at hu; subst hu
        cases v <;> simp_all [Value.cells, Value.okWide, Cell.okWide, Cell.ok, avArg, avOf, RelV]
      case string =>
        obtain ⟨n, h1, h2, _⟩ := DataW.trod_string hd h
        injection h2 with h2 h3; subst h2
        obtain ⟨u, vs, e, hu, e2⟩ := hr
        simp only [RelV] at hu; subst hu
        cases v <;> simp_all [Value.cells, Value.okWide, Cell.okWide, Cell.ok, avArg, avOf, RelV]
      case slice e =>
        have hv : v.cells.toList = [v] := by
          simp only [Value.okWide, hd, Cell.okWide] at hok
          cases v <;> simp_all [Cell.ok, Value.cells]
        rw [hv] at hr
        rcases DataW.trod_slice hd h with ⟨_, hx⟩ | ⟨a, len, cap, elems, rest, m, _, _, hx, _⟩
        · injection hx with h1 h2
          subst h1
          obtain ⟨u, vs, e, hu, _⟩ := hr
          injection e with e _; subst e
          exact hu
        · injection hx with h1 h2
          subst h1
          obtain ⟨u, vs, e, hu, _⟩ := hr
          injection e with e _; subst e
          exact hu
      case array n e =>
        obtain ⟨xs, m, _, hx, _⟩ := DataW.trod_array hd h
        injection hx with h1 h2
        subst h1
        simp only [Value.okWide, hd] at hok
        obtain ⟨cs, rfl, _⟩ := hok
        exact ⟨cs.toList, rfl, hr⟩
      case struct fs =>
        obtain ⟨xs, m, _, hx, _⟩ := DataW.trod_struct hd h
        injection hx with h1 h2
        subst h1
        simp only [Value.okWide, hd] at hok
        obtain ⟨cs, rfl, _⟩ := hok
        exact ⟨cs.toList, rfl, hr⟩
theorem args_rel {H : Type} {enc : TypeId × Value → H} {P : Program} {T : Tab} (ok : TabOK P T) {w w' : World} {r : Reach} {base g : Nat} : ∀ {ts : List TypeId} {vs : List Value} {ds : List (DataW H)} {ps : List MemPlace},
    (∀ (j : Nat) t v, ts[j]? = some t → vs[j]? = some v → Value.okWide P w' r base t v) → DataW.TrodAll enc P w 0 (fun _ => true) true ts vs ds ps → ts.all (goodT T g) = true → RelL w (ds.map avArg) View.none vs
  | [], [], [], _, _, _, _ => rfl
  | t :: ts, v :: vs, d :: ds, _, hok, ⟨p, q, h1, h2, _⟩, hg => by
    simp only [List.all_cons, Bool.and_eq_true] at hg
    exact RelL_cons (arg_rel ok (hok 0 t v rfl rfl) h1 hg.1) (args_rel ok (fun j t v ht hv => hok (j + 1) t v (by simpa using ht) (by simpa using hv)) h2 hg.2)
  | [], [], _ :: _, _, _, h, _ => h.elim
  | [], _ :: _, _, _, _, h, _ => h.elim
  | _ :: _, [], _, _, _, h, _ => h.elim
  | _ :: _, _ :: _, [], _, _, h, _ => h.elim
/-- what a type says of data -/
def shapes {H : Type} (p : TypeId → DataW H → Prop) : List TypeId → List (DataW H) → Prop
  | [], ds => ds = []
  | t :: ts, ds => ∃ d r, ds = d :: r ∧ p t d ∧ shapes p ts r
def shapeT {H : Type} (T : Tab) : Nat → TypeId → DataW H → Prop
  | 0, _, _ => True
  | f + 1, t, d => match T.at t with
    | some y => (match y.k with
      | .int k => ∃ n, d = .lit (.int k n) ∧ (Lit.int k n).wf = true
      | .bool => ∃ b, d = .lit (.bool b)
      | .string => ∃ l, d = .lit (.string l) ∧ l.length ≤ maxLen
      | .slice e => d = .nil ∨ ∃ ds rest, d = .slice ds rest ∧ ds.length ≤ maxLen ∧ ∀ x ∈ ds, shapeT T f e x
      | .array n e => ∃ ds, d = .agg ds ∧ ds.length = n ∧ ∀ x ∈ ds, shapeT T f e x
      | .struct fs => ∃ ds, d = .agg ds ∧ shapes (shapeT T f) (fs.map (·.2)) ds
      | _ => True)
    | none => True
theorem shapes_of {H : Type} {p : TypeId → DataW H → Prop} : ∀ {ts : List TypeId} {ds : List (DataW H)}, ts.length = ds.length → (∀ (j : Nat) t d, ts[j]? = some t → ds[j]? = some d → p t d) → shapes p ts ds
  | [], [], _, _ => rfl
  | t :: ts, d :: ds, hl, h => ⟨d, ds, rfl, h 0 t d rfl rfl, shapes_of (by simpa using hl) fun j t d ht hd => h (j + 1) t d (by simpa using ht) (by simpa using hd)⟩
  | [], _ :: _, hl, _ => by simp at hl
  | _ :: _, [], hl, _ => by simp at hl
theorem trod_shape {H : Type} {enc : TypeId × Value → H} {P : Program} {T : Tab} (ok : TabOK P T) {w : World} : ∀ (fuel g : Nat) (t : TypeId) (cs : List Value) (x : DataW H × List MemPlace),
    DataW.trod enc P w 0 (fun _ => true) true fuel t cs = some x → shapeT T g t x.1 := by
  intro fuel
  induction fuel with
  | zero => intro g t cs x h; simp [DataW.trod] at h
  | succ fuel ih =>
    intro g t cs x h
    cases g with
    | zero => trivial
    | succ g =>
      simp only [shapeT]
      cases hy : T.at t with
      | none => trivial
      | some y =>
        obtain ⟨dd, inf, hd, _, hk, _⟩ := tabTy ok hy
        simp only [hk]
        cases dd <;> simp only [kOf]
        case int k => obtain ⟨n, _, rfl, hw⟩ := DataW.trod_int hd h; exact ⟨n, rfl, hw⟩
        case bool => obtain ⟨n, _, rfl⟩ := DataW.trod_bool hd h; exact ⟨n, rfl⟩
        case string => obtain ⟨s, _, rfl, hs⟩ := DataW.trod_string hd h; exact ⟨_, rfl, hs⟩
        case slice e =>
          rcases DataW.trod_slice hd h with ⟨_, rfl⟩ | ⟨a, len, cap, elems, rest, m, hm, _, rfl, _, hl, hc, hlen, hel, _, _⟩
          · exact .inl rfl
          · obtain rfl : fuel = m := by omega
            refine .inr ⟨_, _, rfl, by rw [List.length_map, hlen]; exact Nat.le_trans hl hc, fun d hd => ?_⟩
            obtain ⟨z, hz, rfl⟩ := List.mem_map.1 hd
            obtain ⟨i, hi⟩ := List.getElem?_of_mem hz
            have hh := hel i (by rw [← hlen]; exact (List.getElem?_eq_some_iff.1 hi).1)
            rw [hi] at hh
            obtain ⟨cs', _, h2⟩ := Option.bind_eq_some_iff.1 hh
            exact ih g e cs' z h2
        case array n e =>
          obtain ⟨xs, m, hm, rfl, _, hxl, hel⟩ := DataW.trod_array hd h
          obtain rfl : fuel = m := by omega
          refine ⟨_, rfl, by rw [List.length_map, hxl], fun d hd => ?_⟩
          obtain ⟨z, hz, rfl⟩ := List.mem_map.1 hd
          obtain ⟨i, hi⟩ := List.getElem?_of_mem hz
          have hh := hel i (by rw [← hxl]; exact (List.getElem?_eq_some_iff.1 hi).1)
          rw [hi] at hh
          exact ih g e _ z hh
        case struct fs =>
          obtain ⟨xs, m, hm, rfl, _, hxl, hel⟩ := DataW.trod_struct hd h
          obtain rfl : fuel = m := by omega
          refine ⟨_, rfl, shapes_of (by simp [hxl]) fun j t d ht hd => ?_⟩
          simp only [List.map_map, List.getElem?_map, Option.map_eq_some_iff, Array.getElem?_toList] at ht hd
          obtain ⟨f, hf, rfl⟩ := ht
          obtain ⟨z, hz, rfl⟩ := hd
          exact ih g _ _ z ((hel j f hf).trans hz)
theorem args_shape {H : Type} {enc : TypeId × Value → H} {P : Program} {T : Tab} (ok : TabOK P T) {w : World} {g : Nat} : ∀ {ts : List TypeId} {vs : List Value} {ds : List (DataW H)} {ps : List MemPlace},
    DataW.TrodAll enc P w 0 (fun _ => true) true ts vs ds ps → shapes (shapeT T g) ts ds
  | [], [], [], _, _ => rfl
  | t :: ts, v :: vs, d :: ds, _, ⟨p, q, ⟨fuel, h1⟩, h2, _⟩ => ⟨d, ds, rfl, trod_shape ok fuel g t _ (d, p) h1, args_shape ok h2⟩
  | [], [], _ :: _, _, h => h.elim
  | [], _ :: _, _, _, h => h.elim
  | _ :: _, [], _, _, h => h.elim
  | _ :: _, _ :: _, [], _, h => h.elim
theorem shapes.length {H : Type} {p : TypeId → DataW H → Prop} : ∀ {ts : List TypeId} {ds : List (DataW H)}, shapes p ts ds → ds.length = ts.length
  | [], _, h => by cases h; rfl
  | _ :: _, _, ⟨_, _, rfl, _, h⟩ => by simp [shapes.length h]
/-- the arguments read behind the call as they did ahead of it -/
theorem Below.trodAll {H : Type} {enc : TypeId × Value → H} {P : Program} (hl : laidOutB P = true) {W W' : World} (hb : Below W.heap.size W W') : ∀ {ts : List TypeId} {vs : List Value} {ds : List (DataW H)} {ps : List MemPlace},
    ts.all (fun t => P.readableRec t && decide (t < P.types.size)) = true → DataW.TrodAll enc P W 0 (fun _ => true) true ts vs ds ps → DataW.TrodAll enc P W' 0 (fun b => decide (b < W.heap.size)) true ts vs ds ps
  | [], [], [], _, _, h => h
  | t :: ts, v :: vs, d :: ds, _, hg, ⟨p, q, h1, h2, e⟩ => by
    simp only [List.all_cons, Bool.and_eq_true, decide_eq_true_eq] at hg
    refine ⟨p, q, Below.trod hl hg.1.1 hg.1.2 h1 hb ?_, Below.trodAll hl hb hg.2 h2, e⟩
    obtain ⟨m, hm⟩ := h1
    exact DataW.trod_lt m _ _ _ hm
  | [], [], _ :: _, _, _, h => h.elim
  | [], _ :: _, _, _, _, h => h.elim
  | _ :: _, [], _, _, _, h => h.elim
  | _ :: _, _ :: _, [], _, _, h => h.elim
end Go.Lens

set_option linter.unusedVariables false
set_option linter.unusedSimpArgs false
namespace Go.Lens
open Go
/-! ### weaker arguments -/
def SubL : List AV → List AV → Prop
  | [], [] => True
  | c :: cs, d :: ds => Sub c d ∧ SubL cs ds
  | _, _ => False
theorem SubL.rel : ∀ {cs ds : List AV}, SubL cs ds → ∀ (w : World) (H : View) (vs : List Value), RelL w cs H vs → RelL w ds H vs
  | [], [], _, _, _, _, h => h
  | c :: cs, d :: ds, ⟨h1, h2⟩, w, H, vs, h => by
    obtain ⟨v, vs', e, g1, g2⟩ := h
    exact ⟨v, vs', e, h1 w H v g1, SubL.rel h2 w H vs' g2⟩
end Go.Lens

set_option linter.unusedVariables false
set_option linter.unusedSimpArgs false
namespace Go.Lens
open Go Go.RowKit
/-! ### an object that is given up: its slice is only read from now on -/
/-! ### a slice without spare room -/
end Go.Lens

set_option linter.unusedVariables false
set_option linter.unusedSimpArgs false
namespace Go.Lens
open Go Go.RowKit
mutual
theorem RelV.scoped {w : World} {H : View} : ∀ (c : AV) {v : Value}, RelV w c H v → c.inside H.n = true
  | .any, _, _ => rfl
  | .int .., _, _ => rfl
  | .bool .., _, _ => rfl
  | .str .., _, _ => rfl
  | .nilp, _, _ => rfl
  | .nils, _, _ => rfl
  | .nilFunc, _, _ => rfl
  | .nilm, _, _ => rfl
  | .row .., _, _ => rfl
  | .clip .., _, _ => rfl
  | .radr .., _, _ => rfl
  | .ptr .., _, ⟨h, _⟩ => by simpa [AV.inside] using h
  | .sl .., _, ⟨h, _⟩ => by simpa [AV.inside] using h
  | .mp .., _, ⟨h, _⟩ => by simpa [AV.inside] using h
  | .agg cs, _, ⟨vs, e, h⟩ => by simpa [AV.inside] using RelL.scoped cs h
  | .tup cs, _, ⟨vs, e, h⟩ => by simpa [AV.inside] using RelL.scoped cs h
  | .func _ x y, _, ⟨xs, ys, e, h, h'⟩ => by
    simp only [AV.inside, Bool.and_eq_true]
    exact ⟨RelL.scoped x h, RelL.scoped y h'⟩
theorem RelL.scoped {w : World} {H : View} : ∀ (cs : List AV) {vs : List Value}, RelL w cs H vs → scopedL H.n cs = true
  | [], _, _ => rfl
  | c :: cs, _, ⟨v, vs, e, h, h'⟩ => by
    simp only [scopedL, Bool.and_eq_true]
    exact ⟨RelV.scoped c h, RelL.scoped cs h'⟩
end
/-! ### what names what -/
/-- the objects name none but themselves -/
def ScO (objs : List AObj) : Prop := ∀ (o : Nat) (cs : List AV) (ver esz : Nat) (own : Option TypeId), objs[o]? = some (AObj.cells cs ver esz false own) → scopedL objs.length cs = true
def ScE (n : Nat) (env : List (Nat × AV)) : Prop := ∀ t av, look env t = some av → av.inside n = true
def ScS (n : Nat) (sv : List (Array Value × List (Nat × AV))) : Prop := ∀ p ∈ sv, ScE n p.2
theorem ScO.set {objs : List AObj} (h : ScO objs) {b : Nat} {X : AObj} (hx : ∀ cs ver esz own, X = AObj.cells cs ver esz false own → scopedL objs.length cs = true) : ScO (objs.set b X) := by
  intro o cs ver esz own ho
  rw [List.length_set]
  by_cases e : b = o
  · subst e
    rw [List.getElem?_set] at ho
    rw [if_pos rfl] at ho
    split at ho
    · injection ho with ho; exact hx _ _ _ _ ho
    · cases ho
  · rw [List.getElem?_set_ne e] at ho
    exact h o cs ver esz own ho
theorem ScE.nil (n : Nat) : ScE n [] := fun t av h => by cases h
theorem ScE.cons {n : Nat} {env : List (Nat × AV)} (h : ScE n env) {t : Nat} {v : AV} (hv : v.inside n = true) : ScE n ((t, v) :: env) := by
  intro t' av hl
  simp only [look] at hl
  split at hl
  · injection hl with hl; subst hl; exact hv
  · exact h t' av hl
theorem ScE.of {n : Nat} {env : List (Nat × AV)} (h : envScoped n env = true) : ScE n env := fun t av hl => envScoped_look h hl
theorem W.get {C : Ctx} {c : Code} {st : St} {Q : Exit → St → Prop} (h : ScO st.objs → ScE st.objs.length st.env → ScS st.objs.length C.sv → C.k ≤ st.objs.length → W C c st Q) : W C c st Q := by
  rintro a w ⟨H, hi⟩
  have hn := hi.objs.n
  refine h (fun o cs ver esz own ho => ?_) (fun t av ht => ?_) (fun p hp t av ht => ?_) hi.klen a w ⟨H, hi⟩
  · obtain ⟨_, _, vs, c, e, _, h4, _⟩ := hi.objs.rel o _ ho
    rw [← hn]; exact RelL.scoped cs h4
  · rw [← hn]; exact RelV.scoped av (hi.env t av ht)
  · rw [← hn]; exact RelV.scoped av (hi.saved p hp t av ht)
/-! ### maps -/
def kvGet (es : List (Int × AV)) (n : Int) : Option AV := match es with
  | [] => none
  | p :: r => if p.1 = n then some p.2 else kvGet r n
end Go.Lens

set_option linter.unusedVariables false
set_option linter.unusedSimpArgs false
namespace Go.Lens
open Go Go.RowKit
theorem W.base {C : Ctx} {c : Code} {env : List (Nat × AV)} {O : List AObj} {Q : Exit → St → Prop} (h : W C c ⟨env, O ++ []⟩ Q) : W C c ⟨env, O⟩ Q := by
  rw [List.append_nil] at h; exact h
theorem WL.base {C : Ctx} {ops : Array Oper} {r : List Oper} {env : List (Nat × AV)} {O : List AObj} {Q : Exit → St → Prop} (h : WL C ops r ⟨env, O ++ []⟩ Q) : WL C ops r ⟨env, O⟩ Q := by
  rw [List.append_nil] at h; exact h
theorem ScO.own {objs : List AObj} (h : ScO objs) (m : Nat) (cs : List AV) (ver esz : Nat) (own : Option TypeId) : ScO (objs.set m (.cells cs ver esz true own)) := h.set (fun _ _ _ _ h => by cases h)
end Go.Lens

namespace Go.Proofs.YtehoobhbginahaaDoor
open Go Go.Lens
set_option maxRecDepth 100000
def tab : Tab := [
  none,
  some ⟨.func, 1, 8, some [.nilFunc]⟩,
  some ⟨.int .i64, 1, 8, some [.int .i64 0]⟩,
  some ⟨.int .i64, 1, 8, some [.int .i64 0]⟩,
  some ⟨.bool, 1, 1, some [.bool false]⟩,
  some ⟨.int .u8, 1, 1, some [.int .u8 0]⟩,
  some ⟨.int .u8, 1, 1, some [.int .u8 0]⟩,
  some ⟨.struct [(0, 2), (1, 3), (2, 4), (3, 6)], 4, 24, some [.int .i64 0, .int .i64 0, .bool false, .int .u8 0]⟩,
  some ⟨.struct [(0, 2), (1, 3), (2, 4), (3, 6)], 4, 24, some [.int .i64 0, .int .i64 0, .bool false, .int .u8 0]⟩,
  some ⟨.string, 1, 16, some [.string ⟨#[]⟩]⟩,
  some ⟨.string, 1, 16, some [.string ⟨#[]⟩]⟩,
  some ⟨.string, 1, 16, some [.string ⟨#[]⟩]⟩,
  some ⟨.int .u64, 1, 8, some [.int .u64 0]⟩,
  some ⟨.struct [(0, 9), (1, 12)], 2, 24, some [.string ⟨#[]⟩, .int .u64 0]⟩,
  some ⟨.struct [(0, 9), (1, 12)], 2, 24, some [.string ⟨#[]⟩, .int .u64 0]⟩,
  some ⟨.pointer 138, 1, 8, some [.pointer none]⟩,
  some ⟨.pointer 141, 1, 8, some [.pointer none]⟩,
  some ⟨.pointer 149, 1, 8, some [.pointer none]⟩,
  some ⟨.struct [(0, 17)], 1, 8, some [.pointer none]⟩,
  some ⟨.struct [(0, 17)], 1, 8, some [.pointer none]⟩,
  none,
  some ⟨.int .i32, 1, 4, some [.int .i32 0]⟩,
  some ⟨.struct [(0, 3), (1, 3), (2, 3)], 3, 24, some [.int .i64 0, .int .i64 0, .int .i64 0]⟩,
  some ⟨.struct [(0, 3), (1, 3), (2, 3)], 3, 24, some [.int .i64 0, .int .i64 0, .int .i64 0]⟩,
  some ⟨.struct [(0, 23), (3, 3), (4, 3), (5, 9)], 6, 56, some [.int .i64 0, .int .i64 0, .int .i64 0, .int .i64 0, .int .i64 0, .string ⟨#[]⟩]⟩,
  some ⟨.struct [(0, 23), (3, 3), (4, 3), (5, 9)], 6, 56, some [.int .i64 0, .int .i64 0, .int .i64 0, .int .i64 0, .int .i64 0, .string ⟨#[]⟩]⟩,
  some ⟨.pointer 46, 1, 8, some [.pointer none]⟩,
  some ⟨.func, 1, 8, some [.nilFunc]⟩,
  some ⟨.int .i64, 1, 8, some [.int .i64 0]⟩,
  some ⟨.func, 1, 8, some [.nilFunc]⟩,
  some ⟨.func, 1, 8, some [.nilFunc]⟩,
  some ⟨.slice 25, 1, 24, some [.slice none 0 0]⟩,
  some ⟨.func, 1, 8, some [.nilFunc]⟩,
  some ⟨.func, 1, 8, some [.nilFunc]⟩,
  some ⟨.slice 69, 1, 24, some [.slice none 0 0]⟩,
  some ⟨.struct [(0, 34)], 1, 24, some [.slice none 0 0]⟩,
  some ⟨.struct [(0, 34)], 1, 24, some [.slice none 0 0]⟩,
  some ⟨.struct [(0, 36), (1, 4)], 2, 32, some [.slice none 0 0, .bool false]⟩,
  some ⟨.struct [(0, 36), (1, 4)], 2, 32, some [.slice none 0 0, .bool false]⟩,
  some ⟨.func, 1, 8, some [.nilFunc]⟩,
  some ⟨.func, 1, 8, some [.nilFunc]⟩,
  some ⟨.func, 1, 8, some [.nilFunc]⟩,
  some ⟨.func, 1, 8, some [.nilFunc]⟩,
  some ⟨.func, 1, 8, some [.nilFunc]⟩,
  some ⟨.map 3 38, 1, 8, some [.map none]⟩,
  some ⟨.struct [(0, 31), (1, 44)], 2, 32, some [.slice none 0 0, .map none]⟩,
  some ⟨.struct [(0, 31), (1, 44)], 2, 32, some [.slice none 0 0, .map none]⟩,
  some ⟨.func, 1, 8, some [.nilFunc]⟩,
  some ⟨.func, 1, 8, some [.nilFunc]⟩,
  some ⟨.func, 1, 8, some [.nilFunc]⟩,
  some ⟨.func, 1, 8, some [.nilFunc]⟩,
  some ⟨.func, 1, 8, some [.nilFunc]⟩,
  some ⟨.func, 1, 8, some [.nilFunc]⟩,
  some ⟨.func, 1, 8, some [.nilFunc]⟩,
  some ⟨.func, 1, 8, some [.nilFunc]⟩,
  none,
  some ⟨.func, 1, 8, some [.nilFunc]⟩,
  some ⟨.func, 1, 8, some [.nilFunc]⟩,
  some ⟨.func, 1, 8, some [.nilFunc]⟩,
  some ⟨.func, 1, 8, some [.nilFunc]⟩,
  some ⟨.func, 1, 8, some [.nilFunc]⟩,
  some ⟨.struct [(0, 3), (1, 59)], 2, 16, some [.int .i64 0, .nilFunc]⟩,
  some ⟨.struct [(0, 3), (1, 59)], 2, 16, some [.int .i64 0, .nilFunc]⟩,
  some ⟨.slice 62, 1, 24, some [.slice none 0 0]⟩,
  some ⟨.func, 1, 8, some [.nilFunc]⟩,
  some ⟨.slice 9, 1, 24, some [.slice none 0 0]⟩,
  none,
  some ⟨.func, 1, 8, some [.nilFunc]⟩,
  some ⟨.func, 1, 8, some [.nilFunc]⟩,
  some ⟨.int .u64, 1, 8, some [.int .u64 0]⟩,
  some ⟨.func, 1, 8, some [.nilFunc]⟩,
  some ⟨.func, 1, 8, some [.nilFunc]⟩,
  some ⟨.pointer 75, 1, 8, some [.pointer none]⟩,
  some ⟨.slice 5, 1, 24, some [.slice none 0 0]⟩,
  some ⟨.struct [(0, 72), (1, 73)], 2, 32, some [.pointer none, .slice none 0 0]⟩,
  some ⟨.struct [(0, 72), (1, 73)], 2, 32, some [.pointer none, .slice none 0 0]⟩,
  none,
  none,
  none,
  some ⟨.func, 1, 8, some [.nilFunc]⟩,
  none,
  some ⟨.func, 1, 8, some [.nilFunc]⟩,
  none,
  some ⟨.func, 1, 8, some [.nilFunc]⟩,
  some ⟨.slice 3, 1, 24, some [.slice none 0 0]⟩,
  some ⟨.func, 1, 8, some [.nilFunc]⟩,
  none,
  some ⟨.func, 1, 8, some [.nilFunc]⟩,
  some ⟨.func, 1, 8, some [.nilFunc]⟩,
  none,
  some ⟨.func, 1, 8, some [.nilFunc]⟩,
  none,
  some ⟨.func, 1, 8, some [.nilFunc]⟩,
  some ⟨.func, 1, 8, some [.nilFunc]⟩,
  some ⟨.func, 1, 8, some [.nilFunc]⟩,
  some ⟨.array 20 5, 20, 20, some [.int .u8 0, .int .u8 0, .int .u8 0, .int .u8 0, .int .u8 0, .int .u8 0, .int .u8 0, .int .u8 0, .int .u8 0, .int .u8 0, .int .u8 0, .int .u8 0, .int .u8 0, .int .u8 0, .int .u8 0, .int .u8 0, .int .u8 0, .int .u8 0, .int .u8 0, .int .u8 0]⟩,
  some ⟨.pointer 5, 1, 8, some [.pointer none]⟩,
  some ⟨.array 12 3, 12, 96, some [.int .i64 0, .int .i64 0, .int .i64 0, .int .i64 0, .int .i64 0, .int .i64 0, .int .i64 0, .int .i64 0, .int .i64 0, .int .i64 0, .int .i64 0, .int .i64 0]⟩,
  some ⟨.func, 1, 8, some [.nilFunc]⟩,
  none,
  some ⟨.func, 1, 8, some [.nilFunc]⟩,
  some ⟨.func, 1, 8, some [.nilFunc]⟩,
  some ⟨.func, 1, 8, some [.nilFunc]⟩,
  some ⟨.int .u64, 1, 8, some [.int .u64 0]⟩,
  some ⟨.func, 1, 8, some [.nilFunc]⟩,
  some ⟨.func, 1, 8, some [.nilFunc]⟩,
  some ⟨.func, 1, 8, some [.nilFunc]⟩,
  some ⟨.func, 1, 8, some [.nilFunc]⟩,
  some ⟨.func, 1, 8, some [.nilFunc]⟩,
  some ⟨.func, 1, 8, some [.nilFunc]⟩,
  none,
  some ⟨.func, 1, 8, some [.nilFunc]⟩,
  some ⟨.func, 1, 8, some [.nilFunc]⟩,
  some ⟨.func, 1, 8, some [.nilFunc]⟩,
  some ⟨.array 256 4, 256, 256, some [.bool false, .bool false, .bool false, .bool false, .bool false, .bool false, .bool false, .bool false, .bool false, .bool false, .bool false, .bool false, .bool false, .bool false, .bool false, .bool false, .bool false, .bool false, .bool false, .bool false, .bool false, .bool false, .bool false, .bool false, .bool false, .bool false, .bool false, .bool false, .bool false, .bool false, .bool false, .bool false, .bool false, .bool false, .bool false, .bool false, .bool false, .bool false, .bool false, .bool false, .bool false, .bool false, .bool false, .bool false, .bool false, .bool false, .bool false, .bool false, .bool false, .bool false, .bool false, .bool false, .bool false, .bool false, .bool false, .bool false, .bool false, .bool false, .bool false, .bool false, .bool false, .bool false, .bool false, .bool false, .bool false, .bool false, .bool false, .bool false, .bool false, .bool false, .bool false, .bool false, .bool false, .bool false, .bool false, .bool false, .bool false, .bool false, .bool false, .bool false, .bool false, .bool false, .bool false, .bool false, .bool false, .bool false, .bool false, .bool false, .bool false, .bool false, .bool false, .bool false, .bool false, .bool false, .bool false, .bool false, .bool false, .bool false, .bool false, .bool false, .bool false, .bool false, .bool false, .bool false, .bool false, .bool false, .bool false, .bool false, .bool false, .bool false, .bool false, .bool false, .bool false, .bool false, .bool false, .bool false, .bool false, .bool false, .bool false, .bool false, .bool false, .bool false, .bool false, .bool false, .bool false, .bool false, .bool false, .bool false, .bool false, .bool false, .bool false, .bool false, .bool false, .bool false, .bool false, .bool false, .bool false, .bool false, .bool false, .bool false, .bool false, .bool false, .bool false, .bool false, .bool false, .bool false, .bool false, .bool false, .bool false, .bool false, .bool false, .bool false, .bool false, .bool false, .bool false, .bool false, .bool false, .bool false, .bool false, .bool false, .bool false, .bool false, .bool false, .bool false, .bool false, .bool false, .bool false, .bool false, .bool false, .bool false, .bool false, .bool false, .bool false, .bool false, .bool false, .bool false, .bool false, .bool false, .bool false, .bool false, .bool false, .bool false, .bool false, .bool false, .bool false, .bool false, .bool false, .bool false, .bool false, .bool false, .bool false, .bool false, .bool false, .bool false, .bool false, .bool false, .bool false, .bool false, .bool false, .bool false, .bool false, .bool false, .bool false, .bool false, .bool false, .bool false, .bool false, .bool false, .bool false, .bool false, .bool false, .bool false, .bool false, .bool false, .bool false, .bool false, .bool false, .bool false, .bool false, .bool false, .bool false, .bool false, .bool false, .bool false, .bool false, .bool false, .bool false, .bool false, .bool false, .bool false, .bool false, .bool false, .bool false, .bool false, .bool false, .bool false, .bool false, .bool false, .bool false, .bool false, .bool false, .bool false, .bool false, .bool false, .bool false, .bool false, .bool false, .bool false, .bool false, .bool false, .bool false, .bool false, .bool false, .bool false, .bool false, .bool false]⟩,
  some ⟨.array 256 4, 256, 256, some [.bool false, .bool false, .bool false, .bool false, .bool false, .bool false, .bool false, .bool false, .bool false, .bool false, .bool false, .bool false, .bool false, .bool false, .bool false, .bool false, .bool false, .bool false, .bool false, .bool false, .bool false, .bool false, .bool false, .bool false, .bool false, .bool false, .bool false, .bool false, .bool false, .bool false, .bool false, .bool false, .bool false, .bool false, .bool false, .bool false, .bool false, .bool false, .bool false, .bool false, .bool false, .bool false, .bool false, .bool false, .bool false, .bool false, .bool false, .bool false, .bool false, .bool false, .bool false, .bool false, .bool false, .bool false, .bool false, .bool false, .bool false, .bool false, .bool false, .bool false, .bool false, .bool false, .bool false, .bool false, .bool false, .bool false, .bool false, .bool false, .bool false, .bool false, .bool false, .bool false, .bool false, .bool false, .bool false, .bool false, .bool false, .bool false, .bool false, .bool false, .bool false, .bool false, .bool false, .bool false, .bool false, .bool false, .bool false, .bool false, .bool false, .bool false, .bool false, .bool false, .bool false, .bool false, .bool false, .bool false, .bool false, .bool false, .bool false, .bool false, .bool false, .bool false, .bool false, .bool false, .bool false, .bool false, .bool false, .bool false, .bool false, .bool false, .bool false, .bool false, .bool false, .bool false, .bool false, .bool false, .bool false, .bool false, .bool false, .bool false, .bool false, .bool false, .bool false, .bool false, .bool false, .bool false, .bool false, .bool false, .bool false, .bool false, .bool false, .bool false, .bool false, .bool false, .bool false, .bool false, .bool false, .bool false, .bool false, .bool false, .bool false, .bool false, .bool false, .bool false, .bool false, .bool false, .bool false, .bool false, .bool false, .bool false, .bool false, .bool false, .bool false, .bool false, .bool false, .bool false, .bool false, .bool false, .bool false, .bool false, .bool false, .bool false, .bool false, .bool false, .bool false, .bool false, .bool false, .bool false, .bool false, .bool false, .bool false, .bool false, .bool false, .bool false, .bool false, .bool false, .bool false, .bool false, .bool false, .bool false, .bool false, .bool false, .bool false, .bool false, .bool false, .bool false, .bool false, .bool false, .bool false, .bool false, .bool false, .bool false, .bool false, .bool false, .bool false, .bool false, .bool false, .bool false, .bool false, .bool false, .bool false, .bool false, .bool false, .bool false, .bool false, .bool false, .bool false, .bool false, .bool false, .bool false, .bool false, .bool false, .bool false, .bool false, .bool false, .bool false, .bool false, .bool false, .bool false, .bool false, .bool false, .bool false, .bool false, .bool false, .bool false, .bool false, .bool false, .bool false, .bool false, .bool false, .bool false, .bool false, .bool false, .bool false, .bool false, .bool false, .bool false, .bool false, .bool false, .bool false, .bool false, .bool false, .bool false, .bool false, .bool false, .bool false, .bool false, .bool false, .bool false, .bool false, .bool false, .bool false, .bool false, .bool false, .bool false, .bool false]⟩,
  none,
  some ⟨.func, 1, 8, some [.nilFunc]⟩,
  some ⟨.func, 1, 8, some [.nilFunc]⟩,
  some ⟨.pointer 115, 1, 8, some [.pointer none]⟩,
  some ⟨.func, 1, 8, some [.nilFunc]⟩,
  some ⟨.func, 1, 8, some [.nilFunc]⟩,
  some ⟨.func, 1, 8, some [.nilFunc]⟩,
  some ⟨.func, 1, 8, some [.nilFunc]⟩,
  none,
  some ⟨.func, 1, 8, some [.nilFunc]⟩,
  some ⟨.func, 1, 8, some [.nilFunc]⟩,
  some ⟨.func, 1, 8, some [.nilFunc]⟩,
  some ⟨.array 256 5, 256, 256, some [.int .u8 0, .int .u8 0, .int .u8 0, .int .u8 0, .int .u8 0, .int .u8 0, .int .u8 0, .int .u8 0, .int .u8 0, .int .u8 0, .int .u8 0, .int .u8 0, .int .u8 0, .int .u8 0, .int .u8 0, .int .u8 0, .int .u8 0, .int .u8 0, .int .u8 0, .int .u8 0, .int .u8 0, .int .u8 0, .int .u8 0, .int .u8 0, .int .u8 0, .int .u8 0, .int .u8 0, .int .u8 0, .int .u8 0, .int .u8 0, .int .u8 0, .int .u8 0, .int .u8 0, .int .u8 0, .int .u8 0, .int .u8 0, .int .u8 0, .int .u8 0, .int .u8 0, .int .u8 0, .int .u8 0, .int .u8 0, .int .u8 0, .int .u8 0, .int .u8 0, .int .u8 0, .int .u8 0, .int .u8 0, .int .u8 0, .int .u8 0, .int .u8 0, .int .u8 0, .int .u8 0, .int .u8 0, .int .u8 0, .int .u8 0, .int .u8 0, .int .u8 0, .int .u8 0, .int .u8 0, .int .u8 0, .int .u8 0, .int .u8 0, .int .u8 0, .int .u8 0, .int .u8 0, .int .u8 0, .int .u8 0, .int .u8 0, .int .u8 0, .int .u8 0, .int .u8 0, .int .u8 0, .int .u8 0, .int .u8 0, .int .u8 0, .int .u8 0, .int .u8 0, .int .u8 0, .int .u8 0, .int .u8 0, .int .u8 0, .int .u8 0, .int .u8 0, .int .u8 0, .int .u8 0, .int .u8 0, .int .u8 0, .int .u8 0, .int .u8 0, .int .u8 0, .int .u8 0, .int .u8 0, .int .u8 0, .int .u8 0, .int .u8 0, .int .u8 0, .int .u8 0, .int .u8 0, .int .u8 0, .int .u8 0, .int .u8 0, .int .u8 0, .int .u8 0, .int .u8 0, .int .u8 0, .int .u8 0, .int .u8 0, .int .u8 0, .int .u8 0, .int .u8 0, .int .u8 0, .int .u8 0, .int .u8 0, .int .u8 0, .int .u8 0, .int .u8 0, .int .u8 0, .int .u8 0, .int .u8 0, .int .u8 0, .int .u8 0, .int .u8 0, .int .u8 0, .int .u8 0, .int .u8 0, .int .u8 0, .int .u8 0, .int .u8 0, .int .u8 0, .int .u8 0, .int .u8 0, .int .u8 0, .int .u8 0, .int .u8 0, .int .u8 0, .int .u8 0, .int .u8 0, .int .u8 0, .int .u8 0, .int .u8 0, .int .u8 0, .int .u8 0, .int .u8 0, .int .u8 0, .int .u8 0, .int .u8 0, .int .u8 0, .int .u8 0, .int .u8 0, .int .u8 0, .int .u8 0, .int .u8 0, .int .u8 0, .int .u8 0, .int .u8 0, .int .u8 0, .int .u8 0, .int .u8 0, .int .u8 0, .int .u8 0, .int .u8 0, .int .u8 0, .int .u8 0, .int .u8 0, .int .u8 0, .int .u8 0, .int .u8 0, .int .u8 0, .int .u8 0, .int .u8 0, .int .u8 0, .int .u8 0, .int .u8 0, .int .u8 0, .int .u8 0, .int .u8 0, .int .u8 0, .int .u8 0, .int .u8 0, .int .u8 0, .int .u8 0, .int .u8 0, .int .u8 0, .int .u8 0, .int .u8 0, .int .u8 0, .int .u8 0, .int .u8 0, .int .u8 0, .int .u8 0, .int .u8 0, .int .u8 0, .int .u8 0, .int .u8 0, .int .u8 0, .int .u8 0, .int .u8 0, .int .u8 0, .int .u8 0, .int .u8 0, .int .u8 0, .int .u8 0, .int .u8 0, .int .u8 0, .int .u8 0, .int .u8 0, .int .u8 0, .int .u8 0, .int .u8 0, .int .u8 0, .int .u8 0, .int .u8 0, .int .u8 0, .int .u8 0, .int .u8 0, .int .u8 0, .int .u8 0, .int .u8 0, .int .u8 0, .int .u8 0, .int .u8 0, .int .u8 0, .int .u8 0, .int .u8 0, .int .u8 0, .int .u8 0, .int .u8 0, .int .u8 0, .int .u8 0, .int .u8 0, .int .u8 0, .int .u8 0, .int .u8 0, .int .u8 0, .int .u8 0, .int .u8 0, .int .u8 0, .int .u8 0, .int .u8 0, .int .u8 0, .int .u8 0, .int .u8 0, .int .u8 0, .int .u8 0, .int .u8 0, .int .u8 0, .int .u8 0, .int .u8 0, .int .u8 0, .int .u8 0, .int .u8 0, .int .u8 0, .int .u8 0, .int .u8 0, .int .u8 0]⟩,
  some ⟨.struct [(0, 5), (1, 5)], 2, 2, some [.int .u8 0, .int .u8 0]⟩,
  some ⟨.struct [(0, 5), (1, 5)], 2, 2, some [.int .u8 0, .int .u8 0]⟩,
  some ⟨.array 16 130, 32, 32, some [.int .u8 0, .int .u8 0, .int .u8 0, .int .u8 0, .int .u8 0, .int .u8 0, .int .u8 0, .int .u8 0, .int .u8 0, .int .u8 0, .int .u8 0, .int .u8 0, .int .u8 0, .int .u8 0, .int .u8 0, .int .u8 0, .int .u8 0, .int .u8 0, .int .u8 0, .int .u8 0, .int .u8 0, .int .u8 0, .int .u8 0, .int .u8 0, .int .u8 0, .int .u8 0, .int .u8 0, .int .u8 0, .int .u8 0, .int .u8 0, .int .u8 0, .int .u8 0]⟩,
  some ⟨.func, 1, 8, some [.nilFunc]⟩,
  some ⟨.func, 1, 8, some [.nilFunc]⟩,
  some ⟨.func, 1, 8, some [.nilFunc]⟩,
  some ⟨.func, 1, 8, some [.nilFunc]⟩,
  some ⟨.pointer 151, 1, 8, some [.pointer none]⟩,
  some ⟨.struct [(0, 17), (1, 17), (2, 17), (3, 9)], 4, 40, some [.pointer none, .pointer none, .pointer none, .string ⟨#[]⟩]⟩,
  some ⟨.struct [(0, 17), (1, 17), (2, 17), (3, 9)], 4, 40, some [.pointer none, .pointer none, .pointer none, .string ⟨#[]⟩]⟩,
  some ⟨.array 0 16, 0, 0, some []⟩,
  some ⟨.struct [(0, 139)], 0, 0, some []⟩,
  some ⟨.struct [(0, 139)], 0, 0, some []⟩,
  some ⟨.int .u32, 1, 4, some [.int .u32 0]⟩,
  some ⟨.int .u8, 1, 1, some [.int .u8 0]⟩,
  some ⟨.int .u8, 1, 1, some [.int .u8 0]⟩,
  some ⟨.func, 1, 8, some [.nilFunc]⟩,
  some ⟨.int .i32, 1, 4, some [.int .i32 0]⟩,
  some ⟨.int .i32, 1, 4, some [.int .i32 0]⟩,
  some ⟨.struct [(0, 12), (1, 12), (2, 142), (3, 143), (4, 5), (5, 5), (6, 144), (7, 145), (8, 96), (9, 146), (10, 147)], 11, 48, some [.int .u64 0, .int .u64 0, .int .u32 0, .int .u8 0, .int .u8 0, .int .u8 0, .int .u8 0, .nilFunc, .pointer none, .int .i32 0, .int .i32 0]⟩,
  some ⟨.struct [(0, 12), (1, 12), (2, 142), (3, 143), (4, 5), (5, 5), (6, 144), (7, 145), (8, 96), (9, 146), (10, 147)], 11, 48, some [.int .u64 0, .int .u64 0, .int .u32 0, .int .u8 0, .int .u8 0, .int .u8 0, .int .u8 0, .nilFunc, .pointer none, .int .i32 0, .int .i32 0]⟩,
  some ⟨.struct [(0, 9)], 1, 16, some [.string ⟨#[]⟩]⟩,
  some ⟨.struct [(0, 9)], 1, 16, some [.string ⟨#[]⟩]⟩]
theorem tab_ok : TabOK Tryd.prog tab := TabOK.of_map (n := 152) (by kernel_rfl)
end Go.Proofs.YtehoobhbginahaaDoor

set_option linter.unusedVariables false
set_option linter.unusedSimpArgs false
namespace Go.Lens
/-- the digits of a number, the least first -/
def digs (B : Nat) (n : Nat) : List Nat :=
  if h : n = 0 ∨ B < 2 then [] else (n % B) :: digs B (n / B)
termination_by n
decreasing_by exact Nat.div_lt_self (by omega) (by omega)
end Go.Lens

set_option linter.unusedVariables false
set_option linter.unusedSimpArgs false
namespace Go.Proofs.YtehoobhbginahaaDoor
open Go Go.Lens
def u64AV (l : List Nat) : List AV := l.map fun (x : Nat) => .int .u64 x
def natRow (l : List Nat) : AV := .agg [.row (u64AV l) l.length]
@[simp] theorem u64AV_plain (l : List Nat) : plainL (u64AV l) = true := by
  induction l with
  | nil => rfl
  | cons x l ih => simp only [u64AV, List.map_cons, plainL, AV.plain, Bool.true_and]; exact ih
@[simp] theorem natRow_plain (l : List Nat) : (natRow l).plain = true := by simp [natRow, AV.plain, plainL, u64AV_plain]
def LB : Nat := 18446744073709551616
instance : NeZero LB := ⟨by decide⟩
/-- a number, as the program holds it -/
def natAV (n : Nat) : AV := natRow (digs LB n)
end Go.Proofs.YtehoobhbginahaaDoor

set_option linter.unusedVariables false
set_option linter.unusedSimpArgs false
namespace Go.Proofs.YtehoobhbginahaaDoor
open Go Go.Lens
end Go.Proofs.YtehoobhbginahaaDoor

set_option linter.unusedVariables false
set_option linter.unusedSimpArgs false
namespace Go.Proofs.YtehoobhbginahaaDoor
open Go Go.Lens
/-- a whole number, as the program holds it -/
def wholeRow (l : List Nat) (b : Bool) : AV := .agg [.row (u64AV l) l.length, .bool b]
theorem wholeRow_plain (l : List Nat) (b : Bool) : (wholeRow l b).plain = true := by simp [wholeRow, AV.plain, plainL, u64AV_plain]
end Go.Proofs.YtehoobhbginahaaDoor

set_option linter.unusedVariables false
set_option linter.unusedSimpArgs false
namespace Go.Proofs.YtehoobhbginahaaDoor
open Go Go.Lens
end Go.Proofs.YtehoobhbginahaaDoor

set_option linter.unusedVariables false
set_option linter.unusedSimpArgs false
set_option maxRecDepth 20000
namespace Go.Proofs.YtehoobhbginahaaDoor
open Go Go.Lens
end Go.Proofs.YtehoobhbginahaaDoor

set_option linter.unusedVariables false
set_option linter.unusedSimpArgs false
namespace Go.Proofs.YtehoobhbginahaaDoor
open Go Go.Lens
end Go.Proofs.YtehoobhbginahaaDoor

set_option linter.unusedVariables false
set_option linter.unusedSimpArgs false
namespace Go.Proofs.YtehoobhbginahaaDoor
open Go Go.Lens
/-! ### whole numbers -/
def wAV (z : Int) : AV := wholeRow (digs LB z.natAbs) (decide (z < 0))
@[simp] theorem wAV_plain (z : Int) : (wAV z).plain = true := wholeRow_plain _ _
end Go.Proofs.YtehoobhbginahaaDoor

set_option linter.unusedVariables false
set_option linter.unusedSimpArgs false
namespace Go.Proofs.YtehoobhbginahaaDoor
open Go Go.Lens
end Go.Proofs.YtehoobhbginahaaDoor

set_option linter.unusedVariables false
set_option linter.unusedSimpArgs false
namespace Go.Proofs.YtehoobhbginahaaDoor
open Go Go.Lens
end Go.Proofs.YtehoobhbginahaaDoor

set_option linter.unusedVariables false
set_option linter.unusedSimpArgs false
namespace Go.Proofs.YtehoobhbginahaaDoor
open Go Go.Lens
/-! ### order -/
end Go.Proofs.YtehoobhbginahaaDoor

set_option linter.unusedVariables false
set_option linter.unusedSimpArgs false
namespace Go.Proofs.YtehoobhbginahaaDoor
open Go Go.Lens
/-! ### one half of the quotient -/
end Go.Proofs.YtehoobhbginahaaDoor

set_option linter.unusedVariables false
set_option linter.unusedSimpArgs false
namespace Go.Proofs.YtehoobhbginahaaDoor
open Go Go.Lens
end Go.Proofs.YtehoobhbginahaaDoor

set_option linter.unusedVariables false
set_option linter.unusedSimpArgs false
namespace Go.Proofs.YtehoobhbginahaaDoor
open Go Go.Lens
end Go.Proofs.YtehoobhbginahaaDoor

set_option linter.unusedVariables false
set_option linter.unusedSimpArgs false
namespace Go.Proofs.YtehoobhbginahaaDoor
open Go Go.Lens
section
variable {nt : Nat} {w0 : World} {k : Nat} {H0 : View} {ln : Nat → Nat} {hk : ∀ o, o < k → H0.blk o < w0.heap.size} {hj : ∀ x o, x < k → o < k → H0.blk x = H0.blk o → x = o} {sv : List (Array Value × List (Nat × AV))}
  {ops : Array Oper} {o : Oper} {rest : List Oper} {env : List (Nat × AV)} {objs : List AObj} {Q : Exit → St → Prop} {x : Operand} {xs : Array Operand} {ts : Array TypeId} {d b : Nat}
end
end Go.Proofs.YtehoobhbginahaaDoor

set_option linter.unusedVariables false
set_option linter.unusedSimpArgs false
namespace Go.Proofs.YtehoobhbginahaaDoor
open Go Go.Lens
end Go.Proofs.YtehoobhbginahaaDoor

set_option linter.unusedVariables false
set_option linter.unusedSimpArgs false
namespace Go.Proofs.YtehoobhbginahaaDoor
open Go Go.Lens
/-! ### numbers -/
@[simp] theorem natAV_plain (x : Nat) : (natAV x).plain = true := natRow_plain _
/-! ### bits -/
/-! ### Length -/
/-! ### powers -/
end Go.Proofs.YtehoobhbginahaaDoor

set_option linter.unusedVariables false
set_option linter.unusedSimpArgs false
namespace Go.Proofs.YtehoobhbginahaaDoor
open Go Go.Lens
end Go.Proofs.YtehoobhbginahaaDoor

set_option linter.unusedVariables false
set_option linter.unusedSimpArgs false
namespace Go.Proofs.YtehoobhbginahaaDoor
open Go Go.Lens
end Go.Proofs.YtehoobhbginahaaDoor

set_option linter.unusedVariables false
set_option linter.unusedSimpArgs false
namespace Go.Proofs.YtehoobhbginahaaDoor
open Go Go.Lens
def DB : Nat := 10000
def i64AV (l : List Nat) : List AV := l.map fun (x : Nat) => .int .i64 x
def intRow (l : List Nat) : AV := .row (i64AV l) l.length
@[simp] theorem i64AV_plain (l : List Nat) : plainL (i64AV l) = true := by
  induction l with
  | nil => rfl
  | cons x l ih => simp only [i64AV, List.map_cons, plainL, AV.plain, Bool.true_and]; exact ih
@[simp] theorem intRow_plain (l : List Nat) : (intRow l).plain = true := by simp [intRow, AV.plain, i64AV_plain]
instance : NeZero DB := ⟨by decide⟩
def rAV (x : Nat) : AV := intRow (digs DB x)
@[simp] theorem rAV_plain (x : Nat) : (rAV x).plain = true := intRow_plain _
end Go.Proofs.YtehoobhbginahaaDoor

set_option linter.unusedVariables false
set_option linter.unusedSimpArgs false
namespace Go.Proofs.YtehoobhbginahaaDoor
open Go Go.Lens
end Go.Proofs.YtehoobhbginahaaDoor

set_option linter.unusedVariables false
set_option linter.unusedSimpArgs false
namespace Go.Proofs.YtehoobhbginahaaDoor
open Go Go.Lens
/-! ### Of -/
end Go.Proofs.YtehoobhbginahaaDoor

set_option linter.unusedVariables false
set_option linter.unusedSimpArgs false
namespace Go.Proofs.YtehoobhbginahaaDoor
open Go Go.Lens
def rIntAV (d : List Nat) (b : Bool) : AV := .agg [.row (i64AV d) d.length, .bool b]
@[simp] theorem rIntAV_plain (d : List Nat) (b : Bool) : (rIntAV d b).plain = true := by simp [rIntAV, AV.plain, plainL, i64AV_plain]
/-- a whole number, in the document's form -/
def rwAV (z : Int) : AV := rIntAV (digs DB z.natAbs) (decide (z < 0))
@[simp] theorem rwAV_plain (z : Int) : (rwAV z).plain = true := rIntAV_plain _ _
end Go.Proofs.YtehoobhbginahaaDoor

set_option linter.unusedVariables false
set_option linter.unusedSimpArgs false
namespace Go.Proofs.YtehoobhbginahaaDoor
open Go Go.Lens
/-! ### quotients -/
/-! ### as an int -/
end Go.Proofs.YtehoobhbginahaaDoor

set_option linter.unusedVariables false
set_option linter.unusedSimpArgs false
namespace Go.Proofs.YtehoobhbginahaaDoor
open Go Go.Lens
end Go.Proofs.YtehoobhbginahaaDoor

set_option linter.unusedVariables false
set_option linter.unusedSimpArgs false
namespace Go.Proofs.YtehoobhbginahaaDoor
open Go Go.Lens
def Bd (k : Nat) (z : Int) : Prop := z.natAbs < LB ^ k
theorem Bd.mono {j k : Nat} {x : Int} (hx : Bd j x) (h : j ≤ k) : Bd k x := Nat.lt_of_lt_of_le hx (Nat.pow_le_pow_right (by decide) h)
end Go.Proofs.YtehoobhbginahaaDoor

set_option linter.unusedVariables false
set_option linter.unusedSimpArgs false
namespace Go.Proofs.YtehoobhbginahaaDoor
open Go Go.Lens
structure En where
  y : Int
  m : Int
  d : Int
  db : Int
  cr : Int
  am : List UInt8
def En.cells (x : En) : List AV := [.int .i64 x.y, .int .i64 x.m, .int .i64 x.d, .int .i64 x.db, .int .i64 x.cr, .str x.am]
/-- a map from accounts to whole numbers -/
structure KV (es : List (Int × AV)) (f : Int → Int) : Prop where
  get : ∀ a, kvGet es a = some (wAV (f a)) ∨ (kvGet es a = none ∧ f a = 0)
  plain : plainL (es.map (·.2)) = true
theorem KV.nil : KV [] (fun _ => 0) := ⟨fun a => .inr ⟨rfl, rfl⟩, rfl⟩
section
variable {nt : Nat} {w0 : World} {k : Nat} {H0 : View} {ln : Nat → Nat} {hk : ∀ o, o < k → H0.blk o < w0.heap.size} {hj : ∀ x o, x < k → o < k → H0.blk x = H0.blk o → x = o} {sv : List (Array Value × List (Nat × AV))}
  {ops : Array Oper} {o : Oper} {rest : List Oper} {env : List (Nat × AV)} {objs : List AObj} {Q : Exit → St → Prop} {x : Operand} {xs : Array Operand} {ts : Array TypeId} {d b m : Nat}
end
end Go.Proofs.YtehoobhbginahaaDoor

set_option linter.unusedVariables false
set_option linter.unusedSimpArgs false
namespace Go.Proofs.YtehoobhbginahaaDoor
open Go Go.Lens
section
variable {nt : Nat} {w0 : World} {k : Nat} {H0 : View} {ln : Nat → Nat} {hk : ∀ o, o < k → H0.blk o < w0.heap.size} {hj : ∀ x o, x < k → o < k → H0.blk x = H0.blk o → x = o} {sv : List (Array Value × List (Nat × AV))}
  {ops : Array Oper} {o : Oper} {rest : List Oper} {env : List (Nat × AV)} {objs : List AObj} {Q : Exit → St → Prop} {x : Operand} {xs : Array Operand} {ts : Array TypeId} {d b m : Nat}
end
end Go.Proofs.YtehoobhbginahaaDoor

set_option linter.unusedVariables false
set_option linter.unusedSimpArgs false
namespace Go.Lens
open Go Go.RowKit Go.ChangeShapes Go.WideShapes Go.ChangeAt
/-- A LAW THAT ANSWERS TRUE: its row, lifted. -/
theorem law_lift {C : Checked} {T : Tab} (ok : TabOK C.prog T) {f : FuncId} {fn : Func} {s : ChangeSpec} {laid : List (String × DataW Unit)} (own : ownKnob C.prog.godebug = none) (laidOut : laidOutB C.prog = true)
    (noInit : C.prog.inits.idxOf? f = none) (hfn : C.prog.funcs[f]? = some fn) (hvars : s.vars = []) {ts : List TypeId} (hps : fn.params.toList = ts)
    (hgood : ts.all (goodT T 8) = true) (hread : ts.all (fun t => C.prog.readableRec t && decide (t < C.prog.types.size)) = true) {rt : TypeId} (hrt : fn.resultTypes = #[rt]) (hb : C.prog.underlying rt = some .bool)
    (hspec : ∀ (H : Type) (ds : List (DataW H)), ds.length = ts.length → s.fn H ds = { results := [.lit (.bool true)], args := ds })
    {os : Os} (started : os.Started) {H : Type} {enc : TypeId × Value → H}
    (hlaw : ∀ (ds : List (DataW H)), shapes (shapeT T 8) ts ds → (DataW.weightsEach C.prog (ts ++ s.plain.varTypes C.prog) ds).all (· ≤ reachBytes) = true → Does C.prog f (ds.map avArg) (.bool true))
    (witness : ∃ (w : World) (tape : Tape) (i : Input), w.os = os ∧ (w.forCall tape i).Shaped C.prog ∧ i.vars = [] ∧ Input.okWide C.prog (w.forCall tape i) .any w.heap.size f i ∧
      ((s.pre enc C.prog fn [] false (w.forCall tape i).memory i.args ∧ laidMetH C.prog laid (w.forCall tape i).memory) ∧ sizedMet enc C.prog fn (OpenSpec.ofChange s) false (w.forCall tape i).memory i.args) ∧ Assume.holds {} C.prog (lone (Frame.enter C.prog f i.args .normal) [] (w.forCall tape i))) :
    ReturnsInHanded {} C os f .any (fun w args => (s.pre enc C.prog fn [] false w args ∧ laidMetH C.prog laid w) ∧ sizedMet enc C.prog fn (OpenSpec.ofChange s) false w args)
      (s.post enc C.prog fn false true false false) := by
  refine returnsInHanded_of_change_and (C := C) (X := fun w _ => laidMetH C.prog laid w) (fun _ _ _ hh h => h.of_heap hh) own started noInit hfn witness ?_
  intro W base args ds gs before hval hW _ hsz _ _
  have hW' := hW
  obtain ⟨p, q, hA, hV, rfl, _, _⟩ := hW
  rw [hvars] at hV
  obtain ⟨rfl, rfl⟩ := trodVars_none hV
  rw [hps] at hA hsz
  simp only [List.append_nil] at hsz
  have hsh := args_shape (g := 8) ok hA
  have hr := args_rel (g := 8) ok (r := .any) (base := base) (w' := W) (fun j t v ht hv => hval j t v (by rw [← hps] at ht; simpa using ht) (by simpa using hv)) hA hgood
  have hd := hlaw ds hsh hsz
  refine (hd.calls hr).mono fun e W' ⟨v, H', he, hv, bel⟩ => ?_
  subst he
  simp only [RelV] at hv
  subst hv
  refine ⟨_, rfl, ds, [], _, [], p, [], hW', ?_, ?_, ?_, bel.frame _, fun h => by cases h⟩
  · rw [List.append_nil, hspec H ds hsh.length, hrt]
    exact trodAll_mk1 (shut_bool hb _)
  · rw [List.append_nil, hspec H ds hsh.length, hps]
    exact Below.trodAll laidOut bel hread hA
  · rw [List.append_nil, hspec H ds hsh.length, hvars]
    rfl
end Go.Lens

set_option linter.unusedVariables false
set_option linter.unusedSimpArgs false
namespace Go.Proofs.YtehoobhbginahaaDoor
open Go Go.Lens
def cmpI (a b : Int) : Int := if a < b then -1 else if a > b then 1 else 0
@[simp] theorem cmpI_self (a : Int) : cmpI a a = 0 := by simp [cmpI]
end Go.Proofs.YtehoobhbginahaaDoor

set_option linter.unusedVariables false
set_option linter.unusedSimpArgs false
namespace Go.Proofs.YtehoobhbginahaaDoor
open Go Go.Lens
end Go.Proofs.YtehoobhbginahaaDoor

set_option linter.unusedVariables false
set_option linter.unusedSimpArgs false
namespace Go.Proofs.YtehoobhbginahaaDoor
open Go Go.Lens
end Go.Proofs.YtehoobhbginahaaDoor

set_option linter.unusedVariables false
set_option linter.unusedSimpArgs false
namespace Go.Proofs.YtehoobhbginahaaDoor
open Go Go.Lens
end Go.Proofs.YtehoobhbginahaaDoor

set_option linter.unusedVariables false
set_option linter.unusedSimpArgs false
namespace Go.Proofs.YtehoobhbginahaaDoor
open Go Go.Lens
end Go.Proofs.YtehoobhbginahaaDoor

set_option linter.unusedVariables false
set_option linter.unusedSimpArgs false
namespace Go.Proofs.YtehoobhbginahaaDoor
open Go Go.Lens
def ensAV (l : List En) : List AV := l.flatMap En.cells
@[simp] theorem ensAV_plain (l : List En) : plainL (ensAV l) = true := by
  induction l with
  | nil => rfl
  | cons x r ih => simp only [ensAV, List.flatMap_cons] at *; rw [plainL_append, ih]; rfl
end Go.Proofs.YtehoobhbginahaaDoor

set_option linter.unusedVariables false
set_option linter.unusedSimpArgs false
namespace Go.Proofs.YtehoobhbginahaaDoor
open Go Go.Lens
section
variable {nt : Nat} {w0 : World} {k : Nat} {H0 : View} {ln : Nat → Nat} {hk : ∀ o, o < k → H0.blk o < w0.heap.size} {hj : ∀ x o, x < k → o < k → H0.blk x = H0.blk o → x = o} {sv : List (Array Value × List (Nat × AV))}
  {ops : Array Oper} {o : Oper} {rest : List Oper} {env : List (Nat × AV)} {objs : List AObj} {Q : Exit → St → Prop} {x : Operand} {xs : Array Operand} {ts : Array TypeId} {d b m j : Nat}
end
end Go.Proofs.YtehoobhbginahaaDoor

set_option linter.unusedVariables false
set_option linter.unusedSimpArgs false
namespace Go.Proofs.YtehoobhbginahaaDoor
open Go Go.Lens
section
variable {nt : Nat} {w0 : World} {k : Nat} {H0 : View} {ln : Nat → Nat} {hk : ∀ o, o < k → H0.blk o < w0.heap.size} {hj : ∀ x o, x < k → o < k → H0.blk x = H0.blk o → x = o} {sv : List (Array Value × List (Nat × AV))}
  {ops : Array Oper} {o : Oper} {rest : List Oper} {env : List (Nat × AV)} {objs : List AObj} {Q : Exit → St → Prop} {x : Operand} {xs : Array Operand} {ts : Array TypeId} {d b m j : Nat}
end
end Go.Proofs.YtehoobhbginahaaDoor

set_option linter.unusedVariables false
set_option linter.unusedSimpArgs false
namespace Go.Lens
open Go Go.RowKit
end Go.Lens

set_option linter.unusedVariables false
set_option linter.unusedSimpArgs false
namespace Go.Proofs.YtehoobhbginahaaDoor
open Go Go.Lens
section
variable {nt : Nat} {w0 : World} {k : Nat} {H0 : View} {ln : Nat → Nat} {hk : ∀ o, o < k → H0.blk o < w0.heap.size} {hj : ∀ x o, x < k → o < k → H0.blk x = H0.blk o → x = o} {sv : List (Array Value × List (Nat × AV))}
  {ops : Array Oper} {o : Oper} {rest : List Oper} {env : List (Nat × AV)} {objs : List AObj} {Q : Exit → St → Prop} {x : Operand} {xs : Array Operand} {ts : Array TypeId} {d b m j : Nat}
end
end Go.Proofs.YtehoobhbginahaaDoor

set_option linter.unusedVariables false
set_option linter.unusedSimpArgs false
namespace Go.Proofs.YtehoobhbginahaaDoor
open Go Go.Lens
section
variable {nt : Nat} {w0 : World} {k : Nat} {H0 : View} {ln : Nat → Nat} {hk : ∀ o, o < k → H0.blk o < w0.heap.size} {hj : ∀ x o, x < k → o < k → H0.blk x = H0.blk o → x = o} {sv : List (Array Value × List (Nat × AV))}
  {ops : Array Oper} {o : Oper} {rest : List Oper} {env : List (Nat × AV)} {objs : List AObj} {Q : Exit → St → Prop} {x : Operand} {xs : Array Operand} {ts : Array TypeId} {d b m j : Nat}
end
end Go.Proofs.YtehoobhbginahaaDoor

set_option linter.unusedVariables false
set_option linter.unusedSimpArgs false
namespace Go.Proofs.YtehoobhbginahaaDoor
open Go Go.Lens
section
variable {nt : Nat} {w0 : World} {k : Nat} {H0 : View} {ln : Nat → Nat} {hk : ∀ o, o < k → H0.blk o < w0.heap.size} {hj : ∀ x o, x < k → o < k → H0.blk x = H0.blk o → x = o} {sv : List (Array Value × List (Nat × AV))}
  {ops : Array Oper} {o : Oper} {rest : List Oper} {env : List (Nat × AV)} {objs : List AObj} {Q : Exit → St → Prop} {x : Operand} {xs : Array Operand} {ts : Array TypeId} {d b m j : Nat}
end
end Go.Proofs.YtehoobhbginahaaDoor

set_option linter.unusedVariables false
set_option linter.unusedSimpArgs false
namespace Go.Proofs.YtehoobhbginahaaDoor
open Go Go.Lens
end Go.Proofs.YtehoobhbginahaaDoor
