/- Lens, part 20: regions that draw their order, in which variables come to be at any time. digits: Print, Length. nat: Bits; digits: Length, power, Pow, Ten. Lens, part 25: a slice that begins as nil and grows, in a place that is kept free for it. Lens, part 16: what comes in, and what a law's row asks. Texts put together. What the laws' inputs are: limbs, whole numbers. -/
import Derived.Test.YtejpblopbdgkaaaGreatDoorKDL5
import Derived.Carry
import Derived.WalkKit
import Derived.ProofKit
import Derived.ChangeOld
import Derived.ChangeArms
import Derived.OpenShut
import Derived.DataElems
import Derived.SizedLaws

set_option linter.unusedVariables false
set_option linter.unusedSimpArgs false
namespace Go.Lens
open Go Go.RowKit
/-- a place that is kept free for an object to come -/
theorem Rel.slot {C : Ctx} {env : List (Nat × AV)} {objs : List AObj} {a : Act} {w : World} (h : Rel C ⟨env, objs⟩ a w) : Rel C ⟨env, objs ++ [.slot]⟩ a w := by
 obtain ⟨H, hi⟩ := h
 have hn := hi.objs.n
 have hn' : H.n = objs.length := hn
 let H' : View := { H with n := H.n + 1, ver := fun o => if o = H.n then 0 else H.ver o }
 have hK : Keeps w H w H' := ⟨fun _ _ h _ => h, fun _ _ h => h, Nat.le_succ _, fun o ho => by simp [H', show o ≠ H.n by omega], fun o ho _ => ⟨rfl, rfl, rfl⟩⟩
 refine ⟨H', hi.move (objs' := objs ++ [.slot]) hK ⟨by simp [H', hn'], fun i ob hob => ?_, fun i i' ob ob' h1 h2 l1 l2 hb => ?_, hi.objs.lt⟩ (fun _ _ => Iff.rfl) (by have := hi.klen; simp at this ⊢; omega) (fun _ _ => ⟨rfl, rfl, rfl⟩) (fun o cs ver esz flat own ho hob => ?_) (fun o ho => Outside.of_eq rfl _ _) (fun i ob hob hl => ?_) (fun _ _ _ => rfl) (Nat.le_refl _) rfl rfl rfl⟩
 ·rcases get_snoc hob with ⟨hlt, hob⟩ | ⟨he, rfl⟩
  ·have hne : i ≠ H.n := by omega
   by_cases hl : ob.live = true
   ·exact (hi.objs.rel i ob hob).keeps hK rfl rfl rfl (by simp [H', hne]) id rfl
   ·cases ob <;> first | trivial | (simp [AObj.live] at hl; done) | (have := hi.objs.rel i _ hob; simpa [RelO, H', hne] using this)
  ·simp [RelO, H', he, hn']
 ·rcases get_snoc h1 with ⟨_, h1⟩ | ⟨_, rfl⟩
  ·rcases get_snoc h2 with ⟨_, h2⟩ | ⟨_, rfl⟩
   ·exact hi.objs.inj i i' ob ob' h1 h2 l1 l2 hb
   ·cases l2
  ·cases l1
 ·rcases get_snoc hob with ⟨_, hob⟩ | ⟨_, h⟩
  ·exact hi.lens o cs ver esz flat own ho hob
  ·cases h
 ·rcases get_snoc hob with ⟨_, hob⟩ | ⟨_, rfl⟩
  ·exact hi.own i ob hob hl
  ·cases hl
theorem W.slots {C : Ctx} {c : Code} {env : List (Nat × AV)} {objs : List AObj} {Q : Exit → St → Prop} : ∀ (k : Nat), W C c ⟨env, objs ++ List.replicate k .slot⟩ Q → W C c ⟨env, objs⟩ Q
 | 0, h => by simpa using h
 | k + 1, h => by
  refine W.slots k fun a w hr => ?_
  have := hr.slot
  rw [List.append_assoc, ← List.replicate_succ'] at this
  exact h a w this
theorem v_allocS {C : Ctx} {o : Oper} {env : List (Nat × AV)} {objs : List AObj} {t : TypeId} {y : Ty} {z : List Value} {ds : List AV} {j : Nat} (hjs : objs[j]? = some .slot) (hjk : C.k ≤ j) (hop : o.op = .alloc t) (hy : C.T.at t = some y) (hz : y.zero = some z) (hd : ofVals z = some ds) :
  VStep C o ⟨env, objs⟩ (.ptr j 1 0) (objs.set j (.cells ds 1 1 false none)) := by
 intro H a w hi
 obtain ⟨v, hv, hc⟩ := run_zeroValue hy hz w
 have hn : H.n = objs.length := hi.objs.n
 have hjl : j < objs.length := (List.getElem?_eq_some_iff.1 hjs).1
 have hv0 : H.ver j = 0 := hi.objs.rel j _ hjs
 let H' : View := { n := H.n, blk := fun o => if o = j then w.heap.size else H.blk o, off := fun o => if o = j then 0 else H.off o, cap := fun o => if o = j then 0 else H.cap o, ver := fun o => if o = j then 1 else H.ver o, wr := fun b => H.wr b ∨ b = w.heap.size }
 have hold : ∀ b, b < w.heap.size → (w.alloc (.cells z.toArray t)).heap[b]? = w.heap[b]? := fun b hb => heap_alloc_old w _ hb
 have hK : Keeps w H (w.alloc (.cells z.toArray t)) H' := by
  refine ⟨fun a v h _ => by rw [World.cell?_alloc_lt]; exact h; exact World.block_lt_of_cell? w a h, fun b hb hwr => ?_, Nat.le_refl _, fun o' ho' => ?_, fun o' ho' hvv => ?_⟩
  ·rcases hwr with h | h
   ·exact h
   ·omega
  ·by_cases e : o' = j
   ·subst e; simp [H', hv0]
   ·simp [H', e]
  ·by_cases e : o' = j
   ·subst e; simp [H', hv0] at hvv
   ·simp [H', e]
 have hget : ∀ i ob, (objs.set j (.cells ds 1 1 false none))[i]? = some ob → (i = j ∧ ob = .cells ds 1 1 false none) ∨ (i ≠ j ∧ objs[i]? = some ob) := by
  intro i ob hob
  by_cases e : i = j
  ·subst e
   rw [List.getElem?_set_self hjl] at hob
   injection hob with hob
   exact .inl ⟨rfl, hob.symm⟩
  ·rw [List.getElem?_set_ne (Ne.symm e)] at hob
   exact .inr ⟨e, hob⟩
 have hlive : ∀ i ob, objs[i]? = some ob → ob.live = true → H.blk i < w.heap.size := fun i ob h1 h2 => hi.objs.lt _ (hi.objs.wr_blk h1 h2)
 refine ⟨.pointer (some ⟨w.heap.size, 0, none⟩), w.alloc (.cells z.toArray t), H', ?_, ?_, ?_⟩
 ·simp [execOp, hop, Instr.alloc, newVar, newRow, hv, hc]
 ·refine hi.move (objs' := objs.set j (.cells ds 1 1 false none)) hK ⟨by simp [H', hn], fun i ob hob => ?_, fun i i' ob ob' h1 h2 l1 l2 hb => ?_, fun b hb => ?_⟩ (fun b hb => ⟨fun h => h.resolve_right (by have := hi.le; omega), .inl⟩) (by have := hi.klen; simp at this ⊢; omega) (fun x hx => by simp [H', show x ≠ j by omega]) (fun x cs ver esz flat own hx hob => ?_) (fun x hx => Outside.of_eq (hold _ (Nat.lt_of_lt_of_le (C.hk x hx) hi.le)) _ _) (fun i ob hob hl => ?_) (fun b hb _ => hold b (Nat.lt_of_lt_of_le hb hi.le)) (by simp) rfl rfl rfl
  ·rcases hget i ob hob with ⟨rfl, rfl⟩ | ⟨hne, hob⟩
   ·refine ⟨by simp [H'], by simp [H'], z, z.toArray, t, ?_, ?_, ?_, fun t' h => by cases h⟩
    ·simpa [H'] using heap_alloc_new w (.cells z.toArray t)
    ·exact (ofVals_rel hd)
    ·intro k u hu; simpa [H'] using hu
   ·by_cases hl : ob.live = true
    ·exact (hi.objs.rel i ob hob).keeps hK (by simp [H', hne]) (by simp [H', hne]) (by simp [H', hne]) (by simp [H', hne]) (fun h => .inl h) (hold _ (hlive i ob hob hl))
    ·cases ob <;> first | trivial | (simp [AObj.live] at hl; done) | (have := hi.objs.rel i _ hob; simpa [RelO, H', hne] using this)
  ·rcases hget i ob h1 with ⟨e1, rfl⟩ | ⟨n1, g1⟩ <;> rcases hget i' ob' h2 with ⟨e2, rfl⟩ | ⟨n2, g2⟩
   ·rw [e1, e2]
   ·simp only [H', if_pos e1, if_neg n2] at hb
    have := hlive _ _ g2 l2; omega
   ·simp only [H', if_pos e2, if_neg n1] at hb
    have := hlive _ _ g1 l1; omega
   ·simp only [H', if_neg n1, if_neg n2] at hb
    exact hi.objs.inj _ _ _ _ g1 g2 l1 l2 hb
  ·rcases hb with hb | hb
   ·have := hi.objs.lt b hb; simp; omega
   ·subst hb; simp
  ·rcases hget x _ hob with ⟨rfl, _⟩ | ⟨_, hob⟩
   ·omega
   ·exact hi.lens x cs ver esz flat own hx hob
  ·rcases hget i ob hob with ⟨rfl, _⟩ | ⟨hne, hob⟩
   ·exact .inr (by simp only [H', if_true]; exact hi.le)
   ·simp only [H', if_neg hne]; exact hi.own i ob hob hl
 ·exact ⟨by simp [H', hn]; omega, by simp [H'], fun _ => by simp [H']⟩
def fillS (al : List (Nat × AObj)) (listed : Array Bool) : List AObj := al.map fun p => if listed.getD p.1 true = true then p.2 else .slot
def obpS (objsB : List AObj) (al : List (Nat × AObj)) (ms : Nat → St) (p : Nat) (listed : Array Bool) : List AObj := if p = 0 then objsB ++ fillS al listed else (ms p).objs
theorem fillS_other {al : List (Nat × AObj)} {listed : Array Bool} {i : Nat} (h : i ∉ al.map (·.1)) : fillS al (listed.setIfInBounds i true) = fillS al listed := by
 refine List.map_congr_left fun p hp => ?_
 have e : (listed.setIfInBounds i true).getD p.1 true = listed.getD p.1 true := by
  rw [getD_set, if_neg]
  rintro ⟨rfl, _⟩
  exact h (List.mem_map.2 ⟨p, hp, rfl⟩)
 rw [e]
theorem fillS_get {al : List (Nat × AObj)} {listed : Array Bool} {k i : Nat} {z : AObj} (h : al[k]? = some (i, z)) (hl : listed.getD i true = false) : (fillS al listed)[k]? = some .slot := by
 simp only [fillS, List.getElem?_map, h, Option.map_some, hl]; rfl
theorem fillS_set {al : List (Nat × AObj)} {listed : Array Bool} {k i : Nat} {z : AObj} (hn : (al.map (·.1)).Nodup) (h : al[k]? = some (i, z)) (hi : i < listed.size) : fillS al (listed.setIfInBounds i true) = (fillS al listed).set k z := by
 have hk := (List.getElem?_eq_some_iff.1 h).1
 apply List.ext_getElem?
 intro j
 by_cases e : j = k
 ·subst e
  rw [List.getElem?_set_self (by simpa [fillS] using hk)]
  simp only [fillS, List.getElem?_map, h, Option.map_some, getD_set, hi, and_self, if_true]
 ·rw [List.getElem?_set_ne (Ne.symm e)]
  simp only [fillS, List.getElem?_map]
  cases hj : al[j]? with
  | none => rfl
  | some p =>
   simp only [Option.map_some]
   have e2 : (listed.setIfInBounds i true).getD p.1 true = listed.getD p.1 true := by
    rw [getD_set, if_neg]
    rintro ⟨h1, _⟩
    have h3 : (al.map (·.1))[j]? = some p.1 := by simp [hj]
    have h4 : (al.map (·.1))[k]? = some i := by simp [h]
    rw [h1] at h4
    exact e (nodup_get hn h3 h4)
   rw [e2]
theorem drawStep_more {C : Ctx} {ops : Array Oper} {o : Oper} {pre : List (Nat × AV)} {objs : List AObj} {c : AV} {d : Nat} (h : DrawStep C ops o pre objs c) (hd : o.dst = some d) (more : List (Nat × AV)) :
  WL C ops [o] ⟨pre ++ more, objs⟩ (fun e s => e = .normal ∧ s = ⟨(d, c) :: (pre ++ more), objs⟩) := by
 have := h more
 rw [hd] at this
 exact this
/-- One of the operations in the middle: it may use values that came at any time. -/
def MidQ (C : Ctx) (ops : Array Oper) (o : Oper) (pre : List (Nat × AV)) (s s' : St) : Prop :=
  (s'.env = s.env ∧ ∀ more, WL C ops [o] ⟨pre ++ (s.env ++ more), s.objs⟩ (fun e r => e = .normal ∧ r = ⟨pre ++ (s.env ++ more), s'.objs⟩)) ∨
  (∃ d c, o.dst = some d ∧ s'.env = (d, c) :: s.env ∧ ∀ more, WL C ops [o] ⟨pre ++ (s.env ++ more), s.objs⟩ (fun e r => e = .normal ∧ r = ⟨(d, c) :: (pre ++ (s.env ++ more)), s'.objs⟩))
theorem W.midS {C : Ctx} {id : Nat} {ops : Array Oper} {env0 : List (Nat × AV)} (objsB : List AObj) (al : List (Nat × AObj)) {Q : Exit → St → Prop} (hmix : C.P.follows .mixedOrders = true) (ds fl : List Nat) (mN : Nat) (acc : List (Nat × AV)) (ms : Nat → St) (hchk : midOK ops ds fl mN = true)
  (hacc : ∀ d ∈ ds, ∃ c, look acc d = some c) (hdom : ∀ t v, look acc t = some v → t ∈ ds) (hm0 : (ms 0).objs = objsB ++ al.map (·.2)) (hal : ∀ p, p ∈ al → p.1 < ds.length ∧ p.1 ∉ fl) (haln : (al.map (·.1)).Nodup) (he0 : ∀ t v, look (ms 0).env t = some v → (∃ i, i ∉ fl ∧ ds[i]? = some t ∧ look acc t = some v) ∨ (t ∉ ds ∧ look env0 t = some v))
  (hV : ∀ (i : Nat) (o : Oper) (d : Nat) (c : AV), i ∉ fl → i ∉ al.map (·.1) → ops[i]? = some o → ds[i]? = some d → look acc d = some c → ∀ mo, DrawStep C ops o (sel acc (depT ops o) ++ clean ds env0) (objsB ++ mo) c)
  (hA : ∀ (k i : Nat) (z : AObj) (o : Oper) (d : Nat) (c : AV), al[k]? = some (i, z) → ops[i]? = some o → ds[i]? = some d → look acc d = some c → ∀ mo more, mo[k]? = some .slot → WL C ops [o] ⟨(sel acc (depT ops o) ++ clean ds env0) ++ more, objsB ++ mo⟩ (fun e s => e = .normal ∧ s = ⟨(d, c) :: ((sel acc (depT ops o) ++ clean ds env0) ++ more), objsB ++ mo.set k z⟩))
  (hM : ∀ (j : Nat) (o : Oper), j < mN → ops[ds.length + j]? = some o → MidQ C ops o (sel acc (depT ops o)) (ms j) (ms (j + 1)))
  (hF0 : ∀ (i : Nat) (o : Oper) (d : Nat) (c : AV), i ∈ fl → ops[i]? = some o → ds[i]? = some d → look acc d = some c → ∀ mo, DrawStep C ops o (sel acc (depT ops o) ++ clean (ds ++ dstsOf ops ds.length mN) env0) (objsB ++ mo) c)
  (hF : ∀ (j i : Nat) (o : Oper) (d : Nat) (c : AV), j ≤ mN → i ∈ fl → ops[i]? = some o → ds[i]? = some d → look acc d = some c → DrawStep C ops o (sel acc (depT ops o) ++ clean (ds ++ dstsOf ops ds.length mN) env0) (ms j).objs c)
  (hT : WL C ops (ops.toList.drop (ds.length + mN)) ⟨acc ++ (ms mN).env, (ms mN).objs⟩ Q) : W C (.region id ops true) ⟨env0, objsB ++ al.map (fun _ => .slot)⟩ Q := by
 simp only [midOK, Bool.and_eq_true, decide_eq_true_eq, List.all_eq_true, List.mem_range, Bool.or_eq_true, List.contains_iff_mem] at hchk
 obtain ⟨⟨⟨⟨⟨⟨⟨⟨hnd, hle⟩, hds⟩, hbk⟩, hmo⟩, hta⟩, hmd⟩, hfl⟩, hnf2⟩ := hchk
 have hback : ∀ (i : Nat) (o : Oper), ops[i]? = some o → ∀ e ∈ o.after.toList, Region.binds .any e = true → e.on < i := by
  intro i o hi e he hb
  have h2 := hbk i (Array.getElem?_eq_some_iff.1 hi).1
  rw [hi] at h2
  simp only [Option.any_some, List.all_eq_true, decide_eq_true_eq] at h2
  exact h2 e.on (by simp only [depsOf, List.mem_map, List.mem_filter]; exact ⟨e, ⟨he, hb⟩, rfl⟩)
 have htail : ∀ i, i < ops.size → ds.length + mN ≤ i → ∀ j, j < i → behind ops 24 i j = true := fun i h1 h2 j h3 => hta i (by rw [List.mem_range'_1]; omega) j h3
 have hdst : ∀ (i : Nat) (o : Oper) (d : Nat), ops[i]? = some o → ds[i]? = some d → o.dst = some d := by
  intro i o d hi hd
  have hlt := (List.getElem?_eq_some_iff.1 hd).1
  have h2 := hds i hlt
  rw [hi, hd] at h2
  simpa using h2
 have hdisj : ∀ t, t ∈ dstsOf ops ds.length mN → t ∉ ds := fun t ht h => by have := hmd t ht; simp [h] at this
 have hindst : ∀ (j : Nat) (o : Oper) (d : Nat), j < mN → ops[ds.length + j]? = some o → o.dst = some d → d ∈ dstsOf ops ds.length mN := by
  intro j o d hj ho hd
  simp only [dstsOf, List.mem_filterMap]
  refine ⟨o, ?_, hd⟩
  refine List.mem_of_getElem? (i := j) ?_
  rw [List.getElem?_take, if_pos hj, List.getElem?_drop, Array.getElem?_toList]; exact ho
 have hMe : ∀ j, j < mN → (ms (j + 1)).env = (ms j).env ∨ ∃ d c, d ∈ dstsOf ops ds.length mN ∧ (ms (j + 1)).env = (d, c) :: (ms j).env := by
  intro j hj
  have ho : ops[ds.length + j]? = some ops[ds.length + j] := Array.getElem?_eq_getElem (by omega)
  rcases hM j _ hj ho with ⟨he, _⟩ | ⟨d, c, hd, he, _⟩
  ·exact .inl he
  ·exact .inr ⟨d, c, hindst j _ d hj ho hd, he⟩
 have hfull : ∀ listed : Array Bool, (∀ i, i < ds.length → i ∉ fl → listed.getD i true = true) → fillS al listed = al.map (·.2) := fun listed h => by
  refine List.map_congr_left fun p hp => ?_
  rw [if_pos (h p.1 (hal p hp).1 (hal p hp).2)]
 have hms : ∀ j, j ≤ mN → ∀ t v, look (ms j).env t = some v → (t ∈ ds → look acc t = some v) ∧ (t ∉ ds → t ∉ dstsOf ops ds.length mN → look env0 t = some v) ∧ (t ∈ ds → ∀ i, ds[i]? = some t → i ∉ fl) := by
  intro j
  induction j with
  | zero =>
   intro _ t v h
   rcases he0 t v h with ⟨i, hi1, hi2, h2⟩ | ⟨h1, h2⟩
   ·refine ⟨fun _ => h2, fun h => absurd (List.mem_of_getElem? hi2) h, fun _ i' hi' => ?_⟩
    rw [nodup_get hnd hi' hi2]; exact hi1
   ·exact ⟨fun h => absurd h h1, fun _ _ => h2, fun h => absurd h h1⟩
  | succ j ih =>
   intro hj t v h
   rcases hMe j (by omega) with he | ⟨d, c, hd, he⟩
   ·rw [he] at h; exact ih (by omega) t v h
   ·rw [he] at h
    simp only [look] at h
    split at h
    ·rename_i hk
     have : d = t := by simpa using hk
     subst this
     exact ⟨fun h => absurd h (hdisj d hd), fun _ h => absurd hd h, fun h => absurd h (hdisj d hd)⟩
    ·exact ih (by omega) t v h
 have hall : ∀ (listed : Array Bool) (env : List (Nat × AV)) (a : Act) (w : World), Mid ops ds fl mN acc env0 ms mN env listed → Rel C ⟨env, obpS objsB al ms mN listed⟩ a w → (∀ i, i < ds.length → listed.getD i true = true) →
   wpAny C.P .any ops (Post C Q) (ops.size - (ds.length + mN)) listed a w := by
  intro listed env a w hm hr hv
  have hobp : obpS objsB al ms mN listed = (ms mN).objs := by
   unfold obpS
   split
   ·rename_i h0; rw [hfull listed fun i hi _ => hv i hi, h0, hm0]
   ·rfl
  rw [hobp] at hr
  refine W.draw_tail hback htail _ (ds.length + mN) listed a w (Nat.le_refl _) hle rfl hm.size (fun j hj => ⟨fun h => ?_, fun h => ?_⟩) (hT a w (hr.env fun t v hl => ?_))
  ·rcases Nat.lt_or_ge j (ds.length + mN) with h1 | h1
   ·exact h1
   ·rw [hm.tl j h1 hj] at h; cases h
  ·rcases Nat.lt_or_ge j ds.length with h1 | h1
   ·exact hv j h1
   ·have := hm.ml (j - ds.length) (by omega)
    rwa [show ds.length + (j - ds.length) = j by omega] at this
  ·rw [look_append] at hl
   cases ha : look acc t with
   | some v' =>
    rw [ha, Option.some_or] at hl
    injection hl with hl; subst hl
    obtain ⟨i, hi⟩ := List.getElem?_of_mem (hdom t _ ha)
    rw [hm.vals i t hi (hv i (List.getElem?_eq_some_iff.1 hi).1), ha]
   | none =>
    rw [ha, Option.none_or] at hl
    obtain ⟨h1, h2, _⟩ := hms mN (Nat.le_refl _) t v hl
    by_cases hin : t ∈ ds
    ·rw [ha] at h1; cases h1 hin
    ·rcases Nat.eq_zero_or_pos mN with h0 | h0
     ·have : t ∉ dstsOf ops ds.length mN := by rw [h0]; simp [dstsOf]
      exact hm.zero h0 t v hin (h2 hin this)
     ·exact hm.pos h0 t v hl
 have hcount : ∀ (listed : Array Bool) (env : List (Nat × AV)), Mid ops ds fl mN acc env0 ms mN env listed → (∀ i, i < ds.length → listed.getD i true = true) → ((List.range ops.size).filter fun j => !listed.getD j true).length = ops.size - (ds.length + mN) := by
  intro listed env hm hv
  have h4 : List.range ops.size = List.range (ds.length + mN) ++ List.range' (ds.length + mN) (ops.size - (ds.length + mN)) := by
   rw [List.range_eq_range', List.range_eq_range', show ops.size = (ds.length + mN) + (ops.size - (ds.length + mN)) by omega]
   have := List.range'_append (s := 0) (m := ds.length + mN) (n := ops.size - (ds.length + mN)) (step := 1)
   simp at this
   rw [← this]; simp
  rw [h4, List.filter_append, List.filter_eq_nil_iff.2, List.nil_append, List.filter_eq_self.2]
  ·simp
  ·intro j hj
   rw [List.mem_range'_1] at hj
   simp [hm.tl j hj.1 (by omega)]
  ·intro j hj
   rw [List.mem_range] at hj
   rcases Nat.lt_or_ge j ds.length with h1 | h1
   ·simp [hv j h1]
   ·have := hm.ml (j - ds.length) (by omega)
    rw [show ds.length + (j - ds.length) = j by omega] at this
    simp [this]
 have main : ∀ (fuel p : Nat) (listed : Array Bool) (env : List (Nat × AV)) (a : Act) (w : World), fuel = ((List.range ops.size).filter fun j => !listed.getD j true).length → Mid ops ds fl mN acc env0 ms p env listed → Rel C ⟨env, obpS objsB al ms p listed⟩ a w →
   wpAny C.P .any ops (Post C Q) fuel listed a w := by
  intro fuel
  induction fuel with
  | zero =>
   intro p listed env a w hf hm hr
   have hnone : ∀ j, j < ops.size → listed.getD j true = true := by
    intro j hj
    have h0 := List.eq_nil_of_length_eq_zero hf.symm
    cases h1 : listed.getD j true with
    | true => rfl
    | false =>
     have : j ∈ (List.range ops.size).filter fun j => !listed.getD j true := by
      rw [List.mem_filter, List.mem_range]; exact ⟨hj, by simp [h1]⟩
     rw [h0] at this; cases this
   have hp : p = mN := by
    have := hm.pl
    rcases Nat.lt_or_ge p mN with h | h
    ·have h1 := hnone (ds.length + p) (by omega)
     rw [hm.tl _ (Nat.le_refl _) (by omega)] at h1; cases h1
    ·omega
   subst hp
   have h1 := hall listed env a w hm hr (fun i hi => hnone i (by omega))
   rw [← hcount listed env hm (fun i hi => hnone i (by omega)), ← hf] at h1
   exact h1
  | succ fuel ih =>
   intro p listed env a w hf hm hr
   by_cases hend : p = mN ∧ ∀ i, i < ds.length → listed.getD i true = true
   ·obtain ⟨rfl, hv⟩ := hend
    have h1 := hall listed env a w hm hr hv
    rw [← hcount listed env hm hv, ← hf] at h1
    exact h1
   ·refine ⟨fun h0 => ?_, fun i hi => ?_⟩
    ·exfalso
     have hex : ∃ x, x < ops.size ∧ listed.getD x true = false := by
      have := hm.pl
      rcases Nat.lt_or_ge p mN with h | h
      ·exact ⟨ds.length + p, by omega, hm.tl _ (Nat.le_refl _) (by omega)⟩
      ·apply Classical.byContradiction
       intro hn
       refine hend ⟨by omega, fun i hi => ?_⟩
       cases h1 : listed.getD i true with
       | true => rfl
       | false => exact absurd ⟨i, by omega, h1⟩ hn
     obtain ⟨x, hx1, hx2⟩ := hex
     exact ready_ne hm.size hback hx1 hx2 h0
    ·obtain ⟨h1, h2, o, ho, h3⟩ := mem_ready hi
     have hdep : ∀ k ∈ depsOf o, listed.getD k false = true := by
      intro k hk
      simp only [depsOf, List.mem_map, List.mem_filter] at hk
      obtain ⟨e, ⟨he1, he2⟩, rfl⟩ := hk
      exact h3 e he1 he2
     have hlt : ∀ k ∈ depsOf o, k < i := by
      intro k hk
      simp only [depsOf, List.mem_map, List.mem_filter] at hk
      obtain ⟨e, ⟨he1, he2⟩, rfl⟩ := hk
      exact hback i o ho e he1 he2
     have hfew := unlisted_set h1 hm.size h2
     have hsel : i < ds.length → ∀ t v, look (sel acc (depT ops o)) t = some v → look env t = some v := by
      intro hik t v hl
      obtain ⟨g1, g2⟩ := look_sel hl
      simp only [depT, List.mem_filterMap] at g1
      obtain ⟨j, g3, g4⟩ := g1
      have hj := hlt j g3
      have hjd : j < ds.length := by omega
      cases hoj : ops[j]? with
      | none => rw [hoj] at g4; cases g4
      | some oj =>
       rw [hoj] at g4
       have := hdst j oj ds[j] hoj (List.getElem?_eq_getElem hjd)
       simp only [Option.bind_some] at g4
       rw [this] at g4
       injection g4 with g4
       rw [hm.vals j t (by rw [List.getElem?_eq_getElem hjd, g4]) (getD_sw (hdep j g3) (by rw [hm.size]; omega)), g2]
     rcases Nat.lt_or_ge i ds.length with hik | hik
     ·-- a value
      have hd : ds[i]? = some ds[i] := List.getElem?_eq_getElem hik
      obtain ⟨c, hc⟩ := hacc ds[i] (List.getElem_mem hik)
      have hod := hdst i o _ ho hd
      have hmem : ds[i] ∈ ds := List.getElem_mem hik
      have hnew : Mid ops ds fl mN acc env0 ms p ((ds[i], c) :: env) (listed.setIfInBounds i true) := by
       refine ⟨by simp [hm.size], hm.closed.set ho hdep, hm.pl, fun x hx1 hx2 => ?_, fun j hj => ?_, fun hp x hx1 hx2 => ?_, fun x d hx1 hx2 => ?_, fun t v ht1 ht2 hl => ?_, fun hp t v ht hl => ?_, fun hp t v hl => ?_⟩
       ·rw [getD_set, if_neg (by omega)]; exact hm.tl x hx1 hx2
       ·rw [getD_set]; split
        ·rfl
        ·exact hm.ml j hj
       ·rw [getD_set]; split
        ·rfl
        ·exact hm.all hp x hx1 hx2
       ·by_cases e : i = x
        ·subst e
         rw [hd] at hx1; injection hx1 with hx1; subst hx1
         simp [look, hc]
        ·rw [getD_set, if_neg (fun h => e h.1)] at hx2
         have hne : ds[i] ≠ d := fun h => e (nodup_get hnd hd (by rw [h]; exact hx1))
         simp only [look]
         rw [if_neg (by simpa using hne)]
         exact hm.vals x d hx1 hx2
       ·have hne : ds[i] ≠ t := fun h => ht1 (h ▸ hmem)
        simp only [look]
        rw [if_neg (by simpa using hne)]
        exact hm.rest t v ht1 ht2 hl
       ·have hne : ds[i] ≠ t := fun h => ht (h ▸ hmem)
        simp only [look]
        rw [if_neg (by simpa using hne)]
        exact hm.zero hp t v ht hl
       ·simp only [look]
        split
        ·rename_i he
         have he' : ds[i] = t := by simpa using he
         have := (hms p hm.pl t v hl).1 (he' ▸ hmem)
         rw [← he', hc] at this; exact this
        ·exact hm.pos hp t v hl
      have fin : ∀ (pre : List (Nat × AV)), (∀ t v, look (pre ++ env) t = some v → look env t = some v) → (∀ more, WL C ops [o] ⟨pre ++ more, obpS objsB al ms p listed⟩ (fun e s => e = .normal ∧ s = ⟨(ds[i], c) :: (pre ++ more), obpS objsB al ms p (listed.setIfInBounds i true)⟩)) → wpOp C.P ops (Post C Q) i (wpAny C.P .any ops (Post C Q) fuel (listed.setIfInBounds i true)) a w := by
       intro pre hpre hstep
       refine wpOp_of_WL (st := ⟨pre ++ env, obpS objsB al ms p listed⟩) ho (hstep env) (hr.env hpre) fun a' w' hr' => ih p _ ((ds[i], c) :: env) a' w' (by omega) hnew ?_
       refine Rel.env (st := ⟨(ds[i], c) :: (pre ++ env), obpS objsB al ms p (listed.setIfInBounds i true)⟩) hr' fun t v hl => ?_
       simp only [look] at hl ⊢
       split at hl
       ·rename_i he; rw [if_pos he]; exact hl
       ·rename_i he
        rw [if_neg he]
        cases h5 : look (pre ++ env) t with
        | some v' => have := hpre t v' h5; rw [hl] at this; exact this.symm
        | none => rw [look_append, hl] at h5; cases h6 : look pre t <;> rw [h6] at h5 <;> cases h5
      by_cases hif : i ∈ fl
      ·refine fin (sel acc (depT ops o) ++ clean (ds ++ dstsOf ops ds.length mN) env0) (fun t v hl => ?_) (by
        have hnal : i ∉ al.map (·.1) := fun h => by obtain ⟨p', hp', rfl⟩ := List.mem_map.1 h; exact (hal p' hp').2 hif
        intro more
        rcases Nat.eq_zero_or_pos p with h0 | h0
        ·subst h0
         have := drawStep_more (hF0 i o _ c hif ho hd hc (fillS al listed)) hod more
         simpa only [obpS, if_true, fillS_other hnal] using this
        ·have := drawStep_more (hF p i o _ c hm.pl hif ho hd hc) hod more
         simpa only [obpS, if_neg (show ¬ p = 0 by omega)] using this)
       rw [look_append, look_append] at hl
       cases h5 : look (sel acc (depT ops o)) t with
       | some v' => rw [h5] at hl; simp only [Option.some_or, Option.some.injEq] at hl; subst hl; exact hsel hik t _ h5
       | none =>
        rw [h5, Option.none_or] at hl
        cases h6 : look (clean (ds ++ dstsOf ops ds.length mN) env0) t with
        | some v' =>
         rw [h6] at hl; simp only [Option.some_or, Option.some.injEq] at hl; subst hl
         obtain ⟨h7, h8⟩ := look_clean h6
         rw [List.mem_append, not_or] at h7
         exact hm.rest t _ h7.1 h7.2 h8
        | none => rw [h6, Option.none_or] at hl; exact hl
      ·have hp0 : p = 0 := by
        rcases Nat.eq_zero_or_pos p with h | h
        ·exact h
        ·have := hm.all h i hik hif; rw [h2] at this; cases this
       subst hp0
       refine fin (sel acc (depT ops o) ++ clean ds env0) (fun t v hl => ?_) (by
        intro more
        by_cases hia : i ∈ al.map (·.1)
        ·obtain ⟨⟨i', z⟩, hp', rfl⟩ := List.mem_map.1 hia
         obtain ⟨k, hk⟩ := List.getElem?_of_mem hp'
         have := hA k i' z o _ c hk ho hd hc (fillS al listed) more (fillS_get hk h2)
         simpa only [obpS, if_true, fillS_set haln hk (show i' < listed.size by rw [hm.size]; exact h1)] using this
        ·have := drawStep_more (hV i o _ c hif hia ho hd hc (fillS al listed)) hod more
         simpa only [obpS, if_true, fillS_other hia] using this)
       rw [look_append, look_append] at hl
       cases h5 : look (sel acc (depT ops o)) t with
       | some v' => rw [h5] at hl; simp only [Option.some_or, Option.some.injEq] at hl; subst hl; exact hsel hik t _ h5
       | none =>
        rw [h5, Option.none_or] at hl
        cases h6 : look (clean ds env0) t with
        | some v' =>
         rw [h6] at hl; simp only [Option.some_or, Option.some.injEq] at hl; subst hl
         obtain ⟨h7, h8⟩ := look_clean h6
         exact hm.zero rfl t _ h7 h8
        | none => rw [h6, Option.none_or] at hl; exact hl
     ·-- one of the middle
      have hlisted : ∀ j, behind ops 24 i j = true → j < ops.size → listed.getD j true = true := fun j hj hjs => getD_sw (hm.closed.behind 24 i o ho hdep hj) (by rw [hm.size]; exact hjs)
      have him : i < ds.length + mN := by
       rcases Nat.lt_or_ge i (ds.length + mN) with h | h
       ·exact h
       ·exfalso
        refine hend ⟨?_, fun x hx => hlisted x (htail i h1 h x (by omega)) (by omega)⟩
        have := hm.pl
        rcases Nat.lt_or_ge p mN with h4 | h4
        ·have h5 := hlisted (ds.length + p) (htail i h1 h _ (by omega)) (by omega)
         rw [hm.tl _ (Nat.le_refl _) (by omega)] at h5; cases h5
        ·omega
      obtain ⟨q, rfl⟩ := Nat.exists_eq_add_of_le hik
      have hq : q < mN := by omega
      have hqp : q = p := by
       rcases Nat.lt_trichotomy q p with h | h | h
       ·have := hm.ml q h; rw [h2] at this; cases this
       ·exact h
       ·have h4 := hmo q hq (ds.length + p) (by omega)
        rcases h4 with h4 | h4
        ·have := hfl _ h4; omega
        ·have h5 := hlisted _ h4 (by omega)
         rw [hm.tl _ (Nat.le_refl _) (by omega)] at h5; cases h5
      subst hqp
      have hnfl : ∀ x, x < ds.length → x ∉ fl → listed.getD x true = true := by
       intro x hx hxf
       rcases hmo q hq x (by omega) with h4 | h4
       ·exact absurd h4 hxf
       ·exact hlisted x h4 (by omega)
      have hpre : ∀ t v, look ((ms q).env ++ env) t = some v → look env t = some v := by
       intro t v hl
       rw [look_append] at hl
       cases h5 : look (ms q).env t with
       | none => rw [h5, Option.none_or] at hl; exact hl
       | some v' =>
        rw [h5, Option.some_or] at hl
        injection hl with hl; subst hl
        rcases Nat.eq_zero_or_pos q with h0 | h0
        ·subst h0
         rcases he0 t _ h5 with ⟨x, hx1, hx2, g2⟩ | ⟨g1, g2⟩
         ·rw [hm.vals x t hx2 (hnfl x (List.getElem?_eq_some_iff.1 hx2).1 hx1), g2]
         ·exact hm.zero rfl t _ g1 g2
        ·exact hm.pos h0 t _ h5
      have hobq : obpS objsB al ms q listed = (ms q).objs := by
       unfold obpS
       split
       ·rename_i h0; rw [hfull listed hnfl, h0, hm0]
       ·rfl
      rw [hobq] at hr
      have hpre2 : ∀ t v, look (sel acc (depT ops o) ++ ((ms q).env ++ env)) t = some v → look env t = some v := by
       intro t v hl
       rw [look_append] at hl
       cases h5 : look (sel acc (depT ops o)) t with
       | none => rw [h5, Option.none_or] at hl; exact hpre t v hl
       | some v' =>
        rw [h5, Option.some_or] at hl
        injection hl with hl; subst hl
        obtain ⟨g1, g2⟩ := look_sel h5
        have hin := hdom t _ g2
        simp only [depT, List.mem_filterMap] at g1
        obtain ⟨j, g3, g4⟩ := g1
        have hj := hlt j g3
        cases hoj : ops[j]? with
        | none => rw [hoj] at g4; cases g4
        | some oj =>
         rw [hoj] at g4
         simp only [Option.bind_some] at g4
         rcases Nat.lt_or_ge j ds.length with h | h
         ·have := hdst j oj ds[j] hoj (List.getElem?_eq_getElem h)
          rw [this] at g4
          injection g4 with g4
          rw [hm.vals j t (by rw [List.getElem?_eq_getElem h, g4]) (getD_sw (hdep j g3) (by rw [hm.size]; omega)), g2]
         ·exfalso
          refine hdisj t (hindst (j - ds.length) oj t (by omega) ?_ g4) hin
          rw [show ds.length + (j - ds.length) = j by omega]; exact hoj
      refine (fun (hmid : Mid ops ds fl mN acc env0 ms (q + 1) ((ms (q + 1)).env ++ env) (listed.setIfInBounds (ds.length + q) true)) => ?_) ?_
      ·have hout : ∀ (a' : Act) (w' : World), Rel C ⟨(ms (q + 1)).env ++ env, (ms (q + 1)).objs⟩ a' w' → wpAny C.P .any ops (Post C Q) fuel (listed.setIfInBounds (ds.length + q) true) a' w' := fun a' w' hr' => ih (q + 1) _ ((ms (q + 1)).env ++ env) a' w' (by omega) hmid (by simpa only [obpS, if_neg (Nat.succ_ne_zero q)] using hr')
       have hagree : ∀ t v, look ((ms q).env ++ env) t = some v → look (sel acc (depT ops o) ++ ((ms q).env ++ env)) t = some v := by
        intro t v hl
        have h1 := hpre t v hl
        cases h5 : look (sel acc (depT ops o) ++ ((ms q).env ++ env)) t with
        | some v' => have := hpre2 t v' h5; rw [h1] at this; exact this.symm
        | none => rw [look_append, hl] at h5; cases h6 : look (sel acc (depT ops o)) t <;> rw [h6] at h5 <;> cases h5
       rcases hM q o hq ho with ⟨he, hs⟩ | ⟨d, c, hd, he, hs⟩
       ·refine wpOp_of_WL (st := ⟨sel acc (depT ops o) ++ ((ms q).env ++ env), (ms q).objs⟩) ho (hs env) (hr.env hpre2) fun a' w' hr' => hout a' w' (Rel.env (st := ⟨sel acc (depT ops o) ++ ((ms q).env ++ env), (ms (q + 1)).objs⟩) hr' fun t v hl => ?_)
        rw [he] at hl
        exact hagree t v hl
       ·refine wpOp_of_WL (st := ⟨sel acc (depT ops o) ++ ((ms q).env ++ env), (ms q).objs⟩) ho (hs env) (hr.env hpre2) fun a' w' hr' => hout a' w' (Rel.env (st := ⟨(d, c) :: (sel acc (depT ops o) ++ ((ms q).env ++ env)), (ms (q + 1)).objs⟩) hr' fun t v hl => ?_)
        rw [he, List.cons_append] at hl
        simp only [look] at hl ⊢
        split at hl
        ·rename_i hk; rw [if_pos hk]; exact hl
        ·rename_i hk; rw [if_neg hk]; exact hagree t v hl
      refine ⟨by simp [hm.size], hm.closed.set ho hdep, hq, fun x hx1 hx2 => ?_, fun j hj => ?_, fun _ x hx1 hx2 => ?_, fun x d hx1 hx2 => ?_, fun t v ht1 ht2 hl => ?_, fun h => by omega, fun _ t v hl => ?_⟩
      ·rw [getD_set, if_neg (by omega)]; exact hm.tl x (by omega) hx2
      ·rw [getD_set]; split
       ·rfl
       ·rename_i hne
        refine hm.ml j ?_
        rcases Nat.lt_or_ge j q with h | h
        ·exact h
        ·exact absurd ⟨by omega, by rw [hm.size]; omega⟩ hne
      ·rw [getD_set]; split
       ·rfl
       ·exact hnfl x hx1 hx2
      ·have hxl := (List.getElem?_eq_some_iff.1 hx1).1
       rw [getD_set, if_neg (by omega)] at hx2
       rw [look_append]
       cases h5 : look (ms (q + 1)).env d with
       | some v => rw [Option.some_or, (hms (q + 1) hq d v h5).1 (List.mem_of_getElem? hx1)]
       | none => rw [Option.none_or]; exact hm.vals x d hx1 hx2
      ·rw [look_append]
       cases h5 : look (ms (q + 1)).env t with
       | some v' =>
        have := (hms (q + 1) hq t v' h5).2.1 ht1 ht2
        rw [hl] at this
        rw [Option.some_or, this]
       | none => rw [Option.none_or]; exact hm.rest t v ht1 ht2 hl
      ·rw [look_append, hl, Option.some_or]
 intro a w hr
 refine wp_region_any hmix (main ops.size 0 _ env0 a _ ?_ ⟨by simp, ?_, Nat.zero_le _, fun j h1 h2 => by simp [Array.getD, h2], fun j h => absurd h (Nat.not_lt_zero _), fun h => absurd h (Nat.lt_irrefl _), fun i d h1 h2 => ?_, fun t v _ _ h => h, fun _ t v _ h => h, fun h => absurd h (Nat.lt_irrefl _)⟩ (by
  have e : obpS objsB al ms 0 (Array.replicate ops.size false) = objsB ++ al.map (fun _ => AObj.slot) := by
   simp only [obpS, if_true]
   congr 1
   refine List.map_congr_left fun p hp => ?_
   have := (hal p hp).1
   rw [if_neg (by simp [Array.getD, show p.1 < ops.size by omega])]
  rw [e]; exact hr.drew))
 ·rw [List.filter_eq_self.2, List.length_range]
  intro j hj
  rw [List.mem_range] at hj
  simp [Array.getD, hj]
 ·intro i o ho hl
  have := (Array.getElem?_eq_some_iff.1 ho).1
  simp [Array.getD, this] at hl
 ·have := (List.getElem?_eq_some_iff.1 h1).1
  have hlt : i < ops.size := by omega
  simp [Array.getD, hlt] at h2
/-! ### the walk -/
def AStep (C : Ctx) (ops : Array Oper) (o : Oper) (pre : List (Nat × AV)) (objsB : List AObj) (k d : Nat) (z : AObj) (c : AV) : Prop :=
  ∀ mo more, mo[k]? = some .slot → WL C ops [o] ⟨pre ++ more, objsB ++ mo⟩ (fun e s => e = .normal ∧ s = ⟨(d, c) :: (pre ++ more), objsB ++ mo.set k z⟩)
def MidVS (C : Ctx) (ops : Array Oper) (ds : List Nat) (env0 : List (Nat × AV)) (objsB : List AObj) (adst : List (Nat × AObj)) (K : List (Nat × AV) → Prop) : List (Nat × Oper) → List (Nat × AV) → Prop
  | [], acc => K acc
  | (d, o) :: r, acc => ∃ c, ((d ∉ adst.map (·.1) ∧ ∀ mo, DrawStep C ops o (sel acc (depT ops o) ++ clean ds env0) (objsB ++ mo) c) ∨ (∃ k z, adst[k]? = some (d, z) ∧ AStep C ops o (sel acc (depT ops o) ++ clean ds env0) objsB k d z c)) ∧ MidVS C ops ds env0 objsB adst K r ((d, c) :: acc)
def MidFS (C : Ctx) (ops : Array Oper) (ds : List Nat) (env0 : List (Nat × AV)) (objsB : List AObj) (l : List St) (K : List (Nat × AV) → Prop) : List (Nat × Oper) → List (Nat × AV) → Prop
  | [], acc => K acc
  | (d, o) :: r, acc => ∃ c, ((∀ mo, DrawStep C ops o (sel acc (depT ops o) ++ clean ds env0) (objsB ++ mo) c) ∧ ∀ s ∈ l, DrawStep C ops o (sel acc (depT ops o) ++ clean ds env0) s.objs c) ∧ MidFS C ops ds env0 objsB l K r ((d, c) :: acc)
theorem MidVS.out {C : Ctx} {ops : Array Oper} {ds : List Nat} {env0 : List (Nat × AV)} {objsB : List AObj} {adst : List (Nat × AObj)} {K : List (Nat × AV) → Prop} : ∀ {L : List (Nat × Oper)} {acc : List (Nat × AV)}, MidVS C ops ds env0 objsB adst K L acc → laterOK ops L = true →
  ∃ acc', K acc' ∧ Ext1 L acc acc' ∧ ∀ d o, (d, o) ∈ L → ∃ c, look acc' d = some c ∧ ((d ∉ adst.map (·.1) ∧ ∀ mo, DrawStep C ops o (sel acc' (depT ops o) ++ clean ds env0) (objsB ++ mo) c) ∨ (∃ k z, adst[k]? = some (d, z) ∧ AStep C ops o (sel acc' (depT ops o) ++ clean ds env0) objsB k d z c))
 | [], acc, h, _ => ⟨acc, h, ⟨fun _ _ => rfl, fun _ _ _ => Iff.rfl, fun _ _ h => .inr h⟩, fun _ _ h => by cases h⟩
 | (d, o) :: r, acc, ⟨c, h1, h2⟩, hl => by
  simp only [laterOK, Bool.and_eq_true, List.all_eq_true, Bool.not_eq_true', List.contains_eq_mem, decide_eq_false_iff_not] at hl
  obtain ⟨⟨hl1, hl2⟩, hl3⟩ := hl
  obtain ⟨acc', k1, k2, k3⟩ := MidVS.out h2 hl3
  obtain ⟨k4, k5⟩ := k2.cons (o := o) hl2
  refine ⟨acc', k1, k4, fun d' o' hm => ?_⟩
  rcases List.mem_cons.1 hm with h | h
  ·injection h with e1 e2
   subst e1; subst e2
   refine ⟨c, k5, ?_⟩
   rw [k4.1 _ fun t ht => by simpa using hl1 t ht]
   exact h1
  ·exact k3 d' o' h
theorem MidFS.out {C : Ctx} {ops : Array Oper} {ds : List Nat} {env0 : List (Nat × AV)} {objsB : List AObj} {l : List St} {K : List (Nat × AV) → Prop} : ∀ {L : List (Nat × Oper)} {acc : List (Nat × AV)}, MidFS C ops ds env0 objsB l K L acc → laterOK ops L = true →
  ∃ acc', K acc' ∧ Ext1 L acc acc' ∧ ∀ d o, (d, o) ∈ L → ∃ c, look acc' d = some c ∧ (∀ mo, DrawStep C ops o (sel acc' (depT ops o) ++ clean ds env0) (objsB ++ mo) c) ∧ ∀ s ∈ l, DrawStep C ops o (sel acc' (depT ops o) ++ clean ds env0) s.objs c
 | [], acc, h, _ => ⟨acc, h, ⟨fun _ _ => rfl, fun _ _ _ => Iff.rfl, fun _ _ h => .inr h⟩, fun _ _ h => by cases h⟩
 | (d, o) :: r, acc, ⟨c, h1, h2⟩, hl => by
  simp only [laterOK, Bool.and_eq_true, List.all_eq_true, Bool.not_eq_true', List.contains_eq_mem, decide_eq_false_iff_not] at hl
  obtain ⟨⟨hl1, hl2⟩, hl3⟩ := hl
  obtain ⟨acc', k1, k2, k3⟩ := MidFS.out h2 hl3
  obtain ⟨k4, k5⟩ := k2.cons (o := o) hl2
  refine ⟨acc', k1, k4, fun d' o' hm => ?_⟩
  rcases List.mem_cons.1 hm with h | h
  ·injection h with e1 e2
   subst e1; subst e2
   refine ⟨c, k5, ?_⟩
   rw [k4.1 _ fun t ht => by simpa using hl1 t ht]
   exact h1
  ·exact k3 d' o' h
def MidP (C : Ctx) (ops : Array Oper) (ds : List Nat) (env0 : List (Nat × AV)) (K : List (Nat × AV) → Prop) : List (Nat × Oper) → List (Nat × AV) → Prop
  | [], acc => K acc
  | (d, o) :: r, acc => ∃ c, (∀ objs, DrawStep C ops o (sel acc (depT ops o) ++ clean ds env0) objs c) ∧ MidP C ops ds env0 K r ((d, c) :: acc)
theorem MidP.out {C : Ctx} {ops : Array Oper} {ds : List Nat} {env0 : List (Nat × AV)} {K : List (Nat × AV) → Prop} : ∀ {L : List (Nat × Oper)} {acc : List (Nat × AV)}, MidP C ops ds env0 K L acc → laterOK ops L = true →
  ∃ acc', K acc' ∧ Ext1 L acc acc' ∧ ∀ d o, (d, o) ∈ L → ∃ c, look acc' d = some c ∧ ∀ objs, DrawStep C ops o (sel acc' (depT ops o) ++ clean ds env0) objs c
 | [], acc, h, _ => ⟨acc, h, ⟨fun _ _ => rfl, fun _ _ _ => Iff.rfl, fun _ _ h => .inr h⟩, fun _ _ h => by cases h⟩
 | (d, o) :: r, acc, ⟨c, h1, h2⟩, hl => by
  simp only [laterOK, Bool.and_eq_true, List.all_eq_true, Bool.not_eq_true', List.contains_eq_mem, decide_eq_false_iff_not] at hl
  obtain ⟨⟨hl1, hl2⟩, hl3⟩ := hl
  obtain ⟨acc', k1, k2, k3⟩ := MidP.out h2 hl3
  obtain ⟨k4, k5⟩ := k2.cons (o := o) hl2
  refine ⟨acc', k1, k4, fun d' o' hm => ?_⟩
  rcases List.mem_cons.1 hm with h | h
  ·injection h with e1 e2
   subst e1; subst e2
   refine ⟨c, k5, ?_⟩
   rw [k4.1 _ fun t ht => by simpa using hl1 t ht]
   exact h1
  ·exact k3 d' o' h
def MidMP (C : Ctx) (ops : Array Oper) (acc : List (Nat × AV)) (K : St → List St → Prop) : List Oper → St → List St → Prop
  | [], s, l => K s l
  | o :: r, s, l => ∃ s', MidQ C ops o (sel acc (depT ops o)) s s' ∧ MidMP C ops acc K r s' (l ++ [s])
theorem MidMP.out {C : Ctx} {ops : Array Oper} {acc : List (Nat × AV)} {K : St → List St → Prop} : ∀ {L : List Oper} {s : St} {l : List St}, MidMP C ops acc K L s l →
  ∃ ms : Nat → St, ms 0 = s ∧ K (ms L.length) (l ++ (List.range L.length).map ms) ∧ ∀ j o, L[j]? = some o → MidQ C ops o (sel acc (depT ops o)) (ms j) (ms (j + 1))
 | [], s, l, h => ⟨fun _ => s, rfl, by simp only [List.length_nil, List.range_zero, List.map_nil, List.append_nil]; exact h, fun j o h => by simp at h⟩
 | o :: r, s, l, ⟨s', h1, h3⟩ => by
  obtain ⟨ms, k1, k2, k3⟩ := MidMP.out h3
  refine ⟨fun j => match j with | 0 => s | j + 1 => ms j, rfl, ?_, fun j o' hj => ?_⟩
  ·simp only [List.length_cons]
   rw [List.range_succ_eq_map, List.map_cons, List.map_map]
   simpa [List.append_assoc, Function.comp_def] using k2
  ·cases j with
   | zero => simp at hj; subst hj; simp only [k1]; exact h1
   | succ j => exact k3 j o' (by simpa using hj)
theorem Ext1.trans {L1 L2 : List (Nat × Oper)} {a b c : List (Nat × AV)} (h1 : Ext1 L1 a b) (h2 : Ext1 L2 b c) : Ext1 (L1 ++ L2) a c := by
 refine ⟨fun ts ht => ?_, fun t v ht => ?_, fun t v hl => ?_⟩
 ·rw [h2.1 ts fun t h hin => ht t h (by simp only [List.map_append, List.mem_append]; exact .inr hin), h1.1 ts fun t h hin => ht t h (by simp only [List.map_append, List.mem_append]; exact .inl hin)]
 ·simp only [List.map_append, List.mem_append, not_or] at ht
  rw [h2.2.1 t v ht.2, h1.2.1 t v ht.1]
 ·simp only [List.map_append, List.mem_append]
  rcases h2.2.2 t v hl with h | h
  ·exact .inl (.inr h)
  ·rcases h1.2.2 t v h with h | h
   ·exact .inl (.inl h)
   ·exact .inr h
theorem nodup_map_on {α β : Type _} {f : α → β} : ∀ {l : List α}, (∀ a ∈ l, ∀ b ∈ l, f a = f b → a = b) → l.Nodup → (l.map f).Nodup
 | [], _, _ => by simp
 | x :: l, h, hn => by
  rw [List.nodup_cons] at hn
  rw [List.map_cons, List.nodup_cons]
  refine ⟨fun hm => ?_, nodup_map_on (fun a ha b hb => h a (by simp [ha]) b (by simp [hb])) hn.2⟩
  obtain ⟨y, hy, he⟩ := List.mem_map.1 hm
  have := h y (by simp [hy]) x (by simp) he
  subst this; exact hn.1 hy
theorem W.middleS {C : Ctx} {id : Nat} {ops : Array Oper} {env0 : List (Nat × AV)} {objsB : List AObj} {Q : Exit → St → Prop} (hmix : C.P.follows .mixedOrders = true) (adst : List (Nat × AObj)) (ds pf lf nf : List Nat) (mN : Nat) (hchk : midOK ops ds (pf ++ lf) mN = true)
  (hcov : (List.range ds.length).all (fun i => nf.contains i != (pf ++ lf).contains i) = true) (hnf : nf.all (fun i => decide (i < ds.length)) = true) (hlat : laterOK ops (pairs ops ds nf ++ (pairs ops ds pf ++ pairs ops ds lf)) = true) (hlp : laterOK ops (pairs ops ds pf) = true) (hlv : laterOK ops (pairs ops ds nf) = true) (hlf : laterOK ops (pairs ops ds lf) = true) (hlm : ((ops.toList.drop ds.length).take mN).all (fun o => (depT ops o).all fun t => !((pairs ops ds lf).map (·.1)).contains t) = true) (had : adst.all (fun p => nf.contains (ds.idxOf p.1) && ds.contains p.1) = true) (hadn : decide (adst.map (·.1)).Nodup = true)
  (h : MidVS C ops ds env0 objsB adst (fun acc => MidP C ops (ds ++ dstsOf ops ds.length mN) env0 (fun acc1 => MidMP C ops acc1 (fun s l => MidFS C ops (ds ++ dstsOf ops ds.length mN) env0 objsB (l ++ [s]) (fun acc' => WL C ops (ops.toList.drop (ds.length + mN)) ⟨acc' ++ s.env, s.objs⟩ Q) (pairs ops ds lf) acc1)
   ((ops.toList.drop ds.length).take mN) ⟨acc ++ clean ds env0, objsB ++ adst.map (·.2)⟩ []) (pairs ops ds pf) acc) (pairs ops ds nf) []) : W C (.region id ops true) ⟨env0, objsB⟩ Q := by
 have hchk0 := hchk
 simp only [midOK, Bool.and_eq_true, decide_eq_true_eq, List.all_eq_true, List.mem_range, Bool.or_eq_true, List.contains_iff_mem] at hchk0
 obtain ⟨⟨⟨⟨⟨⟨⟨⟨hnd, hle⟩, hds⟩, hbk⟩, hmo⟩, hta⟩, hmd⟩, hfl⟩, hnf2⟩ := hchk0
 simp only [List.all_eq_true, List.mem_range, decide_eq_true_eq] at hcov hnf
 obtain ⟨fl, hfle⟩ : ∃ fl, fl = pf ++ lf := ⟨_, rfl⟩
 rw [← hfle] at hchk hcov hfl hnf2 hmo
 have hpfl : pairs ops ds fl = pairs ops ds pf ++ pairs ops ds lf := by rw [hfle, pairs, List.filterMap_append]; rfl
 rw [← hpfl] at hlat
 obtain ⟨acc, hP, hE1, hV⟩ := h.out hlv
 obtain ⟨acc1, hM, hEp, hPf⟩ := hP.out hlp
 obtain ⟨ms, m0, hK, hMs0⟩ := hM.out
 obtain ⟨acc', hT, hEl, hF0⟩ := hK.out hlf
 have hE2 : Ext1 (pairs ops ds fl) acc acc' := by rw [hpfl]; exact hEp.trans hEl
 have hlen : ((ops.toList.drop ds.length).take mN).length = mN := by simp; omega
 rw [hlen] at hT hF0
 have hpair : ∀ (is : List Nat) (d : Nat) (o : Oper), (d, o) ∈ pairs ops ds is ↔ ∃ i ∈ is, ds[i]? = some d ∧ ops[i]? = some o := by
  intro is d o
  simp only [pairs, List.mem_filterMap]
  constructor
  ·rintro ⟨i, hi, h⟩
   refine ⟨i, hi, ?_⟩
   split at h
   ·rename_i d' o' h1 h2
    injection h with h; injection h with e1 e2
    subst e1; subst e2
    exact ⟨h1, h2⟩
   ·cases h
  ·rintro ⟨i, hi, h1, h2⟩
   exact ⟨i, hi, by rw [h1, h2]⟩
 have hkey : ∀ (is : List Nat) (d : Nat), d ∈ (pairs ops ds is).map (·.1) → ∃ i ∈ is, ds[i]? = some d := by
  intro is d hd
  obtain ⟨⟨d', o⟩, h1, rfl⟩ := List.mem_map.1 hd
  obtain ⟨i, hi, h2, _⟩ := (hpair is d' o).1 h1
  exact ⟨i, hi, h2⟩
 have hnot : ∀ (i d : Nat), i ∉ fl → ds[i]? = some d → d ∉ (pairs ops ds fl).map (·.1) := by
  intro i d hi hd hin
  obtain ⟨i', hi', hd'⟩ := hkey fl d hin
  rw [nodup_get hnd hd hd'] at hi
  exact hi hi'
 have hin : ∀ i, i < ds.length → i ∉ fl → i ∈ nf := by
  intro i hi hf
  have := hcov i hi
  simpa [hf] using this
 have hnin : ∀ i, i ∈ nf → i ∉ fl := by
  intro i hi hf
  have := hcov i (hnf i hi)
  simp [hi, hf] at this
 have hop : ∀ (i d : Nat), ds[i]? = some d → ∃ o, ops[i]? = some o := by
  intro i d hd
  have hlt := (List.getElem?_eq_some_iff.1 hd).1
  exact ⟨ops[i], Array.getElem?_eq_getElem (by omega)⟩
 have hsplit : ∀ (L1 L2 : List (Nat × Oper)), laterOK ops (L1 ++ L2) = true → ∀ d o, (d, o) ∈ L1 → ∀ t ∈ depT ops o, t ∉ L2.map (·.1) := by
  intro L1
  induction L1 with
  | nil => intro L2 _ d o h; cases h
  | cons p r ih =>
   intro L2 hl d o hm t ht
   obtain ⟨d0, o0⟩ := p
   simp only [List.cons_append, laterOK, Bool.and_eq_true, List.all_eq_true, Bool.not_eq_true', List.contains_eq_mem, decide_eq_false_iff_not] at hl
   rcases List.mem_cons.1 hm with h | h
   ·injection h with e1 e2
    subst e1; subst e2
    have := hl.1.1 t ht
    simp only [List.map_append, List.mem_cons, List.mem_append, not_or] at this
    exact this.2.2
   ·exact ih L2 hl.2 d o h t ht
 have hsub : ∀ (L1 L2 : List (Nat × Oper)), laterOK ops (L1 ++ L2) = true → laterOK ops L2 = true := by
  intro L1
  induction L1 with
  | nil => intro L2 h; exact h
  | cons p r ih =>
   intro L2 hl
   obtain ⟨d0, o0⟩ := p
   simp only [List.cons_append, laterOK, Bool.and_eq_true] at hl
   exact ih L2 hl.2
 have hpl := hsub _ _ hlat
 rw [hpfl] at hpl
 have hF : ∀ d o, (d, o) ∈ pairs ops ds fl → ∃ c, look acc' d = some c ∧ (∀ mo, DrawStep C ops o (sel acc' (depT ops o) ++ clean (ds ++ dstsOf ops ds.length mN) env0) (objsB ++ mo) c) ∧ ∀ s ∈ [] ++ (List.range mN).map ms ++ [ms mN], DrawStep C ops o (sel acc' (depT ops o) ++ clean (ds ++ dstsOf ops ds.length mN) env0) s.objs c := by
  intro d o hm
  rw [hpfl, List.mem_append] at hm
  rcases hm with hm | hm
  ·obtain ⟨c, h1, h2⟩ := hPf d o hm
   have hnk : d ∉ (pairs ops ds lf).map (·.1) := by
    have aux : ∀ (L1 L2 : List (Nat × Oper)), laterOK ops (L1 ++ L2) = true → ∀ d o, (d, o) ∈ L1 → d ∉ L2.map (·.1) := by
     intro L1
     induction L1 with
     | nil => intro L2 _ d o h; cases h
     | cons p r ih =>
      intro L2 hl d o hm
      obtain ⟨d0, o0⟩ := p
      simp only [List.cons_append, laterOK, Bool.and_eq_true, List.all_eq_true, Bool.not_eq_true', List.contains_eq_mem, decide_eq_false_iff_not] at hl
      rcases List.mem_cons.1 hm with h | h
      ·injection h with e1 e2
       subst e1; subst e2
       have := hl.1.2
       simp only [List.map_append, List.mem_append, not_or] at this
       exact this.2
      ·exact ih L2 hl.2 d o h
    exact aux _ _ hpl d o hm
   refine ⟨c, (hEl.2.1 d c hnk).2 h1, ?_⟩
   rw [hEl.1 _ (hsplit _ _ hpl d o hm)]
   exact ⟨fun mo => h2 _, fun s _ => h2 _⟩
  ·exact hF0 d o hm
 have hMs : ∀ j o, ((ops.toList.drop ds.length).take mN)[j]? = some o → MidQ C ops o (sel acc' (depT ops o)) (ms j) (ms (j + 1)) := by
  intro j o ho
  have := hMs0 j o ho
  simp only [List.all_eq_true, Bool.not_eq_true', List.contains_eq_mem, decide_eq_false_iff_not] at hlm
  rw [← hEl.1 _ fun t ht => hlm o (List.mem_of_getElem? ho) t ht] at this
  exact this
 simp only [List.all_eq_true, Bool.and_eq_true, List.contains_iff_mem, decide_eq_true_eq] at had hadn
 obtain ⟨al, hal⟩ : ∃ al : List (Nat × AObj), al = adst.map fun p => (ds.idxOf p.1, p.2) := ⟨_, rfl⟩
 have halk : ∀ (k i : Nat) (z : AObj), al[k]? = some (i, z) → ∃ d, adst[k]? = some (d, z) ∧ ds[i]? = some d := by
  intro k i z hk
  rw [hal, List.getElem?_map] at hk
  obtain ⟨⟨d, z'⟩, h1, h2⟩ := Option.map_eq_some_iff.1 hk
  injection h2 with h2 h3
  subst h3; subst h2
  have hm := (had _ (List.mem_of_getElem? h1)).2
  exact ⟨d, h1, by rw [List.getElem?_eq_getElem (List.idxOf_lt_length_of_mem hm), List.getElem_idxOf]⟩
 have haln : (al.map (·.1)).Nodup := by
  have h1 : al.map (·.1) = (adst.map (·.1)).map ds.idxOf := by rw [hal, List.map_map, List.map_map]; rfl
  rw [h1]
  refine nodup_map_on ?_ hadn
  intro a ha b hb hab
  obtain ⟨⟨a', z1⟩, h2, rfl⟩ := List.mem_map.1 ha
  obtain ⟨⟨b', z2⟩, h3, rfl⟩ := List.mem_map.1 hb
  have m1 := (had _ h2).2
  have m2 := (had _ h3).2
  have g1 := List.getElem_idxOf (List.idxOf_lt_length_of_mem m1)
  have g2 := List.getElem_idxOf (List.idxOf_lt_length_of_mem m2)
  simp only at hab g1 g2 ⊢
  rw [← g1, ← g2]
  simp only [hab]
 refine W.slots adst.length ?_
 have hsl : objsB ++ List.replicate adst.length AObj.slot = objsB ++ al.map (fun _ => AObj.slot) := by
  rw [hal, List.map_map]; congr 1; exact (List.map_const').symm
 rw [hsl]
 have hdl : ∀ p, p ∈ al → ∃ d, (d, p.2) ∈ adst ∧ ds[p.1]? = some d ∧ p.1 ∈ nf := by
  intro p hp
  obtain ⟨k, hk⟩ := List.getElem?_of_mem hp
  obtain ⟨i, z⟩ := p
  obtain ⟨d, h1, h2⟩ := halk k i z hk
  have hm := List.mem_of_getElem? h1
  have h3 := (had _ hm).1
  have hmd' := (had _ hm).2
  have : ds.idxOf d = i := nodup_get hnd (by rw [List.getElem?_eq_getElem (List.idxOf_lt_length_of_mem hmd'), List.getElem_idxOf]) h2
  simp only [this] at h3
  exact ⟨d, hm, h2, h3⟩
 refine W.midS objsB al hmix ds fl mN acc' ms hchk ?_ ?_ (by rw [m0, hal, List.map_map]; rfl) ?_ haln ?_ ?_ ?_ ?_ ?_ ?_ (by simpa using hT)
 ·intro d hd
  obtain ⟨i, hi⟩ := List.getElem?_of_mem hd
  obtain ⟨o, ho⟩ := hop i d hi
  by_cases hf : i ∈ fl
  ·obtain ⟨c, h1, _⟩ := hF d o ((hpair fl d o).2 ⟨i, hf, hi, ho⟩)
   exact ⟨c, h1⟩
  ·obtain ⟨c, h1, _⟩ := hV d o ((hpair nf d o).2 ⟨i, hin i (List.getElem?_eq_some_iff.1 hi).1 hf, hi, ho⟩)
   exact ⟨c, (hE2.2.1 d c (hnot i d hf hi)).2 h1⟩
 ·intro t v hl
  rcases hE2.2.2 t v hl with h | h
  ·obtain ⟨i, _, hi⟩ := hkey fl t h; exact List.mem_of_getElem? hi
  ·rcases hE1.2.2 t v h with h | h
   ·obtain ⟨i, _, hi⟩ := hkey nf t h; exact List.mem_of_getElem? hi
   ·cases h
 ·intro p hp
  obtain ⟨d, _, h2, h3⟩ := hdl p hp
  exact ⟨(List.getElem?_eq_some_iff.1 h2).1, hnin _ h3⟩
 ·intro t v hl
  rw [m0] at hl
  simp only at hl
  rw [look_append] at hl
  cases ha : look acc t with
  | some v' =>
   rw [ha, Option.some_or] at hl
   injection hl with hl; subst hl
   rcases hE1.2.2 t _ ha with h | h
   ·obtain ⟨i, hi1, hi2⟩ := hkey nf t h
    exact .inl ⟨i, hnin i hi1, hi2, (hE2.2.1 t _ (hnot i t (hnin i hi1) hi2)).2 ha⟩
   ·cases h
  | none =>
   rw [ha, Option.none_or] at hl
   exact .inr (look_clean hl)
 ·intro i o d c hf hia ho hd hc
  have hm := (hpair nf d o).2 ⟨i, hin i (List.getElem?_eq_some_iff.1 hd).1 hf, hd, ho⟩
  obtain ⟨c', h1, h2⟩ := hV d o hm
  have h3 := (hE2.2.1 d c' (hnot i d hf hd)).2 h1
  rw [hc] at h3; injection h3 with h3; subst h3
  rw [hE2.1 _ (hsplit _ _ hlat d o hm)]
  rcases h2 with ⟨_, h2⟩ | ⟨k, z, h2, _⟩
  ·exact h2
  ·exfalso
   refine hia (List.mem_map.2 ⟨(ds.idxOf d, z), ?_, ?_⟩)
   ·rw [hal]; exact List.mem_map.2 ⟨(d, z), List.mem_of_getElem? h2, rfl⟩
   ·have hmd' := List.mem_of_getElem? hd
    exact nodup_get hnd (by rw [List.getElem?_eq_getElem (List.idxOf_lt_length_of_mem hmd'), List.getElem_idxOf]) hd
 ·intro k i z o d c hk ho hd hc
  obtain ⟨d', h1, h2⟩ := halk k i z hk
  rw [hd] at h2; injection h2 with h2; subst h2
  obtain ⟨_, _, h4, h5⟩ := hdl (i, z) (List.mem_of_getElem? hk)
  have hm := (hpair nf d o).2 ⟨i, h5, hd, ho⟩
  obtain ⟨c', g1, g2⟩ := hV d o hm
  have g3 := (hE2.2.1 d c' (hnot i d (hnin i h5) hd)).2 g1
  rw [hc] at g3; injection g3 with g3; subst g3
  rcases g2 with ⟨g2, _⟩ | ⟨k', z', g2, g4⟩
  ·exact absurd (List.mem_map.2 ⟨(d, z), List.mem_of_getElem? h1, rfl⟩) g2
  ·have e : k' = k := nodup_get hadn (by rw [List.getElem?_map, g2]; rfl) (by rw [List.getElem?_map, h1]; rfl)
   subst e
   rw [h1] at g2; injection g2 with g2; injection g2 with _ g2; subst g2
   rw [hE2.1 _ (hsplit _ _ hlat d o hm)]
   exact g4
 ·intro j o hj ho
  refine hMs j o ?_
  rw [List.getElem?_take, if_pos hj, List.getElem?_drop, Array.getElem?_toList]; exact ho
 ·intro i o d c hf ho hd hc
  obtain ⟨c', h1, h2⟩ := hF d o ((hpair fl d o).2 ⟨i, hf, hd, ho⟩)
  rw [hc] at h1; injection h1 with h1; subst h1
  exact h2.1
 ·intro j i o d c hj hf ho hd hc
  obtain ⟨c', h1, h2⟩ := hF d o ((hpair fl d o).2 ⟨i, hf, hd, ho⟩)
  rw [hc] at h1; injection h1 with h1; subst h1
  refine h2.2 (ms j) ?_
  rcases Nat.lt_or_ge j mN with h | h
  ·simp only [List.nil_append, List.mem_append, List.mem_map, List.mem_range]
   exact .inl ⟨j, h, rfl⟩
  ·have : j = mN := by omega
   subst this; simp
theorem MidVS.step {C : Ctx} {ops : Array Oper} {ds : List Nat} {env0 : List (Nat × AV)} {objsB : List AObj} {adst : List (Nat × AObj)} {K : List (Nat × AV) → Prop} {d : Nat} {o : Oper} {r : List (Nat × Oper)} {acc : List (Nat × AV)} {c : AV}
  (ha : (adst.map (·.1)).contains d = false) (h : ∀ mo, DrawStep C ops o (sel acc (depT ops o) ++ clean ds env0) (objsB ++ mo) c) (h' : MidVS C ops ds env0 objsB adst K r ((d, c) :: acc)) : MidVS C ops ds env0 objsB adst K ((d, o) :: r) acc :=
 ⟨c, .inl ⟨by simpa using ha, h⟩, h'⟩
theorem MidVS.alloc {C : Ctx} {ops : Array Oper} {ds : List Nat} {env0 : List (Nat × AV)} {objsB : List AObj} {adst : List (Nat × AObj)} {K : List (Nat × AV) → Prop} {d : Nat} {o : Oper} {r : List (Nat × Oper)} {acc : List (Nat × AV)} {t : TypeId} {y : Ty} {z : List Value} {cs : List AV} (k n : Nat)
  (ha : adst[k]? = some (d, .cells cs 1 1 false none)) (hn : objsB.length + k = n) (hk : Nat.ble C.k n = true) (hd : o.dst = some d) (hg : o.guard = none) (hlt : Nat.blt d C.nt = true) (hop : o.op = .alloc t) (hy : C.T.at t = some y) (hz : y.zero = some z) (hc : ofVals z = some cs) (h' : MidVS C ops ds env0 objsB adst K r ((d, .ptr n 1 0) :: acc)) : MidVS C ops ds env0 objsB adst K ((d, o) :: r) acc := by
 subst hn
 refine ⟨.ptr (objsB.length + k) 1 0, .inr ⟨k, _, ha, fun mo more hs => ?_⟩, h'⟩
 have hs' : (objsB ++ mo)[objsB.length + k]? = some .slot := by rw [List.getElem?_append_right (by omega)]; simpa using hs
 have hstep := v_allocS (C := C) (o := o) (env := (sel acc (depT ops o) ++ clean ds env0) ++ more) hs' (Nat.le_of_ble_eq_true hk) hop hy hz hc
 have he : (objsB ++ mo).set (objsB.length + k) (.cells cs 1 1 false none) = objsB ++ mo.set k (.cells cs 1 1 false none) := by
  rw [List.set_append_right _ _ (by omega)]; simp
 rw [he] at hstep
 exact sn hstep rfl rfl (by unfold gd; rw [hg]) hd hlt (WL.nil ⟨rfl, rfl⟩)
theorem MidVS.done {C : Ctx} {ops : Array Oper} {ds : List Nat} {env0 : List (Nat × AV)} {objsB : List AObj} {adst : List (Nat × AObj)} {K : List (Nat × AV) → Prop} {acc : List (Nat × AV)} (h : K acc) : MidVS C ops ds env0 objsB adst K [] acc := h
theorem MidFS.done {C : Ctx} {ops : Array Oper} {ds : List Nat} {env0 : List (Nat × AV)} {objsB : List AObj} {l : List St} {K : List (Nat × AV) → Prop} {acc : List (Nat × AV)} (h : K acc) : MidFS C ops ds env0 objsB l K [] acc := h
theorem MidP.step {C : Ctx} {ops : Array Oper} {ds : List Nat} {env0 : List (Nat × AV)} {K : List (Nat × AV) → Prop} {d : Nat} {o : Oper} {r : List (Nat × Oper)} {acc : List (Nat × AV)} {c : AV}
  (h : ∀ objs, DrawStep C ops o (sel acc (depT ops o) ++ clean ds env0) objs c) (h' : MidP C ops ds env0 K r ((d, c) :: acc)) : MidP C ops ds env0 K ((d, o) :: r) acc := ⟨c, h, h'⟩
theorem MidP.done {C : Ctx} {ops : Array Oper} {ds : List Nat} {env0 : List (Nat × AV)} {K : List (Nat × AV) → Prop} {acc : List (Nat × AV)} (h : K acc) : MidP C ops ds env0 K [] acc := h
theorem MidMP.eff {C : Ctx} {ops : Array Oper} {acc : List (Nat × AV)} {K : St → List St → Prop} {o : Oper} {r : List Oper} {env : List (Nat × AV)} {objs objs' : List AObj} {l : List St} (hd : o.dst = none)
  (h : ∀ more, WL C ops [o] ⟨sel acc (depT ops o) ++ (env ++ more), objs⟩ (fun e s => e = .normal ∧ s = ⟨sel acc (depT ops o) ++ (env ++ more), objs'⟩)) (h' : MidMP C ops acc K r ⟨env, objs'⟩ (l ++ [⟨env, objs⟩])) : MidMP C ops acc K (o :: r) ⟨env, objs⟩ l :=
 ⟨⟨env, objs'⟩, .inl ⟨rfl, h⟩, h'⟩
theorem MidMP.done {C : Ctx} {ops : Array Oper} {acc : List (Nat × AV)} {K : St → List St → Prop} {s : St} {l : List St} (h : K s l) : MidMP C ops acc K [] s l := h
theorem loadc_i {y : Ty} {cs : List AV} {i j : Nat} {av : AV} (hk : y.k.agg = false) (hj : j = i) (h : cs[i]? = some av) : loadc y cs j = some av := by
 subst hj
 simp [loadc, hk, h]
end Go.Lens

set_option linter.unusedVariables false
set_option linter.unusedSimpArgs false
namespace Go.Proofs.YtejpblopbdgkaaaGreatDoor
open Go Go.Lens
def UN : Nat := 1000000000000000000
theorem un_pow : UN = 10 ^ 18 := by decide
theorem flatten_len {l : List (List UInt8)} (h : ∀ g ∈ l, g ≠ []) : l.length ≤ l.flatten.length := by
 induction l with
 | nil => simp
 | cons g l ih =>
  have := List.length_pos_iff.2 (h g (by simp))
  have := ih fun x hx => h x (by simp [hx])
  rw [List.flatten_cons, List.length_append, List.length_cons]; omega
theorem ndig_lim {x L : Nat} (h : (digs LB x).length ≤ L) : ndig x ≤ 20 * L := by
 refine ndig_le ?_
 have h1 := val_lt (digs_canon (B := LB) (by decide) x).1
 rw [digs_val (by decide)] at h1
 refine Nat.lt_of_lt_of_le h1 (Nat.le_trans (Nat.pow_le_pow_right (by decide) h) ?_)
 rw [Nat.pow_mul]
 exact Nat.pow_le_pow_left (by decide) _
/-- what is left to write, and what was written -/
def restT (q : Nat) : List UInt8 := if q = 0 then [] else decText q
theorem rest_step {q : Nat} (h : q ≠ 0) : restT q = restT (q / UN) ++ txt (max (ndig (q % UN)) (if q / UN = 0 then 1 else 18)) (q % UN) := by
 simp only [restT, if_neg h]
 by_cases h1 : q / UN = 0
 ·have hlt : q < UN := by
   rcases Nat.div_eq_zero_iff.1 h1 with h | h
   ·exact absurd h (by decide)
   ·exact h
  rw [if_pos h1, if_pos h1, Nat.mod_eq_of_lt hlt, List.nil_append, decText, if_neg h]
  have := ndig_pos h
  rw [Nat.max_eq_left this]
 ·have hge : UN ≤ q := by
   rcases Nat.lt_or_ge q UN with hlt | hge
   ·exact absurd (Nat.div_eq_of_lt hlt) h1
   ·exact hge
  have hm : ndig (q % UN) ≤ 18 := ndig_le (by rw [← un_pow]; exact Nat.mod_lt _ (by decide))
  rw [if_neg h1, if_neg h1, Nat.max_eq_right hm]
  rw [un_pow] at hge ⊢
  exact decText_parts hge
theorem rest_piece_ne (q : Nat) : txt (max (ndig (q % UN)) (if q / UN = 0 then 1 else 18)) (q % UN) ≠ [] := by
 intro h
 have := txt_length (max (ndig (q % UN)) (if q / UN = 0 then 1 else 18)) (q % UN)
 rw [h] at this
 simp only [List.length_nil] at this
 split at this <;> omega
def boxO (q : Nat) : AObj := .cells [.row (u64AV (digs LB q)) (digs LB q).length] 0 1 false none
def pst (gs : List (List UInt8)) (v q : Nat) : St := match gs with
  | [] => ⟨[(1, .ptr 0 0 0), (3, .nils)], [boxO q]⟩
  | g :: r => ⟨[(1, .ptr 0 0 0), (3, .sl 3 v 0 (g :: r).length true)], [boxO q, .dead, .dead, .cells (strsAV (g :: r)) v 1 true (some 9)]⟩
theorem v_str_nil {C : Ctx} {o : Oper} {env : List (Nat × AV)} {objs : List AObj} {s x : Operand} {t e : TypeId} {y ye : Ty} {g : List UInt8} {z : List Value} (hop : o.op = .call { callee := .builtin .append, args := #[s, x], argTypes := #[t, t] })
  (hs : ev ⟨env, objs⟩ s = some .nils) (hx : ev ⟨env, objs⟩ x = some (.row [.str g] 1)) (hy : C.T.at t = some y) (hk : y.k = .slice e) (hye : C.T.at e = some ye) (hz : ye.zero = some z) (hzl : z.length = ye.size) (hsz : ye.size = 1) (hbb : ye.bytes = 16) :
  VStep C o ⟨env, objs⟩ (.sl objs.length 0 0 [g].length true) (objs ++ [.cells (strsAV [g]) 0 1 true (some e)]) := by
 have := v_append_nil (st := ⟨env, objs⟩) (m := 1) (ds := [.str g]) hop hs hx hy hk hye hz hzl (by omega) (.inr (.inl ⟨rfl, by rw [hsz]; rfl⟩)) (by omega) (fun d hd => by rw [List.mem_singleton] at hd; subst hd; rfl) (by omega) (by rw [hbb]; omega)
 rw [hsz] at this
 exact this
theorem v_str_own {C : Ctx} {o : Oper} {env : List (Nat × AV)} {objs : List AObj} {s x : Operand} {t e : TypeId} {y ye : Ty} {g : List UInt8} {gs : List (List UInt8)} {ob ver : Nat} {z : List Value} (hop : o.op = .call { callee := .builtin .append, args := #[s, x], argTypes := #[t, t] })
  (hs : ev ⟨env, objs⟩ s = some (.sl ob ver 0 gs.length true)) (hob : objs[ob]? = some (.cells (strsAV gs) ver 1 true (some e))) (hx : ev ⟨env, objs⟩ x = some (.row [.str g] 1)) (hy : C.T.at t = some y) (hk : y.k = .slice e) (hye : C.T.at e = some ye) (hz : ye.zero = some z) (hzl : z.length = ye.size) (hsz : ye.size = 1) (hbb : ye.bytes = 16)
  (hl : gs.length ≤ 1000000000) : VStep C o ⟨env, objs⟩ (.sl ob (ver + 1) 0 (gs ++ [g]).length true) (objs.set ob (.cells (strsAV (gs ++ [g])) (ver + 1) 1 true (some e))) := by
 have := v_append_own (st := ⟨env, objs⟩) (n := gs.length) (m := 1) (ds := [.str g]) (cs := strsAV gs) hop hs (by rw [hsz]; exact hob) (by rw [strsAV_length, hsz, Nat.mul_one]) hx hy hk hye hz hzl (by omega) (.inr (.inl ⟨rfl, by rw [hsz]; rfl⟩)) (fun d hd => by rw [List.mem_singleton] at hd; subst hd; rfl) (by omega) (by rw [hbb]; omega)
 rw [hsz] at this
 rw [List.length_append, List.length_singleton, strsAV, List.map_append]
 exact this
theorem print_zero : Does Tryz.prog 45 [natAV 0] (.str (decText 0)) := by
 have hz := zero_spec (digs LB 0)
 rw [digs_zero] at hz
 have e : natAV 0 = natRow [] := by rw [natAV, digs_zero]
 rw [e]
 refine does tab_ok Tryz.func45 rfl rfl rfl rfl rfl fun w0 H0 hk hj => ?_
 refine W.seq (W.region ?_)
 first | refine z_B 0 [_] ?_ | refine sn (a_box rfl rfl (.inr ⟨trivial, rfl⟩)) (rfl : _ = AV.ptr 0 0 0) (rfl : _ = [_]) rfl rfl rfl ?_
 refine z_p ?_
 refine WL.nil ?_
 refine W.seq (W.seq (W.region ?_))
 first | refine z_l1 ?_ | refine z_r1 ?_
 refine z_c (hz) ?_
 refine WL.nil ?_
 refine W.cond_true rfl ?_
 refine W.seq (W.region ?_)
 refine z_p ?_
 refine WL.nil ?_
 exact W.ret (fin rfl (.shut (.plain rfl) .nil) rfl)
theorem print_spec (x : Nat) (hx : Lim x) : Does Tryz.prog 45 [natAV x] (.str (decText x)) := by
 by_cases hx0 : x = 0
 ·subst hx0; exact print_zero
 have hzero : ∀ q : Nat, Does Tryz.prog 28 [natAV q] (.bool (decide (q = 0))) := fun q => by
  have := zero_spec (digs LB q)
  have e : (digs LB q == []) = decide (q = 0) := by rw [Bool.eq_iff_iff, beq_iff_eq, decide_eq_true_eq, digs_eq_nil (by decide)]
  rw [e] at this; exact this
 have hof : Does Tryz.prog 8 [.row (u64AV [UN]) 1] (natAV UN) := by
  have := of_spec [UN] (by decide)
  rw [trim_digs (B := LB) (by decide) (fun y hy => by rw [List.mem_singleton] at hy; subst hy; decide)] at this
  exact this
 have hnd := ndig_lim hx
 have htl : (restT x).length ≤ 20000000 := by
  rw [restT, if_neg hx0, decText_length]; omega
 refine does tab_ok Tryz.func45 rfl rfl rfl rfl rfl fun w0 H0 hk hj => ?_
 refine W.seq (W.region ?_)
 first | refine z_B 0 [_] ?_ | refine sn (a_box rfl rfl (.inr ⟨trivial, rfl⟩)) (rfl : _ = AV.ptr 0 0 0) (rfl : _ = [_]) rfl rfl rfl ?_
 refine z_p ?_
 refine WL.nil ?_
 refine W.seq (W.seq (W.region ?_))
 first | refine z_l1 ?_ | refine z_r1 ?_
 refine z_c (hzero x) ?_
 refine WL.nil ?_
 rw [show decide (x = 0) = false by simp [hx0]]
 refine W.cond_false rfl (W.skip ?_)
 refine W.seq (W.region ?_)
 refine z_p ?_
 refine WL.nil ?_
 refine W.seq (W.block ?_)
 refine W.while (fun m st => ∃ (gs : List (List UInt8)) (v q : Nat), q = m ∧ q ≤ x ∧ restT x = restT q ++ gs.reverse.flatten ∧ (∀ g ∈ gs, g ≠ []) ∧ (gs = [] → q ≠ 0) ∧ st = pst gs v q) x
  ⟨[], 0, x, rfl, Nat.le_refl _, by simp, (fun g hg => by cases hg), fun _ => hx0, rfl⟩ (by refine ⟨?_, ?_, rfl, Nat.le_of_ble_eq_true rfl⟩ <;> repeat (first | exact trivial | exact rfl | refine ⟨rfl, ?_⟩ | refine ⟨.inr ⟨rfl, ?_⟩, ?_⟩ | refine ⟨.inl rfl, ?_⟩)) ?_
 rintro m _ ⟨gs, v, q, rfl, hqx, heq, hgne, hgq, rfl⟩
 have hq := hx.of_le hqx
 have hgl : gs.length ≤ 20000000 := by
  have h1 := flatten_len (l := gs.reverse) (fun g hg => hgne g (by simpa using hg))
  have h2 := congrArg List.length heq
  rw [List.length_append] at h2
  rw [List.length_reverse] at h1
  omega
 rcases gs with _ | ⟨g0, gr⟩
 ·have hq0 : q ≠ 0 := hgq rfl
  have hun : UN ≠ 0 := by decide
  have hdiv := div1_spec q UN hq hun (by decide)
  have hlim := limbs_spec (digs LB (q % UN)) (by have := hq.of_le (Nat.mod_le q UN); simp only [Lim] at this; omega)
  have hmu : q % UN < LB := Nat.lt_trans (Nat.mod_lt _ (by decide)) (by decide)
  refine W.seq (W.seq (W.region ?_))
  first | refine z_l1 ?_ | refine z_r1 ?_
  refine z_c (hzero q) ?_
  refine sq (v_pure rfl) (show _ = AV.bool true from by simp [hq0]) rfl rfl rfl ?_
  refine WL.nil ?_
  refine W.cond_true rfl (W.skip ?_)
  refine W.block ?_
  refine W.seq (W.middleS mixed [(4, .cells [.nils] 1 1 false none), (5, .cells [.nils] 1 1 false none)] [19, 20, 21, 22, 18, 23, 24, 25, 4, 5] [6, 7] [] [0, 1, 2, 3, 4, 5, 8, 9] 2 rfl rfl rfl rfl rfl rfl rfl rfl rfl rfl ?_)
  apply MidVS.step
  ·rfl
  ·intro mo more
   first | refine z_l1 ?_ | refine z_r1 ?_
   exact z_e
  apply MidVS.step
  ·rfl
  ·intro mo more
   refine sq (v_buildRow rfl rfl rfl rfl rfl rfl rfl (Nat.le_of_ble_eq_true rfl) (Nat.le_of_ble_eq_true rfl) rfl rfl rfl rfl) (rfl : _ = AV.row [_] 1) rfl rfl rfl ?_
   exact z_e
  apply MidVS.step
  ·rfl
  ·intro mo more
   refine z_c (hof) ?_
   exact z_e
  apply MidVS.step
  ·rfl
  ·intro mo more
   refine z_c (hdiv) ?_
   exact z_e
  apply MidVS.step
  ·rfl
  ·intro mo more
   refine z_p ?_
   exact z_e
  apply MidVS.step
  ·rfl
  ·intro mo more
   refine z_p ?_
   exact z_e
  refine MidVS.alloc 0 1 rfl rfl rfl rfl rfl rfl rfl rfl rfl rfl ?_
  refine MidVS.alloc 1 2 rfl rfl rfl rfl rfl rfl rfl rfl rfl rfl ?_
  refine MidVS.done ?_
  apply MidP.step
  ·intro objs more
   refine z_p ?_
   exact z_e
  apply MidP.step
  ·intro objs more
   refine z_p ?_
   exact z_e
  refine MidP.done ?_
  apply MidMP.eff rfl
  ·intro more
   refine z_s [_, _, _] ?_
   exact z_e
  apply MidMP.eff rfl
  ·intro more
   refine z_s [_, _, _] ?_
   exact z_e
  refine MidMP.done ?_
  refine MidFS.done ?_
  refine z_p ?_
  refine WL.nil ?_
  refine W.seq (W.region ?_)
  refine z_p ?_
  refine WL.nil ?_
  refine W.seq (W.seq (W.region ?_))
  first | refine z_l1 ?_ | refine z_r1 ?_
  refine z_c (hlim) ?_
  first | refine z_n ?_ | refine z_m ?_ | refine z_k ?_
  refine z_p ?_
  refine WL.nil ?_
  refine W.fits (env0 := [(1, .ptr 0 0 0), (3, .nils), (4, .ptr 1 1 0), (5, .ptr 2 1 0), (7, .int .u64 0), (27, .row (u64AV (digs LB (q % UN))) (digs LB (q % UN)).length), (28, .int .i64 (digs LB (q % UN)).length), (29, .int .i64 0)]) (objs0 := [boxO q, .cells [.row (u64AV (digs LB (q / UN))) (digs LB (q / UN)).length] 1 1 false none, .cells [.row (u64AV (digs LB (q % UN))) (digs LB (q % UN)).length] 1 1 false none]) (by refine ⟨?_, ?_, rfl, Nat.le_of_ble_eq_true rfl⟩ <;> repeat (first | exact trivial | exact rfl | refine ⟨rfl, ?_⟩ | refine ⟨.inr ⟨rfl, ?_⟩, ?_⟩ | refine ⟨.inl rfl, ?_⟩)) ?_
  refine W.cut [(1, .ptr 0 0 0), (3, .nils), (4, .ptr 1 1 0), (5, .ptr 2 1 0), (7, .int .u64 (q % UN : Nat))] [boxO q, .cells [.row (u64AV (digs LB (q / UN))) (digs LB (q / UN)).length] 1 1 false none, .cells [.row (u64AV (digs LB (q % UN))) (digs LB (q % UN)).length] 1 1 false none] (W.block ?_) ?_
  ·have hdg : digs LB (q % UN) = if q % UN = 0 then [] else [q % UN] := by
    split
    ·rename_i h; rw [h, digs_zero]
    ·rename_i h; exact digs_one h hmu
   refine W.while (fun m st => ∃ i : Nat, i ≤ (digs LB (q % UN)).length ∧ m = (digs LB (q % UN)).length - i ∧ st = ⟨[(1, .ptr 0 0 0), (3, .nils), (4, .ptr 1 1 0), (5, .ptr 2 1 0), (7, .int .u64 (if i = 0 then 0 else q % UN : Nat)), (27, .row (u64AV (digs LB (q % UN))) (digs LB (q % UN)).length), (28, .int .i64 (digs LB (q % UN)).length), (29, .int .i64 i)], [boxO q, .cells [.row (u64AV (digs LB (q / UN))) (digs LB (q / UN)).length] 1 1 false none, .cells [.row (u64AV (digs LB (q % UN))) (digs LB (q % UN)).length] 1 1 false none]⟩) (digs LB (q % UN)).length
    ⟨0, by omega, rfl, rfl⟩ (by refine ⟨?_, ?_, rfl, Nat.le_of_ble_eq_true rfl⟩ <;> repeat (first | exact trivial | exact rfl | refine ⟨rfl, ?_⟩ | refine ⟨.inr ⟨rfl, ?_⟩, ?_⟩ | refine ⟨.inl rfl, ?_⟩)) ?_
   rintro m _ ⟨i, hi, rfl, rfl⟩
   by_cases hlt : i < (digs LB (q % UN)).length
   ·have hr0 : q % UN ≠ 0 := by
     intro h; rw [h, digs_zero] at hlt; simp at hlt
    rw [hdg, if_neg hr0] at hlt hi
    have hi0 : i = 0 := by simp at hlt; exact hlt
    subst hi0
    have hget : (u64AV (digs LB (q % UN)))[0]? = some (.int .u64 (q % UN : Nat)) := by rw [hdg, if_neg hr0]; rfl
    have hlen1 : (digs LB (q % UN)).length = 1 := by rw [hdg, if_neg hr0]; rfl
    refine W.seq (W.region ?_)
    refine z_T (show ((0 : Nat) : Int) < (digs LB (q % UN)).length by rw [hlen1]; decide) ?_
    refine WL.nil ?_
    refine W.seq (W.cond_true rfl (W.skip ?_))
    refine W.seq (W.block ?_)
    refine W.seq (W.region ?_)
    refine sp (v_indexAddr_row rfl rfl rfl rfl rfl rfl (by omega) (by omega) (u64AV_ne (i := 0) (by omega))) rfl rfl rfl ?_
    refine sp (v_load_radr rfl rfl rfl (loadc_at rfl rfl hget)) rfl rfl rfl ?_
    refine z_p ?_
    refine WL.nil ?_
    refine W.region ?_
    refine z_p ?_
    refine z_p ?_
    refine WL.nil ?_
    refine W.region ?_
    refine z_i ?_
    refine z_p ?_
    refine WL.nil ?_
    exact ⟨0, _, _, by omega, ⟨1, by omega, by omega, rfl⟩, (by refine ⟨?_, ?_, rfl, Nat.le_of_ble_eq_true rfl⟩ <;> repeat (first | exact trivial | exact rfl | refine ⟨rfl, ?_⟩ | refine ⟨.inr ⟨rfl, ?_⟩, ?_⟩ | refine ⟨.inl rfl, ?_⟩))⟩
   ·have hie : i = (digs LB (q % UN)).length := by omega
    have hval : (if i = 0 then 0 else q % UN) = q % UN := by
     rw [hie, hdg]
     by_cases h : q % UN = 0
     ·rw [if_pos h, h]; rfl
     ·rw [if_neg h]; rfl
    rw [hval]
    refine W.seq (W.region ?_)
    refine z_F (show ¬ ((i : Int) < (digs LB (q % UN)).length) by omega) ?_
    refine WL.nil ?_
    refine W.seq (W.cond_false rfl (W.exit ?_))
    exact ⟨rfl, (by refine ⟨?_, ?_, rfl, Nat.le_of_ble_eq_true rfl⟩ <;> repeat (first | exact trivial | exact rfl | refine ⟨rfl, ?_⟩ | refine ⟨.inr ⟨rfl, ?_⟩, ?_⟩ | refine ⟨.inl rfl, ?_⟩))⟩
  obtain ⟨L, hL⟩ : ∃ L : Nat, L = if q / UN = 0 then 1 else 18 := ⟨_, rfl⟩
  obtain ⟨piece, hpc⟩ : ∃ p, p = txt (max (ndig (q % UN)) L) (q % UN) := ⟨_, rfl⟩
  have hps := small_spec (q % UN) L (by simp only [LB] at hmu; omega) (by rw [hL]; split <;> omega)
  rw [← hpc] at hps
  have hstep : restT x = restT (q / UN) ++ ([] ++ [piece]).reverse.flatten := by
   rw [heq, rest_step hq0, ← hL, ← hpc]
   simp [List.append_assoc]
  have hpne : piece ≠ [] := by rw [hpc, hL]; exact rest_piece_ne q
  refine W.seq (W.region ?_)
  refine z_p ?_
  refine WL.nil ?_
  by_cases hqz : q / UN = 0
  refine W.seq (W.seq (W.region ?_))
  first | refine z_l1 ?_ | refine z_r1 ?_
  refine z_c (hzero (q / UN)) ?_
  refine WL.nil ?_
  refine W.cond (b := true) (by show some (AV.bool (decide (q / UN = 0))) = _; rw [decide_eq_true hqz]) (fun _ => ?_) (fun h => by cases h)
  refine W.region ?_
  refine z_p ?_
  refine WL.nil ?_
  rw [if_pos hqz] at hL
  refine W.fits (env0 := [(1, .ptr 0 0 0), (3, .nils), (4, .ptr 1 1 0), (5, .ptr 2 1 0), (7, .int .u64 (q % UN : Nat)), (10, .int .i64 L)]) (objs0 := [boxO q, .cells [.row (u64AV (digs LB (q / UN))) (digs LB (q / UN)).length] 1 1 false none, .cells [.row (u64AV (digs LB (q % UN))) (digs LB (q % UN)).length] 1 1 false none]) (by rw [hL]; exact (by refine ⟨?_, ?_, rfl, Nat.le_of_ble_eq_true rfl⟩ <;> repeat (first | exact trivial | exact rfl | refine ⟨rfl, ?_⟩ | refine ⟨.inr ⟨rfl, ?_⟩, ?_⟩ | refine ⟨.inl rfl, ?_⟩))) ?_
  rotate_left 1
  refine W.seq (W.seq (W.region ?_))
  first | refine z_l1 ?_ | refine z_r1 ?_
  refine z_c (hzero (q / UN)) ?_
  refine WL.nil ?_
  refine W.cond (b := false) (by show some (AV.bool (decide (q / UN = 0))) = _; rw [decide_eq_false hqz]) (fun h => by cases h) (fun _ => W.skip ?_)
  rw [if_neg hqz] at hL
  refine W.fits (env0 := [(1, .ptr 0 0 0), (3, .nils), (4, .ptr 1 1 0), (5, .ptr 2 1 0), (7, .int .u64 (q % UN : Nat)), (10, .int .i64 L)]) (objs0 := [boxO q, .cells [.row (u64AV (digs LB (q / UN))) (digs LB (q / UN)).length] 1 1 false none, .cells [.row (u64AV (digs LB (q % UN))) (digs LB (q % UN)).length] 1 1 false none]) (by rw [hL]; exact (by refine ⟨?_, ?_, rfl, Nat.le_of_ble_eq_true rfl⟩ <;> repeat (first | exact trivial | exact rfl | refine ⟨rfl, ?_⟩ | refine ⟨.inr ⟨rfl, ?_⟩, ?_⟩ | refine ⟨.inl rfl, ?_⟩))) ?_
  all_goals
   refine W.seq (W.region ?_)
   refine z_p ?_
   refine z_p ?_
   refine z_p ?_
   refine z_c (hps) ?_
   refine sq (v_buildRow rfl rfl rfl rfl rfl rfl rfl (Nat.le_of_ble_eq_true rfl) (Nat.le_of_ble_eq_true rfl) rfl rfl rfl rfl) (rfl : _ = AV.row [_] 1) rfl rfl rfl ?_
   refine sn (v_str_nil rfl rfl rfl rfl rfl rfl rfl rfl rfl rfl) (rfl : _ = AV.sl 3 0 0 [piece].length true) (rfl : _ = [_, _, _, _]) rfl rfl rfl ?_
   refine z_p ?_
   refine WL.nil ?_
   refine W.region ?_
   first | refine z_l1 ?_ | refine z_r1 ?_
   refine z_s [_, _, _, _] ?_
   refine WL.nil ?_
   exact ⟨q / UN, _, _, Nat.div_lt_self (by omega) (by decide), ⟨[] ++ [piece], 0, q / UN, rfl, Nat.le_trans (Nat.div_le_self _ _) hqx, hstep, (fun g hg => by
    rcases List.mem_append.1 hg with hg | hg
    ·exact hgne g hg
    ·rw [List.mem_singleton] at hg; subst hg; exact hpne), (fun h => by simp at h), rfl⟩, (by first | exact (by refine ⟨?_, ?_, rfl, Nat.le_of_ble_eq_true rfl⟩ <;> repeat (first | exact trivial | exact rfl | refine ⟨rfl, ?_⟩ | refine ⟨.inr ⟨rfl, ?_⟩, ?_⟩ | refine ⟨.inl rfl, ?_⟩)) | exact ⟨⟨rfl, rfl, trivial⟩, ⟨.inr ⟨rfl, rfl⟩, .inl rfl, .inl rfl, .inr ⟨rfl, trivial⟩, trivial⟩, rfl, Nat.zero_le _⟩)⟩
 ·by_cases hq0 : q = 0
  ·subst hq0
   obtain ⟨gs, hgs⟩ : ∃ gs, gs = g0 :: gr := ⟨_, rfl⟩
   simp only [pst]
   rw [← hgs] at heq hgne hgl ⊢
   have hgp : 0 < gs.length := by rw [hgs]; simp
   clear hgs hgq
   have hrest : restT x = gs.reverse.flatten := by rw [heq]; simp [restT]
   have hxt : restT x = decText x := by rw [restT, if_neg hx0]
   have hne : decText x ≠ [] := by
    intro h
    have h1 := congrArg List.length h
    rw [decText_length] at h1
    have := ndig_pos hx0
    rw [List.length_nil] at h1; omega
   have hlen : ∀ i : Nat, ((gs.drop i).reverse.flatten).length ≤ 20000000 := by
    intro i
    have h1 : gs.reverse.flatten = (gs.drop i).reverse.flatten ++ (gs.take i).reverse.flatten := by
     rw [← List.flatten_append, ← List.reverse_append, List.take_append_drop]
    have h2 := congrArg List.length h1
    rw [← hrest, List.length_append] at h2
    omega
   have hsnoc : ∀ (i : Nat) (hi : i < gs.length), (gs.drop i).reverse.flatten = (gs.drop (i + 1)).reverse.flatten ++ gs[i] := by
    intro i hi
    rw [List.drop_eq_getElem_cons hi, List.reverse_cons, List.flatten_append]; simp
   refine W.seq (W.seq (W.region ?_))
   first | refine z_l1 ?_ | refine z_r1 ?_
   refine z_c (hzero 0) ?_
   refine sq (v_pure rfl) (show _ = AV.bool false from by simp) rfl rfl rfl ?_
   refine WL.nil ?_
   refine W.cond_false rfl (W.exit ?_)
   refine W.seq (W.region ?_)
   refine sn (v_allocT rfl rfl rfl rfl rfl) rfl (rfl : _ = [_, _, _, _, bldO .nilp .nils]) rfl rfl rfl ?_
   refine WL.nil ?_
   refine W.seq (W.seq (W.region ?_))
   refine z_p ?_
   first | refine z_n ?_ | refine z_m ?_ | refine z_k ?_
   refine z_i ?_
   refine z_p ?_
   refine WL.nil ?_
   refine W.block ?_
   refine W.while (fun m st => m ≤ gs.length ∧ ((m = gs.length ∧ st = ⟨[(1, .ptr 0 0 0), (3, .sl 3 v 0 gs.length true), (11, .ptr 4 0 0), (12, .int .i64 ((m : Int) - 1))], [boxO 0, .dead, .dead, .cells (strsAV gs) v 1 true (some 9), bldO .nilp .nils]⟩) ∨
     (m < gs.length ∧ ∃ ver, st = ⟨[(1, .ptr 0 0 0), (3, .sl 3 v 0 gs.length true), (11, .ptr 4 0 0), (12, .int .i64 ((m : Int) - 1))], [boxO 0, .dead, .dead, .cells (strsAV gs) v 1 true (some 9), bldO (.ptr 4 0 0) (.sl 5 ver 0 ((gs.drop m).reverse.flatten).length true), .cells (bytesAV ((gs.drop m).reverse.flatten)) ver 1 true (some 5)]⟩))) gs.length
    ⟨Nat.le_refl _, .inl ⟨rfl, rfl⟩⟩ (by refine ⟨?_, ?_, rfl, Nat.le_of_ble_eq_true rfl⟩ <;> repeat (first | exact trivial | exact rfl | refine ⟨rfl, ?_⟩ | refine ⟨.inr ⟨rfl, ?_⟩, ?_⟩ | refine ⟨.inl rfl, ?_⟩)) ?_
   rintro m _ ⟨hml, ⟨rfl, rfl⟩ | ⟨hlt, ver, rfl⟩⟩
   ·obtain ⟨i, hi⟩ : ∃ i, gs.length = i + 1 := ⟨gs.length - 1, by omega⟩
    have hil : i < gs.length := by omega
    have hget : (strsAV gs)[0 + (i : Int).toNat * 1]? = some (.str gs[i]) := by
     rw [show 0 + (i : Int).toNat * 1 = i by simp]; exact strsAV_get hil
    have hti : ((gs.length : Nat) : Int) - 1 = (i : Int) := by omega
    rw [hti]
    have ht := hgne _ (List.getElem_mem hil)
    have htl : gs[i].length ≤ 140737488355328 := by
     have h1 := hlen i
     rw [hsnoc i hil, List.length_append] at h1
     omega
    refine W.seq (W.seq (W.region ?_))
    refine z_p ?_
    refine z_T (show (i : Int) ≥ 0 by omega) ?_
    refine WL.nil ?_
    refine W.cond_true rfl (W.skip ?_)
    refine W.seq (W.block ?_)
    refine W.region ?_
    refine z_p ?_
    refine z_p ?_
    refine sp (v_indexAddr rfl rfl rfl rfl rfl rfl rfl (by omega) (by omega)) rfl rfl rfl ?_
    refine sp (v_load rfl rfl rfl rfl (loadc_i rfl rfl hget)) rfl rfl rfl ?_
    refine bw_fresh gs[i] rfl rfl rfl rfl ht htl rfl rfl rfl ?_
    refine WL.nil ?_
    refine W.region ?_
    refine z_p ?_
    refine z_i ?_
    refine z_p ?_
    refine WL.nil ?_
    refine ⟨i, _, _, by omega, ⟨by omega, .inr ⟨hil, 0, rfl⟩⟩, ?_⟩
    have e : (gs.drop i).reverse.flatten = gs[i] := by
     rw [hsnoc i hil, List.drop_eq_nil_of_le (by omega)]; simp
    rw [e]
    exact (by refine ⟨?_, ?_, rfl, Nat.le_of_ble_eq_true rfl⟩ <;> repeat (first | exact trivial | exact rfl | refine ⟨rfl, ?_⟩ | refine ⟨.inr ⟨rfl, ?_⟩, ?_⟩ | refine ⟨.inl rfl, ?_⟩))
   ·rcases m with _ | i
    ·skip
     refine W.seq (W.seq (W.region ?_))
     refine z_p ?_
     refine z_F (show ¬ ((0 : Nat) : Int) - 1 ≥ 0 by omega) ?_
     refine WL.nil ?_
     refine W.cond_false rfl (W.exit ?_)
     have hs : (gs.drop 0).reverse.flatten = decText x := by rw [List.drop_zero, ← hrest, hxt]
     have hl0 := hlen 0
     rw [hs] at hl0 ⊢
     refine W.seq (W.region ?_)
     refine bs_used (decText x) 5 ver rfl rfl rfl rfl rfl hne (by omega) rfl rfl rfl ?_
     refine z_p ?_
     refine WL.nil ?_
     exact W.ret (fin rfl (.shut (.plain rfl) .nil) rfl)
    ·have hil : i < gs.length := by omega
     have hget : (strsAV gs)[0 + (i : Int).toNat * 1]? = some (.str gs[i]) := by
      rw [show 0 + (i : Int).toNat * 1 = i by simp]; exact strsAV_get hil
     have hti : ((i + 1 : Nat) : Int) - 1 = (i : Int) := by omega
     rw [hti]
     have htl := hlen i
     rw [hsnoc i hil, List.length_append] at htl
     refine W.seq (W.seq (W.region ?_))
     refine z_p ?_
     refine z_T (show (i : Int) ≥ 0 by omega) ?_
     refine WL.nil ?_
     refine W.cond_true rfl (W.skip ?_)
     refine W.seq (W.block ?_)
     refine W.region ?_
     refine z_p ?_
     refine z_p ?_
     refine sp (v_indexAddr rfl rfl rfl rfl rfl rfl rfl (by omega) (by omega)) rfl rfl rfl ?_
     refine sp (v_load rfl rfl rfl rfl (loadc_i rfl rfl hget)) rfl rfl rfl ?_
     refine bw_used ((gs.drop (i + 1)).reverse.flatten) gs[i] 5 ver (by decide) rfl rfl rfl rfl rfl (by omega) rfl rfl rfl ?_
     refine WL.nil ?_
     refine W.region ?_
     refine z_p ?_
     refine z_i ?_
     refine z_p ?_
     refine WL.nil ?_
     rw [← hsnoc i hil]
     exact ⟨i, _, _, by omega, ⟨by omega, .inr ⟨hil, ver + 1, rfl⟩⟩, (by refine ⟨?_, ?_, rfl, Nat.le_of_ble_eq_true rfl⟩ <;> repeat (first | exact trivial | exact rfl | refine ⟨rfl, ?_⟩ | refine ⟨.inr ⟨rfl, ?_⟩, ?_⟩ | refine ⟨.inl rfl, ?_⟩))⟩
  ·skip
   have hun : UN ≠ 0 := by decide
   have hdiv := div1_spec q UN hq hun (by decide)
   have hlim := limbs_spec (digs LB (q % UN)) (by have := hq.of_le (Nat.mod_le q UN); simp only [Lim] at this; omega)
   have hmu : q % UN < LB := Nat.lt_trans (Nat.mod_lt _ (by decide)) (by decide)
   refine W.seq (W.seq (W.region ?_))
   first | refine z_l1 ?_ | refine z_r1 ?_
   refine z_c (hzero q) ?_
   refine sq (v_pure rfl) (show _ = AV.bool true from by simp [hq0]) rfl rfl rfl ?_
   refine WL.nil ?_
   refine W.cond_true rfl (W.skip ?_)
   refine W.block ?_
   refine W.seq (W.middleS mixed [(4, .cells [.nils] 1 1 false none), (5, .cells [.nils] 1 1 false none)] [19, 20, 21, 22, 18, 23, 24, 25, 4, 5] [6, 7] [] [0, 1, 2, 3, 4, 5, 8, 9] 2 rfl rfl rfl rfl rfl rfl rfl rfl rfl rfl ?_)
   apply MidVS.step
   ·rfl
   ·intro mo more
    first | refine z_l1 ?_ | refine z_r1 ?_
    exact z_e
   apply MidVS.step
   ·rfl
   ·intro mo more
    refine sq (v_buildRow rfl rfl rfl rfl rfl rfl rfl (Nat.le_of_ble_eq_true rfl) (Nat.le_of_ble_eq_true rfl) rfl rfl rfl rfl) (rfl : _ = AV.row [_] 1) rfl rfl rfl ?_
    exact z_e
   apply MidVS.step
   ·rfl
   ·intro mo more
    refine z_c (hof) ?_
    exact z_e
   apply MidVS.step
   ·rfl
   ·intro mo more
    refine z_c (hdiv) ?_
    exact z_e
   apply MidVS.step
   ·rfl
   ·intro mo more
    refine z_p ?_
    exact z_e
   apply MidVS.step
   ·rfl
   ·intro mo more
    refine z_p ?_
    exact z_e
   refine MidVS.alloc 0 4 rfl rfl rfl rfl rfl rfl rfl rfl rfl rfl ?_
   refine MidVS.alloc 1 5 rfl rfl rfl rfl rfl rfl rfl rfl rfl rfl ?_
   refine MidVS.done ?_
   apply MidP.step
   ·intro objs more
    refine z_p ?_
    exact z_e
   apply MidP.step
   ·intro objs more
    refine z_p ?_
    exact z_e
   refine MidP.done ?_
   apply MidMP.eff rfl
   ·intro more
    refine z_s [_, _, _, _, _, _] ?_
    exact z_e
   apply MidMP.eff rfl
   ·intro more
    refine z_s [_, _, _, _, _, _] ?_
    exact z_e
   refine MidMP.done ?_
   refine MidFS.done ?_
   refine z_p ?_
   refine WL.nil ?_
   refine W.seq (W.region ?_)
   refine z_p ?_
   refine WL.nil ?_
   refine W.seq (W.seq (W.region ?_))
   first | refine z_l1 ?_ | refine z_r1 ?_
   refine z_c (hlim) ?_
   first | refine z_n ?_ | refine z_m ?_ | refine z_k ?_
   refine z_p ?_
   refine WL.nil ?_
   refine W.fits (env0 := [(1, .ptr 0 0 0), (3, .sl 3 v 0 (g0 :: gr).length true), (4, .ptr 4 1 0), (5, .ptr 5 1 0), (7, .int .u64 0), (27, .row (u64AV (digs LB (q % UN))) (digs LB (q % UN)).length), (28, .int .i64 (digs LB (q % UN)).length), (29, .int .i64 0)]) (objs0 := [boxO q, AObj.dead, AObj.dead, .cells (strsAV (g0 :: gr)) v 1 true (some 9), .cells [.row (u64AV (digs LB (q / UN))) (digs LB (q / UN)).length] 1 1 false none, .cells [.row (u64AV (digs LB (q % UN))) (digs LB (q % UN)).length] 1 1 false none]) (by refine ⟨?_, ?_, rfl, Nat.le_of_ble_eq_true rfl⟩ <;> repeat (first | exact trivial | exact rfl | refine ⟨rfl, ?_⟩ | refine ⟨.inr ⟨rfl, ?_⟩, ?_⟩ | refine ⟨.inl rfl, ?_⟩)) ?_
   refine W.cut [(1, .ptr 0 0 0), (3, .sl 3 v 0 (g0 :: gr).length true), (4, .ptr 4 1 0), (5, .ptr 5 1 0), (7, .int .u64 (q % UN : Nat))] [boxO q, AObj.dead, AObj.dead, .cells (strsAV (g0 :: gr)) v 1 true (some 9), .cells [.row (u64AV (digs LB (q / UN))) (digs LB (q / UN)).length] 1 1 false none, .cells [.row (u64AV (digs LB (q % UN))) (digs LB (q % UN)).length] 1 1 false none] (W.block ?_) ?_
   ·have hdg : digs LB (q % UN) = if q % UN = 0 then [] else [q % UN] := by
     split
     ·rename_i h; rw [h, digs_zero]
     ·rename_i h; exact digs_one h hmu
    refine W.while (fun m st => ∃ i : Nat, i ≤ (digs LB (q % UN)).length ∧ m = (digs LB (q % UN)).length - i ∧ st = ⟨[(1, .ptr 0 0 0), (3, .sl 3 v 0 (g0 :: gr).length true), (4, .ptr 4 1 0), (5, .ptr 5 1 0), (7, .int .u64 (if i = 0 then 0 else q % UN : Nat)), (27, .row (u64AV (digs LB (q % UN))) (digs LB (q % UN)).length), (28, .int .i64 (digs LB (q % UN)).length), (29, .int .i64 i)], [boxO q, AObj.dead, AObj.dead, .cells (strsAV (g0 :: gr)) v 1 true (some 9), .cells [.row (u64AV (digs LB (q / UN))) (digs LB (q / UN)).length] 1 1 false none, .cells [.row (u64AV (digs LB (q % UN))) (digs LB (q % UN)).length] 1 1 false none]⟩) (digs LB (q % UN)).length
     ⟨0, by omega, rfl, rfl⟩ (by refine ⟨?_, ?_, rfl, Nat.le_of_ble_eq_true rfl⟩ <;> repeat (first | exact trivial | exact rfl | refine ⟨rfl, ?_⟩ | refine ⟨.inr ⟨rfl, ?_⟩, ?_⟩ | refine ⟨.inl rfl, ?_⟩)) ?_
    rintro m _ ⟨i, hi, rfl, rfl⟩
    by_cases hlt : i < (digs LB (q % UN)).length
    ·have hr0 : q % UN ≠ 0 := by
      intro h; rw [h, digs_zero] at hlt; simp at hlt
     rw [hdg, if_neg hr0] at hlt hi
     have hi0 : i = 0 := by simp at hlt; exact hlt
     subst hi0
     have hget : (u64AV (digs LB (q % UN)))[0]? = some (.int .u64 (q % UN : Nat)) := by rw [hdg, if_neg hr0]; rfl
     have hlen1 : (digs LB (q % UN)).length = 1 := by rw [hdg, if_neg hr0]; rfl
     refine W.seq (W.region ?_)
     refine z_T (show ((0 : Nat) : Int) < (digs LB (q % UN)).length by rw [hlen1]; decide) ?_
     refine WL.nil ?_
     refine W.seq (W.cond_true rfl (W.skip ?_))
     refine W.seq (W.block ?_)
     refine W.seq (W.region ?_)
     refine sp (v_indexAddr_row rfl rfl rfl rfl rfl rfl (by omega) (by omega) (u64AV_ne (i := 0) (by omega))) rfl rfl rfl ?_
     refine sp (v_load_radr rfl rfl rfl (loadc_at rfl rfl hget)) rfl rfl rfl ?_
     refine z_p ?_
     refine WL.nil ?_
     refine W.region ?_
     refine z_p ?_
     refine z_p ?_
     refine WL.nil ?_
     refine W.region ?_
     refine z_i ?_
     refine z_p ?_
     refine WL.nil ?_
     exact ⟨0, _, _, by omega, ⟨1, by omega, by omega, rfl⟩, (by refine ⟨?_, ?_, rfl, Nat.le_of_ble_eq_true rfl⟩ <;> repeat (first | exact trivial | exact rfl | refine ⟨rfl, ?_⟩ | refine ⟨.inr ⟨rfl, ?_⟩, ?_⟩ | refine ⟨.inl rfl, ?_⟩))⟩
    ·have hie : i = (digs LB (q % UN)).length := by omega
     have hval : (if i = 0 then 0 else q % UN) = q % UN := by
      rw [hie, hdg]
      by_cases h : q % UN = 0
      ·rw [if_pos h, h]; rfl
      ·rw [if_neg h]; rfl
     rw [hval]
     refine W.seq (W.region ?_)
     refine z_F (show ¬ ((i : Int) < (digs LB (q % UN)).length) by omega) ?_
     refine WL.nil ?_
     refine W.seq (W.cond_false rfl (W.exit ?_))
     exact ⟨rfl, (by refine ⟨?_, ?_, rfl, Nat.le_of_ble_eq_true rfl⟩ <;> repeat (first | exact trivial | exact rfl | refine ⟨rfl, ?_⟩ | refine ⟨.inr ⟨rfl, ?_⟩, ?_⟩ | refine ⟨.inl rfl, ?_⟩))⟩
   obtain ⟨L, hL⟩ : ∃ L : Nat, L = if q / UN = 0 then 1 else 18 := ⟨_, rfl⟩
   obtain ⟨piece, hpc⟩ : ∃ p, p = txt (max (ndig (q % UN)) L) (q % UN) := ⟨_, rfl⟩
   have hps := small_spec (q % UN) L (by simp only [LB] at hmu; omega) (by rw [hL]; split <;> omega)
   rw [← hpc] at hps
   have hstep : restT x = restT (q / UN) ++ ((g0 :: gr) ++ [piece]).reverse.flatten := by
    rw [heq, rest_step hq0, ← hL, ← hpc]
    simp [List.append_assoc]
   have hpne : piece ≠ [] := by rw [hpc, hL]; exact rest_piece_ne q
   refine W.seq (W.region ?_)
   refine z_p ?_
   refine WL.nil ?_
   by_cases hqz : q / UN = 0
   refine W.seq (W.seq (W.region ?_))
   first | refine z_l1 ?_ | refine z_r1 ?_
   refine z_c (hzero (q / UN)) ?_
   refine WL.nil ?_
   refine W.cond (b := true) (by show some (AV.bool (decide (q / UN = 0))) = _; rw [decide_eq_true hqz]) (fun _ => ?_) (fun h => by cases h)
   refine W.region ?_
   refine z_p ?_
   refine WL.nil ?_
   rw [if_pos hqz] at hL
   refine W.fits (env0 := [(1, .ptr 0 0 0), (3, .sl 3 v 0 (g0 :: gr).length true), (4, .ptr 4 1 0), (5, .ptr 5 1 0), (7, .int .u64 (q % UN : Nat)), (10, .int .i64 L)]) (objs0 := [boxO q, AObj.dead, AObj.dead, .cells (strsAV (g0 :: gr)) v 1 true (some 9), .cells [.row (u64AV (digs LB (q / UN))) (digs LB (q / UN)).length] 1 1 false none, .cells [.row (u64AV (digs LB (q % UN))) (digs LB (q % UN)).length] 1 1 false none]) (by rw [hL]; exact (by refine ⟨?_, ?_, rfl, Nat.le_of_ble_eq_true rfl⟩ <;> repeat (first | exact trivial | exact rfl | refine ⟨rfl, ?_⟩ | refine ⟨.inr ⟨rfl, ?_⟩, ?_⟩ | refine ⟨.inl rfl, ?_⟩))) ?_
   rotate_left 1
   refine W.seq (W.seq (W.region ?_))
   first | refine z_l1 ?_ | refine z_r1 ?_
   refine z_c (hzero (q / UN)) ?_
   refine WL.nil ?_
   refine W.cond (b := false) (by show some (AV.bool (decide (q / UN = 0))) = _; rw [decide_eq_false hqz]) (fun h => by cases h) (fun _ => W.skip ?_)
   rw [if_neg hqz] at hL
   refine W.fits (env0 := [(1, .ptr 0 0 0), (3, .sl 3 v 0 (g0 :: gr).length true), (4, .ptr 4 1 0), (5, .ptr 5 1 0), (7, .int .u64 (q % UN : Nat)), (10, .int .i64 L)]) (objs0 := [boxO q, AObj.dead, AObj.dead, .cells (strsAV (g0 :: gr)) v 1 true (some 9), .cells [.row (u64AV (digs LB (q / UN))) (digs LB (q / UN)).length] 1 1 false none, .cells [.row (u64AV (digs LB (q % UN))) (digs LB (q % UN)).length] 1 1 false none]) (by rw [hL]; exact (by refine ⟨?_, ?_, rfl, Nat.le_of_ble_eq_true rfl⟩ <;> repeat (first | exact trivial | exact rfl | refine ⟨rfl, ?_⟩ | refine ⟨.inr ⟨rfl, ?_⟩, ?_⟩ | refine ⟨.inl rfl, ?_⟩))) ?_
   all_goals
    refine W.seq (W.region ?_)
    refine z_p ?_
    refine z_p ?_
    refine z_p ?_
    refine z_c (hps) ?_
    refine sq (v_buildRow rfl rfl rfl rfl rfl rfl rfl (Nat.le_of_ble_eq_true rfl) (Nat.le_of_ble_eq_true rfl) rfl rfl rfl rfl) (rfl : _ = AV.row [_] 1) rfl rfl rfl ?_
    refine sn (v_str_own rfl rfl rfl rfl rfl rfl rfl rfl rfl rfl rfl (by omega)) rfl (rfl : _ = [_, _, _, _, _, _]) rfl rfl rfl ?_
    refine z_p ?_
    refine WL.nil ?_
    refine W.region ?_
    first | refine z_l1 ?_ | refine z_r1 ?_
    refine z_s [_, _, _, _, _, _] ?_
    refine WL.nil ?_
    exact ⟨q / UN, _, _, Nat.div_lt_self (by omega) (by decide), ⟨(g0 :: gr) ++ [piece], v + 1, q / UN, rfl, Nat.le_trans (Nat.div_le_self _ _) hqx, hstep, (fun g hg => by
     rcases List.mem_append.1 hg with hg | hg
     ·exact hgne g hg
     ·rw [List.mem_singleton] at hg; subst hg; exact hpne), (fun h => by simp at h), rfl⟩, (by first | exact (by refine ⟨?_, ?_, rfl, Nat.le_of_ble_eq_true rfl⟩ <;> repeat (first | exact trivial | exact rfl | refine ⟨rfl, ?_⟩ | refine ⟨.inr ⟨rfl, ?_⟩, ?_⟩ | refine ⟨.inl rfl, ?_⟩)) | exact ⟨⟨rfl, rfl, trivial⟩, ⟨.inr ⟨rfl, rfl⟩, .inl rfl, .inl rfl, .inr ⟨rfl, trivial⟩, trivial⟩, rfl, Nat.zero_le _⟩)⟩
end Go.Proofs.YtejpblopbdgkaaaGreatDoor

set_option linter.unusedVariables false
set_option linter.unusedSimpArgs false
namespace Go.Proofs.YtejpblopbdgkaaaGreatDoor
open Go Go.Lens
/-! ### numbers -/
@[simp] theorem natAV_plain (x : Nat) : (natAV x).plain = true := natRow_plain _
theorem Lim.of_lt {x k : Nat} (h : x < LB ^ k) (hk : k ≤ 1000000) : Lim x := Nat.le_trans (digs_length (by decide) h) hk
theorem LB_pow2 (k : Nat) : LB ^ k = 2 ^ (64 * k) := by rw [Nat.pow_mul, show (2 : Nat) ^ 64 = LB by decide]
theorem Lim.of_bits {x k : Nat} (h : x < 2 ^ k) (hk : k ≤ 63000000) : Lim x := by
 refine Lim.of_lt (k := k / 64 + 1) (Nat.lt_of_lt_of_le h ?_) (by omega)
 rw [LB_pow2]
 exact Nat.pow_le_pow_right (by decide) (by omega)
theorem natAdd (x y : Nat) (hx : Lim x) (hy : Lim y) : Does Tryz.prog 119 [natAV x, natAV y] (natAV (x + y)) := by
 have := add_spec (digs LB x) (digs LB y) (digs_canon (by decide) x).1 (digs_canon (by decide) y).1 hx hy
 rwa [digs_val (by decide), digs_val (by decide)] at this
theorem natOf (l : List Nat) (hs : Small LB l) (hl : l.length ≤ 1000000) : Does Tryz.prog 8 [.row (u64AV l) l.length] (natAV (val LB l)) := by
 have := of_spec l (by omega)
 rwa [trim_digs (B := LB) (by decide) hs] at this
theorem natOf1 (x : Nat) (hx : x < LB) : Does Tryz.prog 8 [.row (u64AV [x]) 1] (natAV x) := by
 have := natOf [x] (fun y hy => by rw [List.mem_singleton] at hy; subst hy; exact hx) (by simp)
 rwa [show val LB [x] = x by simp [val]] at this
/-! ### bits -/
/-! ### Length -/
theorem decText_len_le (x : Nat) (hx : Lim x) : (decText x).length ≤ 20000001 := by
 by_cases h0 : x = 0
 ·rw [decText, if_pos h0]; simp
 ·rw [decText_length]
  have := ndig_lim hx
  omega
/-! ### powers -/
end Go.Proofs.YtejpblopbdgkaaaGreatDoor

set_option linter.unusedVariables false
set_option linter.unusedSimpArgs false
namespace Go.Lens
open Go Go.RowKit
theorem v_append_nilS {C : Ctx} {o : Oper} {env : List (Nat × AV)} {objs : List AObj} {s x : Operand} {t e : TypeId} {y ye : Ty} {c : AV} {m j : Nat} {ds : List AV} {z : List Value} (hjs : objs[j]? = some .slot) (hjk : C.k ≤ j) (hop : o.op = .call { callee := .builtin .append, args := #[s, x], argTypes := #[t, t] })
  (hs : ev ⟨env, objs⟩ s = some .nils) (hx : ev ⟨env, objs⟩ x = some c) (hy : C.T.at t = some y) (hk : y.k = .slice e) (hye : C.T.at e = some ye) (hz : ye.zero = some z) (hzl : z.length = ye.size) (hsz : 0 < ye.size)
  (hsrc : SrcAV objs c m ye.size ds) (hm : 0 < m) (hone : ∀ d ∈ ds, d.oneB = true) (hbound : m ≤ 9223372036854775807) (hbytes : m * ye.bytes ≤ 140737488355328) :
  VStep C o ⟨env, objs⟩ (.sl j 1 0 m true) (objs.set j (.cells ds 1 ye.size true (some e))) := by
 intro H a w hi
 have h1 := ev_rel hi hs
 simp only [RelV] at h1
 obtain ⟨ad, cap, news, h2, h3, h4, h5⟩ := src_rel hi hsrc hm hsz (ev_rel hi hx)
 obtain ⟨d, i, hd, _, hkd, _⟩ := C.ty hy
 rw [hk] at hkd
 obtain rfl := kOf_slice hkd
 obtain ⟨de, ie, hde, hie, _, hss, hbb, hzz⟩ := C.ty hye
 rw [hz] at hzz
 obtain ⟨z0, hz0, hz1⟩ := Option.map_eq_some_iff.1 hzz.symm
 have hones : ∀ u ∈ news, u.oneCell' = true := by
  intro u hu
  obtain ⟨j, hj⟩ := List.getElem?_of_mem hu
  have hjl : j < ds.length := by rw [h3.length]; exact (List.getElem?_eq_some_iff.1 hj).1
  obtain ⟨u', hu', hru⟩ := h3.get j ds[j] (by simp [hjl])
  rw [hj] at hu'; injection hu' with hu'; subst hu'
  have : One ([] : List AObj) ds[j] := One.of_oneB (hone _ (List.getElem_mem hjl))
  exact (this.cell (H := H.bare) (w := w) ⟨rfl, fun _ _ h => by simp at h, fun _ _ _ _ h => by simp at h, hi.objs.lt⟩ hru).1
 obtain ⟨v', w', r1, r2, r3, r4⟩ := run_append_own (P := C.P) w w.heap.size t o.type e ie z0 ye.size ye.bytes hd hie hz0 hss.symm hbb.symm (by rw [← hzl, ← hz1]; simp) hsz (.slice none 0 0) 0 [] (World.ownsRow_nil w _ e _) ad m cap news (by rw [h4]) h5 hones
  (by simp only [maxLen]; omega) (by simpa using hbytes) (Nat.le_refl _)
 simp only [Nat.zero_add, List.nil_append] at r2 r4
 obtain ⟨q1, q2⟩ := r2
 rcases q2 with ⟨rfl, q2⟩ | ⟨g, cp, cur, rfl, q3, q4, q5, q6, q7, q8⟩
 ·omega
 have hn : H.n = objs.length := hi.objs.n
 have hjl : j < objs.length := (List.getElem?_eq_some_iff.1 hjs).1
 have hv0 : H.ver j = 0 := hi.objs.rel j _ hjs
 let H' : View := { n := H.n, blk := fun o => if o = j then g else H.blk o, off := fun o => if o = j then 0 else H.off o, cap := fun o => if o = j then cp else H.cap o, ver := fun o => if o = j then 1 else H.ver o, wr := fun b => H.wr b ∨ b = g }
 have hfr : ∀ b, b < w.heap.size → w'.heap[b]? = w.heap[b]? := fun b hb => r3.block b hb (by simp [Value.ownBlock])
 have hgl : g < w'.heap.size := (Array.getElem?_eq_some_iff.1 q4).1
 have hK : Keeps w H w' H' := by
  refine ⟨fun ad u hc hx => ?_, fun b hb hw => ?_, Nat.le_refl _, fun o ho => ?_, fun o ho hvv => ?_⟩
  ·rw [World.cell?_of_block (w := w) (hfr _ (World.block_lt_of_cell? w ad hc))]; exact hc
  ·rcases hw with hw | hw
   ·exact hw
   ·omega
  ·by_cases e : o = j
   ·subst e; simp [H', hv0]
   ·simp [H', e]
  ·by_cases e : o = j
   ·subst e; simp [H', hv0] at hvv
   ·simp [H', e]
 have hget : ∀ i ob, (objs.set j (.cells ds 1 ye.size true (some e)))[i]? = some ob → (i = j ∧ ob = .cells ds 1 ye.size true (some e)) ∨ (i ≠ j ∧ objs[i]? = some ob) := by
  intro i ob hob
  by_cases e : i = j
  ·subst e
   rw [List.getElem?_set_self hjl] at hob
   injection hob with hob
   exact .inl ⟨rfl, hob.symm⟩
  ·rw [List.getElem?_set_ne (Ne.symm e)] at hob
   exact .inr ⟨e, hob⟩
 have hlive : ∀ i ob, objs[i]? = some ob → ob.live = true → H.blk i < w.heap.size := fun i ob h1 h2 => hi.objs.lt _ (hi.objs.wr_blk h1 h2)
 refine ⟨.slice (some ⟨g, 0, none⟩) m cp, w', H', ?_, ?_, ?_⟩
 ·simp only [execOp, hop, resolve, invoke, builtin, Sem.run_bind, Sem.run_pure, Result.andThen_ok, List.map_toArray, List.map_cons, List.map_nil, h1, h2, r1]
 ·refine hi.move (objs' := objs.set j (.cells ds 1 ye.size true (some e))) hK ⟨by simp [H', hn], fun i ob hob => ?_, fun i i' ob ob' h1 h2 l1 l2 hb => ?_, fun b hb => ?_⟩ (fun b hb => ⟨fun h => h.resolve_right (by have := hi.le; omega), .inl⟩) (by have := hi.klen; simp at this ⊢; omega) (fun x hx => by simp [H', show x ≠ j by omega]) (fun x cs ver esz flat own hx hob => ?_) (fun x hx => Outside.of_eq (hfr _ (Nat.lt_of_lt_of_le (C.hk x hx) hi.le)) _ _) (fun i ob hob hl => ?_) (fun b hb _ => hfr b (Nat.lt_of_lt_of_le hb hi.le)) r3.size r3.os r3.tape r3.output
  ·rcases hget i ob hob with ⟨rfl, rfl⟩ | ⟨hne, hob⟩
   ·refine ⟨by simp [H'], by simp [H'], news, cur, e, by simpa [H'] using q4, ?_, ?_, ?_⟩
    ·exact h3.keeps ds hK.bare
    ·intro k u hu
     rw [← q8, List.getElem?_take] at hu
     split at hu
     ·simpa [H'] using hu
     ·cases hu
    ·intro t' ht'
     injection ht' with ht'
     exact ⟨ht', by simp [H'], by simpa [H'] using q7, by simpa [H'] using q6, m, h4, by simpa [H'] using q5⟩
   ·by_cases hl : ob.live = true
    ·exact (hi.objs.rel i ob hob).keeps hK (by simp [H', hne]) (by simp [H', hne]) (by simp [H', hne]) (by simp [H', hne]) (fun h => .inl h) (hfr _ (hlive i ob hob hl))
    ·cases ob <;> first | trivial | (simp [AObj.live] at hl; done) | (have := hi.objs.rel i _ hob; simpa [RelO, H', hne] using this)
  ·rcases hget i ob h1 with ⟨e1, rfl⟩ | ⟨n1, g1⟩ <;> rcases hget i' ob' h2 with ⟨e2, rfl⟩ | ⟨n2, g2⟩
   ·rw [e1, e2]
   ·simp only [H', if_pos e1, if_neg n2] at hb
    have := hlive _ _ g2 l2; omega
   ·simp only [H', if_pos e2, if_neg n1] at hb
    have := hlive _ _ g1 l1; omega
   ·simp only [H', if_neg n1, if_neg n2] at hb
    exact hi.objs.inj _ _ _ _ g1 g2 l1 l2 hb
  ·rcases hb with hb | hb
   ·have := hi.objs.lt b hb; have := r3.size; omega
   ·omega
  ·rcases hget x _ hob with ⟨rfl, _⟩ | ⟨_, hob⟩
   ·omega
   ·exact hi.lens x cs ver esz flat own hx hob
  ·rcases hget i ob hob with ⟨rfl, _⟩ | ⟨hne, hob⟩
   ·exact .inr (by simp only [H', if_true]; exact Nat.le_trans hi.le q3)
   ·simp only [H', if_neg hne]; exact hi.own i ob hob hl
 ·exact ⟨by simp [H', hn]; omega, by simp [H'], fun _ => ⟨⟨g, 0, none⟩, cp, rfl, q5, fun _ => by simp [H'], fun _ => ⟨by simp [H'], rfl, by simp [H']⟩⟩⟩
def gV (j n : Nat) : AV := match n with | 0 => .nils | n + 1 => .sl j (n + 1) 0 (n + 1) true
def gO (e : TypeId) (esz : Nat) (l : List AV) (n : Nat) : AObj := match n with | 0 => .slot | n + 1 => .cells l (n + 1) esz true (some e)
/-- one element more -/
theorem v_gr {C : Ctx} {o : Oper} {env : List (Nat × AV)} {objs : List AObj} {s x : Operand} {t e : TypeId} {y ye : Ty} {n esz : Nat} {l ds : List AV} {z : List Value} (j : Nat) (hjk : Nat.ble C.k j = true) (hjs : objs[j]? = some (gO e esz l n)) (hop : o.op = .call { callee := .builtin .append, args := #[s, x], argTypes := #[t, t] })
  (hs : ev ⟨env, objs⟩ s = some (gV j n)) (hl : l.length = n * esz) (hx : ev ⟨env, objs⟩ x = some (.row ds 1)) (hds : ds.length = esz) (hy : C.T.at t = some y) (hk : y.k = .slice e)
  (hye : C.T.at e = some ye) (hz : ye.zero = some z) (hzl : z.length = ye.size) (hesz : ye.size = esz) (hsz : 0 < ye.size) (hone : ds.all AV.oneB = true) (hbytes : (n + 1) * ye.bytes ≤ 140737488355328) (hn : n + 1 ≤ 9223372036854775807) :
  VStep C o ⟨env, objs⟩ (gV j (n + 1)) (objs.set j (gO e esz (l ++ ds) (n + 1))) := by
 subst hesz
 have hone' : ∀ d ∈ ds, d.oneB = true := fun d hd => List.all_eq_true.1 hone d hd
 cases n with
 | zero =>
  have h0 : l = [] := List.length_eq_zero_iff.1 (by simpa using hl)
  subst h0
  exact v_append_nilS (m := 1) (ds := ds) hjs (Nat.le_of_ble_eq_true hjk) hop hs hx hy hk hye hz hzl hsz (.inr (.inl ⟨rfl, by simpa using hds⟩)) (by omega) hone' (by omega) (by simpa using hbytes)
 | succ n =>
  exact v_append_own (m := 1) (ds := ds) hop hs hjs hl hx hy hk hye hz hzl hsz (.inr (.inl ⟨rfl, by simpa using hds⟩)) hone' (by omega) hbytes
end Go.Lens

set_option linter.unusedVariables false
set_option linter.unusedSimpArgs false
namespace Go.Lens
open Go Go.RowKit
mutual
/-- the data that came in, as abstract values -/
def avOf {H : Type} : DataW H → List AV
  | .lit (.int k n) => [.int k n]
  | .lit (.bool b) => [.bool b]
  | .lit (.string l) => [.str l]
  | .nil => [.nils]
  | .slice ds _ => [.row (avOfL ds) ds.length]
  | .agg ds => avOfL ds
  | _ => [.any]
def avOfL {H : Type} : List (DataW H) → List AV
  | [] => []
  | d :: ds => avOf d ++ avOfL ds
end
/-- what is left behind by a call to which nothing was handed to be written -/
theorem Left.below {w : World} {H : View} {w' : World} {H' : View} (h : Left w H [] w' H' []) : Below w.heap.size w w' :=
 ⟨h.os, h.tape, h.output, h.size, fun k hk => h.frame k hk (fun o ob ho => by simp at ho)⟩
/-- the view of a call's beginning: nothing is known, nothing may be written -/
def View.none : View := ⟨0, fun _ => 0, fun _ => 0, fun _ => 0, fun _ => 0, fun _ => False⟩
theorem Objs.none (w : World) : Objs w View.none [] := ⟨rfl, fun o ob h => by simp at h, fun o o' ob ob' h => by simp at h, fun b h => h.elim⟩
/-- a law that answers true leaves the world as it was -/
theorem Does.calls {P : Program} {f : FuncId} {args : List AV} {r : AV} (h : Does P f args r) {w : World} {vs : List Value} (hr : RelL w args View.none vs) :
  Calls P f vs.toArray w fun e w' => ∃ v H', e = .returned v ∧ RelV w' r H' v ∧ Below w.heap.size w w' := by
 refine (h.2 View.none w vs (Objs.none w) hr).mono fun e w' ⟨r', os, H', v, he, ⟨h1, h2⟩, h3, h4⟩ => ?_
 subst h1; subst h2
 exact ⟨v, H', he, h3, h4.below⟩
/-- the fields lie one behind the other, and fill the whole -/
def tiles (T : Tab) (size : Nat) : Nat → List (Nat × TypeId) → Bool
  | n, [] => n == size
  | n, (off, t) :: fs => off == n && (match T.at t with | some y => tiles T size (n + y.size) fs | none => false)
/-- a type of whole numbers, truth values, strings, and of structs, arrays and slices of such -/
def goodT (T : Tab) : Nat → TypeId → Bool
  | 0, _ => false
  | f + 1, t => match T.at t with
    | some y => (match y.k with
      | .int _ => y.size == 1
      | .bool => y.size == 1
      | .string => y.size == 1
      | .slice e => y.size == 1 && goodT T f e
      | .array n e => goodT T f e && (match T.at e with | some ye => y.size == n * ye.size | none => false)
      | .struct fs => tiles T y.size 0 fs && fs.all (fun q => goodT T f q.2)
      | _ => false)
    | none => false
theorem mapM_some {α β : Type} {f : α → Option β} : ∀ {l : List α} {r : List β}, l.mapM f = some r → l.length = r.length ∧ ∀ (j : Nat) (x : α), l[j]? = some x → ∃ y, r[j]? = some y ∧ f x = some y
 | [], r, h => by simp at h; subst h; exact ⟨rfl, fun j x h => by simp at h⟩
 | a :: l, r, h => by
  simp only [List.mapM_cons, Option.bind_eq_bind, Option.pure_def] at h
  obtain ⟨b, h1, h2⟩ := Option.bind_eq_some_iff.1 h
  obtain ⟨r', h3, h4⟩ := Option.bind_eq_some_iff.1 h2
  injection h4 with h4; subst h4
  obtain ⟨k1, k2⟩ := mapM_some h3
  refine ⟨by simp [k1], fun j x hj => ?_⟩
  cases j with
  | zero => simp at hj; subst hj; exact ⟨b, rfl, h1⟩
  | succ j => simpa using k2 j x (by simpa using hj)
theorem tabTy {P : Program} {T : Tab} (ok : TabOK P T) {t : TypeId} {y : Ty} (h : T.at t = some y) : ∃ d i, P.underlying t = some d ∧ P.info? t = some i ∧ y.k = kOf d ∧ y.size = i.size ∧ y.bytes = i.bytes ∧ y.zero = i.zero.map fun z => z.cells.toList := tyOf_spec (ok t y h)
theorem cellsOf_tab {P : Program} {T : Tab} (ok : TabOK P T) {t : TypeId} {y : Ty} (h : T.at t = some y) : P.cellsOf t = y.size := by
 obtain ⟨d, i, _, hi, _, hs, _⟩ := tabTy ok h
 simp [Program.cellsOf, hi, hs]
theorem avOfL_append {H : Type} : ∀ (a b : List (DataW H)), avOfL (a ++ b) = avOfL a ++ avOfL b
 | [], b => by simp [avOfL]
 | d :: a, b => by simp [avOfL, avOfL_append a b, List.append_assoc]
/-- cells that are read in pieces -/
theorem pieces_rel {H : Type} {w : World} : ∀ (xs : List (DataW H × List MemPlace)) (L : Nat → List Value), (∀ i x, xs[i]? = some x → RelL w (avOf x.1) View.none (L i)) →
  RelL w (avOfL (xs.map (·.1))) View.none ((List.range xs.length).flatMap L)
 | [], L, _ => by simp [avOfL, RelL]
 | x :: xs, L, h => by
  rw [List.length_cons, List.range_succ_eq_map]
  simp only [List.map_cons, avOfL, List.flatMap_cons, List.flatMap_map]
  exact (h 0 x rfl).append (pieces_rel xs (fun i => L (i + 1)) fun i y hy => h (i + 1) y (by simpa using hy))
theorem chunks {k : Nat} : ∀ (n : Nat) (cs : List Value), cs.length = n * k → (List.range n).flatMap (fun i => (cs.drop (i * k)).take k) = cs
 | 0, cs, h => by
  have : cs = [] := List.length_eq_zero_iff.1 (by simpa using h)
  subst this; rfl
 | n + 1, cs, h => by
  rw [List.range_succ_eq_map]
  simp only [List.flatMap_cons, List.flatMap_map, Nat.zero_mul, List.drop_zero]
  have e := chunks n (cs.drop k) (by rw [List.length_drop, h, Nat.succ_mul, Nat.add_sub_cancel])
  have e2 : (fun i => (cs.drop (Nat.succ i * k)).take k) = fun i => ((cs.drop k).drop (i * k)).take k := by
   funext i; rw [List.drop_drop, Nat.succ_mul, Nat.add_comm]
  rw [e2, e, List.take_append_drop]
/-- what a reading of an argument tells -/
theorem trod_rel {H : Type} {enc : TypeId × Value → H} {P : Program} {T : Tab} (ok : TabOK P T) {w : World} : ∀ (fuel g : Nat) (t : TypeId) (cs : List Value) (d : DataW H) (ps : List MemPlace),
  DataW.trod enc P w 0 (fun _ => true) true fuel t cs = some (d, ps) → goodT T g t = true → RelL w (avOf d) View.none cs ∧ cs.length = P.cellsOf t := by
 intro fuel
 induction fuel with
 | zero => intro g t cs d ps h; simp [DataW.trod] at h
 | succ fuel ih =>
  intro g t cs d ps h hg
  cases g with
  | zero => simp [goodT] at hg
  | succ g =>
   simp only [goodT] at hg
   cases hy : T.at t with
   | none => rw [hy] at hg; cases hg
   | some y =>
    rw [hy] at hg
    obtain ⟨dd, inf, hd, _, hk, _⟩ := tabTy ok hy
    have hcell := cellsOf_tab ok hy
    simp only [hk] at hg
    cases dd <;> simp only [kOf] at hg <;> try (cases hg; done)
    case int k =>
     have hsz : y.size = 1 := by simpa using hg
     rcases cs with _ | ⟨v, _ | ⟨v2, r⟩⟩
     ·simp [DataW.trod, hd] at h
     ·cases v <;> simp only [DataW.trod, hd] at h <;> try (simp at h; done)
      split at h
      ·rename_i hq
       injection h with h; injection h with h1 h2
       subst h1
       obtain ⟨rfl, _⟩ := hq
       exact ⟨RelL_cons rfl RelL_nil, by rw [hcell, hsz]; rfl⟩
      ·cases h
     ·simp [DataW.trod, hd] at h
    case bool =>
     have hsz : y.size = 1 := by simpa using hg
     rcases cs with _ | ⟨v, _ | ⟨v2, r⟩⟩
     ·simp [DataW.trod, hd] at h
     ·cases v <;> simp only [DataW.trod, hd] at h <;> try (simp at h; done)
      injection h with h; injection h with h1 h2
      subst h1
      exact ⟨RelL_cons rfl RelL_nil, by rw [hcell, hsz]; rfl⟩
     ·simp [DataW.trod, hd] at h
    case string =>
     have hsz : y.size = 1 := by simpa using hg
     rcases cs with _ | ⟨v, _ | ⟨v2, r⟩⟩
     ·simp [DataW.trod, hd] at h
     ·cases v <;> simp only [DataW.trod, hd] at h <;> try (simp at h; done)
      split at h
      ·injection h with h; injection h with h1 h2
       subst h1
       exact ⟨RelL_cons rfl RelL_nil, by rw [hcell, hsz]; rfl⟩
      ·cases h
     ·simp [DataW.trod, hd] at h
    case slice e =>
     have hsz : y.size = 1 := by simp at hg; exact hg.1
     have hge : goodT T g e = true := by simp at hg; exact hg.2
     rcases DataW.trod_slice hd h with ⟨rfl, hx⟩ | ⟨a, len, cap, elems, rest, m, hm, rfl, hx, _, hl, _, hlen, hel, _, _⟩
     ·injection hx with h1 h2
      subst h1
      exact ⟨RelL_cons rfl RelL_nil, by rw [hcell, hsz]; rfl⟩
     ·injection hx with h1 h2
      subst h1
      obtain rfl : fuel = m := by omega
      refine ⟨RelL_cons ?_ RelL_nil, by rw [hcell, hsz]; rfl⟩
      have hp : ∀ i x, elems[i]? = some x → RelL w (avOf x.1) View.none ((w.cells? 0 (a.add (i * P.cellsOf e)) (P.cellsOf e)).getD []) := by
       intro i x hx
       have hi : i < len := by rw [← hlen]; exact (List.getElem?_eq_some_iff.1 hx).1
       have hh := hel i hi
       rw [hx] at hh
       obtain ⟨cs, h1, h2⟩ := Option.bind_eq_some_iff.1 hh
       rw [h1]
       exact (ih g e cs x.1 x.2 h2 hge).1
      have hr := pieces_rel elems _ hp
      refine ⟨some a, cap, _, by rw [List.length_map, hlen], by rw [List.length_map, hlen]; exact hl, hr, fun _ => ⟨a, rfl, ?_, id⟩⟩
      have hat : ∀ n, n ≤ elems.length → At w a ((List.range n).flatMap fun i => (w.cells? 0 (a.add (i * P.cellsOf e)) (P.cellsOf e)).getD []) ∧ ((List.range n).flatMap fun i => (w.cells? 0 (a.add (i * P.cellsOf e)) (P.cellsOf e)).getD []).length = n * P.cellsOf e := by
       intro n
       induction n with
       | zero => intro _; exact ⟨fun j u h => by simp at h, by simp⟩
       | succ n ihn =>
        intro hn
        obtain ⟨k1, k2⟩ := ihn (by omega)
        have hh := hel n (by omega)
        rw [List.getElem?_eq_getElem (by omega)] at hh
        obtain ⟨cs, h1, h2⟩ := Option.bind_eq_some_iff.1 hh
        obtain ⟨_, hcl, hcc⟩ := World.cells?_some h1
        rw [List.range_succ, List.flatMap_append]
        simp only [List.flatMap_cons, List.flatMap_nil, List.append_nil]
        rw [h1, Option.getD_some]
        refine ⟨fun j u hj => ?_, by rw [List.length_append, k2, hcl, Nat.succ_mul]⟩
        by_cases hjl : j < n * P.cellsOf e
        ·rw [List.getElem?_append_left (by rw [k2]; exact hjl)] at hj
         exact k1 j u hj
        ·rw [List.getElem?_append_right (by rw [k2]; omega), k2] at hj
         have hlt : j - n * P.cellsOf e < P.cellsOf e := by
          have := (List.getElem?_eq_some_iff.1 hj).1; rw [hcl] at this; exact this
         have := hcc _ hlt
         rw [hj, Addr.add_add] at this
         rw [← this]
         congr 2; omega
      exact (hat elems.length (Nat.le_refl _)).1
    case array n e =>
     obtain ⟨xs, m, hm, hx, hl, hxl, hel⟩ := DataW.trod_array hd h
     injection hx with h1 h2
     subst h1
     obtain rfl : fuel = m := by omega
     refine ⟨?_, hl⟩
     cases he : T.at e with
     | none => rw [he] at hg; simp at hg
     | some ye =>
      rw [he] at hg
      simp only [Bool.and_eq_true, beq_iff_eq] at hg
      have hce := cellsOf_tab ok he
      have hr := pieces_rel xs (fun i => (cs.drop (i * P.cellsOf e)).take (P.cellsOf e)) fun i x hx => by
       have hi : i < n := by rw [← hxl]; exact (List.getElem?_eq_some_iff.1 hx).1
       exact (ih g e _ x.1 x.2 ((hel i hi).trans hx) hg.1).1
      rw [hxl, chunks n cs (by rw [hl, hcell, hce]; exact hg.2)] at hr
      exact hr
    case struct fs =>
     obtain ⟨xs, m, hm, hx, hl, hxl, hel⟩ := DataW.trod_struct hd h
     injection hx with h1 h2
     subst h1
     obtain rfl : fuel = m := by omega
     refine ⟨?_, hl⟩
     simp only [Bool.and_eq_true] at hg
     have hgo : ∀ (l : List Field) (n : Nat) (ys : List (DataW H × List MemPlace)), tiles T y.size n (l.map fun f => (f.offset, f.type)) = true → (∀ f, f ∈ l → goodT T g f.type = true) → ys.length = l.length →
       (∀ (i : Nat) (f : Field), l[i]? = some f → DataW.trod enc P w 0 (fun _ => true) true fuel f.type ((cs.drop f.offset).take (P.cellsOf f.type)) = ys[i]?) → RelL w (avOfL (ys.map (·.1))) View.none (cs.drop n) := by
      intro l
      induction l with
      | nil =>
       intro n ys ht _ hyl _
       have : ys = [] := List.length_eq_zero_iff.1 hyl
       subst this
       have hn : n = y.size := by simpa [tiles] using ht
       rw [List.drop_of_length_le (by rw [hl, hcell, hn]; exact Nat.le_refl _)]
       exact rfl
      | cons f l ihl =>
       intro n ys ht hgd hyl hel
       cases ys with
       | nil => simp at hyl
       | cons x ys =>
        simp only [List.map_cons, tiles, Bool.and_eq_true, beq_iff_eq] at ht
        obtain ⟨hoff, ht⟩ := ht
        cases hfy : T.at f.type with
        | none => rw [hfy] at ht; cases ht
        | some yf =>
         rw [hfy] at ht
         have h0 := hel 0 f rfl
         rw [hoff] at h0
         have hx0 := (ih g f.type _ x.1 x.2 (h0.trans rfl) (hgd f (List.mem_cons_self ..))).1
         have hr := ihl (n + yf.size) ys ht (fun f' hf' => hgd f' (List.mem_cons_of_mem _ hf')) (by simpa using hyl) fun i f' hf' => by simpa using hel (i + 1) f' (by simpa using hf')
         rw [List.map_cons, avOfL]
         have e : cs.drop n = (cs.drop n).take (P.cellsOf f.type) ++ cs.drop (n + yf.size) := by
          rw [cellsOf_tab ok hfy, ← List.drop_drop, List.take_append_drop]
         rw [e]
         exact hx0.append hr
     have := hgo fs.toList 0 xs hg.1 (fun f hf => by
      have := List.all_eq_true.1 hg.2 (f.offset, f.type) (List.mem_map.2 ⟨f, hf, rfl⟩)
      exact this) (by simpa using hxl) (fun i f hf => hel i f (by simpa using hf))
     rw [List.drop_zero] at this
     exact this
/-- an argument, as an abstract value -/
def avArg {H : Type} : DataW H → AV
  | .agg ds => .agg (avOfL ds)
  | d => (avOf d).headD .any
theorem arg_rel {H : Type} {enc : TypeId × Value → H} {P : Program} {T : Tab} (ok : TabOK P T) {w w' : World} {r : Reach} {base g : Nat} {t : TypeId} {v : Value} {d : DataW H} {ps : List MemPlace} (hok : Value.okWide P w' r base t v)
  (h : DataW.Trod enc P w 0 (fun _ => true) true t v d ps) (hg : goodT T g t = true) : RelV w (avArg d) View.none v := by
 obtain ⟨fuel, h⟩ := h
 obtain ⟨hr, _⟩ := trod_rel ok fuel g t _ d ps h hg
 cases g with
 | zero => simp [goodT] at hg
 | succ g =>
  simp only [goodT] at hg
  cases hy : T.at t with
  | none => rw [hy] at hg; cases hg
  | some y =>
   rw [hy] at hg
   obtain ⟨dd, inf, hd, _, hk, _⟩ := tabTy ok hy
   simp only [hk] at hg
   cases dd <;> simp only [kOf] at hg <;> try (cases hg; done)
   case int k =>
    obtain ⟨n, h1, h2, _⟩ := DataW.trod_int hd h
    injection h2 with h2 h3; subst h2
    obtain ⟨u, vs, e, hu, e2⟩ := hr
    simp only [RelV] at hu; subst hu
    cases v <;> simp_all [Value.cells, Value.okWide, Cell.okWide, Cell.ok, avArg, avOf, RelV]
   case bool =>
    obtain ⟨n, h1, h2⟩ := DataW.trod_bool hd h
    injection h2 with h2 h3; subst h2
    obtain ⟨u, vs, e, hu, e2⟩ := hr
    simp only [RelV] at hu; subst hu
    cases v <;> simp_all [Value.cells, Value.okWide, Cell.okWide, Cell.ok, avArg, avOf, RelV]
   case string =>
    obtain ⟨n, h1, h2, _⟩ := DataW.trod_string hd h
    injection h2 with h2 h3; subst h2
    obtain ⟨u, vs, e, hu, e2⟩ := hr
    simp only [RelV] at hu; subst hu
    cases v <;> simp_all [Value.cells, Value.okWide, Cell.okWide, Cell.ok, avArg, avOf, RelV]
   case slice e =>
    have hv : v.cells.toList = [v] := by
     simp only [Value.okWide, hd, Cell.okWide] at hok
     cases v <;> simp_all [Cell.ok, Value.cells]
    rw [hv] at hr
    rcases DataW.trod_slice hd h with ⟨_, hx⟩ | ⟨a, len, cap, elems, rest, m, _, _, hx, _⟩
    ·injection hx with h1 h2
     subst h1
     obtain ⟨u, vs, e, hu, _⟩ := hr
     injection e with e _; subst e
     exact hu
    ·injection hx with h1 h2
     subst h1
     obtain ⟨u, vs, e, hu, _⟩ := hr
     injection e with e _; subst e
     exact hu
   case array n e =>
    obtain ⟨xs, m, _, hx, _⟩ := DataW.trod_array hd h
    injection hx with h1 h2
    subst h1
    simp only [Value.okWide, hd] at hok
    obtain ⟨cs, rfl, _⟩ := hok
    exact ⟨cs.toList, rfl, hr⟩
   case struct fs =>
    obtain ⟨xs, m, _, hx, _⟩ := DataW.trod_struct hd h
    injection hx with h1 h2
    subst h1
    simp only [Value.okWide, hd] at hok
    obtain ⟨cs, rfl, _⟩ := hok
    exact ⟨cs.toList, rfl, hr⟩
theorem args_rel {H : Type} {enc : TypeId × Value → H} {P : Program} {T : Tab} (ok : TabOK P T) {w w' : World} {r : Reach} {base g : Nat} : ∀ {ts : List TypeId} {vs : List Value} {ds : List (DataW H)} {ps : List MemPlace},
  (∀ (j : Nat) t v, ts[j]? = some t → vs[j]? = some v → Value.okWide P w' r base t v) → DataW.TrodAll enc P w 0 (fun _ => true) true ts vs ds ps → ts.all (goodT T g) = true → RelL w (ds.map avArg) View.none vs
 | [], [], [], _, _, _, _ => rfl
 | t :: ts, v :: vs, d :: ds, _, hok, ⟨p, q, h1, h2, _⟩, hg => by
  simp only [List.all_cons, Bool.and_eq_true] at hg
  exact RelL_cons (arg_rel ok (hok 0 t v rfl rfl) h1 hg.1) (args_rel ok (fun j t v ht hv => hok (j + 1) t v (by simpa using ht) (by simpa using hv)) h2 hg.2)
 | [], [], _ :: _, _, _, h, _ => h.elim
 | [], _ :: _, _, _, _, h, _ => h.elim
 | _ :: _, [], _, _, _, h, _ => h.elim
 | _ :: _, _ :: _, [], _, _, h, _ => h.elim
/-- what a type says of data -/
def shapes {H : Type} (p : TypeId → DataW H → Prop) : List TypeId → List (DataW H) → Prop
  | [], ds => ds = []
  | t :: ts, ds => ∃ d r, ds = d :: r ∧ p t d ∧ shapes p ts r
def shapeT {H : Type} (T : Tab) : Nat → TypeId → DataW H → Prop
  | 0, _, _ => True
  | f + 1, t, d => match T.at t with
    | some y => (match y.k with
      | .int k => ∃ n, d = .lit (.int k n) ∧ (Lit.int k n).wf = true
      | .bool => ∃ b, d = .lit (.bool b)
      | .string => ∃ l, d = .lit (.string l) ∧ l.length ≤ maxLen
      | .slice e => d = .nil ∨ ∃ ds rest, d = .slice ds rest ∧ ds.length ≤ maxLen ∧ ∀ x ∈ ds, shapeT T f e x
      | .array n e => ∃ ds, d = .agg ds ∧ ds.length = n ∧ ∀ x ∈ ds, shapeT T f e x
      | .struct fs => ∃ ds, d = .agg ds ∧ shapes (shapeT T f) (fs.map (·.2)) ds
      | _ => True)
    | none => True
theorem shapes_of {H : Type} {p : TypeId → DataW H → Prop} : ∀ {ts : List TypeId} {ds : List (DataW H)}, ts.length = ds.length → (∀ (j : Nat) t d, ts[j]? = some t → ds[j]? = some d → p t d) → shapes p ts ds
 | [], [], _, _ => rfl
 | t :: ts, d :: ds, hl, h => ⟨d, ds, rfl, h 0 t d rfl rfl, shapes_of (by simpa using hl) fun j t d ht hd => h (j + 1) t d (by simpa using ht) (by simpa using hd)⟩
 | [], _ :: _, hl, _ => by simp at hl
 | _ :: _, [], hl, _ => by simp at hl
theorem trod_shape {H : Type} {enc : TypeId × Value → H} {P : Program} {T : Tab} (ok : TabOK P T) {w : World} : ∀ (fuel g : Nat) (t : TypeId) (cs : List Value) (x : DataW H × List MemPlace),
  DataW.trod enc P w 0 (fun _ => true) true fuel t cs = some x → shapeT T g t x.1 := by
 intro fuel
 induction fuel with
 | zero => intro g t cs x h; simp [DataW.trod] at h
 | succ fuel ih =>
  intro g t cs x h
  cases g with
  | zero => trivial
  | succ g =>
   simp only [shapeT]
   cases hy : T.at t with
   | none => trivial
   | some y =>
    obtain ⟨dd, inf, hd, _, hk, _⟩ := tabTy ok hy
    simp only [hk]
    cases dd <;> simp only [kOf]
    case int k => obtain ⟨n, _, rfl, hw⟩ := DataW.trod_int hd h; exact ⟨n, rfl, hw⟩
    case bool => obtain ⟨n, _, rfl⟩ := DataW.trod_bool hd h; exact ⟨n, rfl⟩
    case string => obtain ⟨s, _, rfl, hs⟩ := DataW.trod_string hd h; exact ⟨_, rfl, hs⟩
    case slice e =>
     rcases DataW.trod_slice hd h with ⟨_, rfl⟩ | ⟨a, len, cap, elems, rest, m, hm, _, rfl, _, hl, hc, hlen, hel, _, _⟩
     ·exact .inl rfl
     ·obtain rfl : fuel = m := by omega
      refine .inr ⟨_, _, rfl, by rw [List.length_map, hlen]; exact Nat.le_trans hl hc, fun d hd => ?_⟩
      obtain ⟨z, hz, rfl⟩ := List.mem_map.1 hd
      obtain ⟨i, hi⟩ := List.getElem?_of_mem hz
      have hh := hel i (by rw [← hlen]; exact (List.getElem?_eq_some_iff.1 hi).1)
      rw [hi] at hh
      obtain ⟨cs', _, h2⟩ := Option.bind_eq_some_iff.1 hh
      exact ih g e cs' z h2
    case array n e =>
     obtain ⟨xs, m, hm, rfl, _, hxl, hel⟩ := DataW.trod_array hd h
     obtain rfl : fuel = m := by omega
     refine ⟨_, rfl, by rw [List.length_map, hxl], fun d hd => ?_⟩
     obtain ⟨z, hz, rfl⟩ := List.mem_map.1 hd
     obtain ⟨i, hi⟩ := List.getElem?_of_mem hz
     have hh := hel i (by rw [← hxl]; exact (List.getElem?_eq_some_iff.1 hi).1)
     rw [hi] at hh
     exact ih g e _ z hh
    case struct fs =>
     obtain ⟨xs, m, hm, rfl, _, hxl, hel⟩ := DataW.trod_struct hd h
     obtain rfl : fuel = m := by omega
     refine ⟨_, rfl, shapes_of (by simp [hxl]) fun j t d ht hd => ?_⟩
     simp only [List.map_map, List.getElem?_map, Option.map_eq_some_iff, Array.getElem?_toList] at ht hd
     obtain ⟨f, hf, rfl⟩ := ht
     obtain ⟨z, hz, rfl⟩ := hd
     exact ih g _ _ z ((hel j f hf).trans hz)
theorem args_shape {H : Type} {enc : TypeId × Value → H} {P : Program} {T : Tab} (ok : TabOK P T) {w : World} {g : Nat} : ∀ {ts : List TypeId} {vs : List Value} {ds : List (DataW H)} {ps : List MemPlace},
  DataW.TrodAll enc P w 0 (fun _ => true) true ts vs ds ps → shapes (shapeT T g) ts ds
 | [], [], [], _, _ => rfl
 | t :: ts, v :: vs, d :: ds, _, ⟨p, q, ⟨fuel, h1⟩, h2, _⟩ => ⟨d, ds, rfl, trod_shape ok fuel g t _ (d, p) h1, args_shape ok h2⟩
 | [], [], _ :: _, _, h => h.elim
 | [], _ :: _, _, _, h => h.elim
 | _ :: _, [], _, _, h => h.elim
 | _ :: _, _ :: _, [], _, h => h.elim
theorem shapes.length {H : Type} {p : TypeId → DataW H → Prop} : ∀ {ts : List TypeId} {ds : List (DataW H)}, shapes p ts ds → ds.length = ts.length
 | [], _, h => by cases h; rfl
 | _ :: _, _, ⟨_, _, rfl, _, h⟩ => by simp [shapes.length h]
/-- the arguments read behind the call as they did ahead of it -/
theorem Below.trodAll {H : Type} {enc : TypeId × Value → H} {P : Program} (hl : laidOutB P = true) {W W' : World} (hb : Below W.heap.size W W') : ∀ {ts : List TypeId} {vs : List Value} {ds : List (DataW H)} {ps : List MemPlace},
  ts.all (fun t => P.readableRec t && decide (t < P.types.size)) = true → DataW.TrodAll enc P W 0 (fun _ => true) true ts vs ds ps → DataW.TrodAll enc P W' 0 (fun b => decide (b < W.heap.size)) true ts vs ds ps
 | [], [], [], _, _, h => h
 | t :: ts, v :: vs, d :: ds, _, hg, ⟨p, q, h1, h2, e⟩ => by
  simp only [List.all_cons, Bool.and_eq_true, decide_eq_true_eq] at hg
  refine ⟨p, q, Below.trod hl hg.1.1 hg.1.2 h1 hb ?_, Below.trodAll hl hb hg.2 h2, e⟩
  obtain ⟨m, hm⟩ := h1
  exact DataW.trod_lt m _ _ _ hm
 | [], [], _ :: _, _, _, h => h.elim
 | [], _ :: _, _, _, _, h => h.elim
 | _ :: _, [], _, _, _, h => h.elim
 | _ :: _, _ :: _, [], _, _, h => h.elim
/-- the first so many -/
theorem min_nat (n k : Nat) : AV.int .i64 (if (k : Int) < (n : Int) then (k : Int) else (n : Int)) = .int .i64 ((min n k : Nat) : Int) := by
 congr 1
 split
 ·rw [Nat.min_eq_right (by omega)]
 ·rw [Nat.min_eq_left (by omega)]
theorem str_take3 (s : List UInt8) (k : Nat) : AV.str ((s.drop 0).take (((min s.length k : Nat) : Int).toNat - 0)) = .str (s.take k) := by
 congr 1
 rw [Int.toNat_natCast, Nat.sub_zero, List.drop_zero]
 rcases Nat.le_total s.length k with h | h
 ·rw [Nat.min_eq_left h, List.take_of_length_le (Nat.le_refl _), List.take_of_length_le h]
 ·rw [Nat.min_eq_right h]
end Go.Lens

set_option linter.unusedVariables false
set_option linter.unusedSimpArgs false
namespace Go.Lens
open Go
theorem v_cat {C : Ctx} {o : Oper} {st : St} {x y : Operand} {t t' : TypeId} {a b : List UInt8} (hop : o.op = .binOp .add t x y t') (hx : ev st x = some (.str a)) (hy : ev st y = some (.str b))
  (h : a.length + b.length ≤ 9223372036854775807) : VStep C o st (.str (a ++ b)) st.objs := v_bin hop hx hy (if_pos h)
/-! ### weaker arguments -/
def SubL : List AV → List AV → Prop
  | [], [] => True
  | c :: cs, d :: ds => Sub c d ∧ SubL cs ds
  | _, _ => False
theorem SubL.rel : ∀ {cs ds : List AV}, SubL cs ds → ∀ (w : World) (H : View) (vs : List Value), RelL w cs H vs → RelL w ds H vs
 | [], [], _, _, _, _, h => h
 | c :: cs, d :: ds, ⟨h1, h2⟩, w, H, vs, h => by
  obtain ⟨v, vs', e, g1, g2⟩ := h
  exact ⟨v, vs', e, h1 w H v g1, SubL.rel h2 w H vs' g2⟩
theorem Does.sub {P : Program} {f : FuncId} {args args' : List AV} {r : AV} (h : Does P f args' r) (hs : SubL args args') : Does P f args r :=
 ⟨h.1, fun H w vs ho hr => h.2 H w vs ho (hs.rel w H vs hr)⟩
end Go.Lens

set_option linter.unusedVariables false
set_option linter.unusedSimpArgs false
namespace Go.Proofs.YtejpblopbdgkaaaGreatDoor
open Go Go.Lens
end Go.Proofs.YtejpblopbdgkaaaGreatDoor
