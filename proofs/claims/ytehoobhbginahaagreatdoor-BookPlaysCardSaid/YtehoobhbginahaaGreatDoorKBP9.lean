/- Lens, part 33: regions that draw their order: effects come one behind the other, and values may come between any of them. book: Back. book, plain: dates in order, entries that may be, what is posted and what is told up to a day. The document's numbers: chattelref01.Cmp, Sub, Print. The document's numbers: chattelref01.Print. The document's whole numbers: chattelref04: Add, Sub, Mul, Neg, Sign, Cmp, Print. -/
import Derived.Test.YtehoobhbginahaaGreatDoorKBP8

set_option linter.unusedVariables false
set_option linter.unusedSimpArgs false
namespace Go.Lens
open Go Go.RowKit
/-- the operations that an operation waits for, at one or more removes, as the bits of a number -/
def reachM (acc : List Nat) : List Nat → Nat → Nat
  | [], m => m
  | j :: r, m => reachM acc r (m ||| 2 ^ j ||| acc.getD j 0)
def reachL : List Oper → List Nat → List Nat
  | [], acc => acc
  | o :: r, acc => reachL r (acc ++ [reachM acc (depsOf o) 0])
def reachOf (ops : Array Oper) : List Nat := reachL ops.toList []
theorem reachM_bit {acc : List Nat} {j : Nat} : ∀ {l : List Nat} {m : Nat}, (reachM acc l m).testBit j = true → m.testBit j = true ∨ ∃ k ∈ l, j = k ∨ (acc.getD k 0).testBit j = true
 | [], m, h => .inl h
 | k :: r, m, h => by
  rcases reachM_bit (l := r) h with h | ⟨k', h1, h2⟩
  ·simp only [Nat.testBit_or, Bool.or_eq_true, Nat.testBit_two_pow, decide_eq_true_eq] at h
   rcases h with (h | h) | h
   ·exact .inl h
   ·exact .inr ⟨k, .head _, .inl h.symm⟩
   ·exact .inr ⟨k, .head _, .inr h⟩
  ·exact .inr ⟨k', .tail _ h1, h2⟩
theorem reachL_sound {ops : Array Oper} {listed : Array Bool} (hc : Closed ops listed) : ∀ (r pre : List Oper) (acc : List Nat), ops.toList = pre ++ r → acc.length = pre.length →
  (∀ i, i < acc.length → ∀ o, ops[i]? = some o → (∀ k ∈ depsOf o, listed.getD k false = true) → ∀ j, (acc.getD i 0).testBit j = true → listed.getD j false = true) →
  ∀ i, i < ops.size → ∀ o, ops[i]? = some o → (∀ k ∈ depsOf o, listed.getD k false = true) → ∀ j, ((reachL r acc).getD i 0).testBit j = true → listed.getD j false = true
 | [], pre, acc, h1, h2, h3 => by
  intro i hi
  have : ops.size = pre.length := by rw [← Array.length_toList, h1, List.append_nil]
  exact h3 i (by omega)
 | o0 :: r, pre, acc, h1, h2, h3 => by
  refine reachL_sound hc r (pre ++ [o0]) _ (by rw [h1, List.append_assoc]; rfl) (by simp [h2]) ?_
  intro i hi o ho hd j hj
  rw [List.length_append, List.length_singleton] at hi
  by_cases e : i < acc.length
  ·rw [List.getD_eq_getElem?_getD, List.getElem?_append_left e, ← List.getD_eq_getElem?_getD] at hj
   exact h3 i e o ho hd j hj
  ·have he : i = acc.length := by omega
   have ho0 : o = o0 := by
    rw [← Array.getElem?_toList, h1, he, h2, List.getElem?_append_right (Nat.le_refl _), Nat.sub_self] at ho
    simpa using ho.symm
   subst ho0
   rw [he, List.getD_eq_getElem?_getD, List.getElem?_append_right (Nat.le_refl _), Nat.sub_self] at hj
   simp only [List.getElem?_cons_zero, Option.getD_some] at hj
   rcases reachM_bit hj with h | ⟨k, hk, h⟩
   ·simp at h
   ·rcases h with rfl | h
    ·exact hd _ hk
    ·have hkl : k < acc.length := by
      rcases Nat.lt_or_ge k acc.length with h' | h'
      ·exact h'
      ·rw [List.getD_eq_getElem?_getD, List.getElem?_eq_none h'] at h; simp at h
     have hks : k < ops.size := by
      rw [← Array.length_toList, h1, List.length_append]; omega
     exact h3 k hkl ops[k] (Array.getElem?_eq_getElem hks) (hc k _ (Array.getElem?_eq_getElem hks) (hd k hk)) j h
theorem reach_sound {ops : Array Oper} {listed : Array Bool} (hc : Closed ops listed) {i : Nat} {o : Oper} (ho : ops[i]? = some o) (hd : ∀ k ∈ depsOf o, listed.getD k false = true) {j : Nat} (hj : ((reachOf ops).getD i 0).testBit j = true) : listed.getD j false = true :=
 reachL_sound hc ops.toList [] [] rfl rfl (fun i hi => by simp at hi) i (Array.getElem?_eq_some_iff.1 ho).1 o ho hd j hj
/-- a value: its operation, where it goes, the values that it reads; a group: values that may come anew, values that may still come, then an effect -/
structure PF where
  i : Nat
  d : Nat
  js : List Nat
structure PG where
  news : List PF
  olds : List PF
  c : Nat
  d : Option Nat
  js : List Nat
def pickV : List (Nat × Nat × AV) → List Nat → List (Nat × AV)
  | [], _ => []
  | x :: r, js => if js.contains x.1 then x.2 :: pickV r js else pickV r js
theorem look_pickV {js : List Nat} {t : Nat} {v : AV} : ∀ {V : List (Nat × Nat × AV)}, look (pickV V js) t = some v → ∃ i ∈ js, (i, t, v) ∈ V
 | [], h => by cases h
 | (i, d, c) :: r, h => by
  simp only [pickV] at h
  split at h
  ·rename_i hi
   simp only [look] at h
   split at h
   ·rename_i he
    injection h with h; subst h
    have : d = t := by simpa using he
    subst this
    exact ⟨i, by simpa using hi, .head _⟩
   ·obtain ⟨i', h1, h2⟩ := look_pickV h; exact ⟨i', h1, .tail _ h2⟩
  ·obtain ⟨i', h1, h2⟩ := look_pickV h; exact ⟨i', h1, .tail _ h2⟩
def FlX (C : Ctx) (ops : Array Oper) (o : Oper) (d : Nat) (v : AV) (env : List (Nat × AV)) (objs : List AObj) : Prop :=
  ∀ more, WL C ops [o] ⟨env ++ more, objs⟩ (fun e st' => e = .normal ∧ st' = ⟨(d, v) :: (env ++ more), objs⟩)
def OldsX (C : Ctx) (ops : Array Oper) (env0 : List (Nat × AV)) (V : List (Nat × Nat × AV)) (G : List (Nat × AV)) (objs : List AObj) : List PF → Prop
  | [] => True
  | f :: r => (∃ o v, ops[f.i]? = some o ∧ (f.i, f.d, v) ∈ V ∧ FlX C ops o f.d v (G ++ (pickV V f.js ++ env0)) objs) ∧ OldsX C ops env0 V G objs r
def NewsX (C : Ctx) (ops : Array Oper) (env0 : List (Nat × AV)) (G : List (Nat × AV)) (objs : List AObj) (K : List (Nat × Nat × AV) → Prop) : List PF → List (Nat × Nat × AV) → Prop
  | [], V => K V
  | f :: r, V => ∃ o v, ops[f.i]? = some o ∧ FlX C ops o f.d v (G ++ (pickV V f.js ++ env0)) objs ∧ NewsX C ops env0 G objs K r ((f.i, f.d, v) :: V)
def RX (d : Option Nat) (E G : List (Nat × AV)) (K : List (Nat × AV) → List AObj → Prop) (st' : St) : Prop := match d with
  | some d => ∃ v objs', st' = ⟨(d, v) :: E, objs'⟩ ∧ K ((d, v) :: G) objs'
  | none => ∃ objs', st' = ⟨E, objs'⟩ ∧ K G objs'
theorem RX.out {d : Option Nat} {E G : List (Nat × AV)} {K : List (Nat × AV) → List AObj → Prop} {st' : St} (h : RX d E G K st') : ∃ l objs', st' = ⟨l ++ E, objs'⟩ ∧ l.map (·.1) = d.toList ∧ K (l ++ G) objs' := by
 cases d with
 | none => obtain ⟨objs', h1, h2⟩ := h; exact ⟨[], objs', h1, rfl, h2⟩
 | some d => obtain ⟨v, objs', h1, h2⟩ := h; exact ⟨[(d, v)], objs', h1, rfl, h2⟩
def ChX (C : Ctx) (ops : Array Oper) (env0 : List (Nat × AV)) (V : List (Nat × Nat × AV)) (G : List (Nat × AV)) (objs : List AObj) (c : Nat) (d : Option Nat) (js : List Nat) (K : List (Nat × AV) → List AObj → Prop) : Prop :=
  ∃ o, ops[c]? = some o ∧ ∀ more, WL C ops [o] ⟨(G ++ (pickV V js ++ env0)) ++ more, objs⟩ (fun e st' => e = .normal ∧ RX d ((G ++ (pickV V js ++ env0)) ++ more) G K st')
def DrawX (C : Ctx) (ops : Array Oper) (env0 : List (Nat × AV)) (Q : Exit → St → Prop) : List PG → List (Nat × Nat × AV) → List (Nat × AV) → List AObj → Prop
  | [], V, G, objs => WL C ops [] ⟨G ++ (V.map (·.2) ++ env0), objs⟩ Q
  | g :: r, V, G, objs => OldsX C ops env0 V G objs g.olds ∧ NewsX C ops env0 G objs (fun V' => ChX C ops env0 V' G objs g.c g.d g.js (fun G' objs' => DrawX C ops env0 Q r V' G' objs')) g.news V
def bitR (R : List Nat) (i j : Nat) : Bool := (R.getD i 0).testBit j
def chkX (ops : Array Oper) (R : List Nat) : List Nat → List Nat → List PG → Bool
  | done, _, [] => (List.range ops.size).all fun i => done.contains i || done.any fun c => bitR R c i
  | done, kn, g :: r =>
    (ops[g.c]?).any (fun o => o.dst == g.d) && g.js.all (fun j => bitR R g.c j || done.any fun c => bitR R c j) &&
    (g.olds ++ g.news).all (fun f => (ops[f.i]?).any (fun o => o.dst == some f.d) && !(g :: r).any (fun g' => g'.c == f.i) && !done.contains f.i && f.js.all (fun j => bitR R f.i j || done.any fun c => bitR R c j)) &&
    g.news.all (fun f => !kn.contains f.i) && decide (g.news.map (·.i)).Nodup && r.all (fun g' => bitR R g'.c g.c && g'.c != g.c) &&
    (List.range ops.size).all (fun i => done.contains i || i == g.c || (g.olds ++ g.news).any (fun f => f.i == i) || (g :: r).any (fun g' => bitR R i g'.c) || done.any (fun c => bitR R c i)) &&
    chkX ops R (g.c :: done) (g.news.map (·.i) ++ kn) r
def planOK (ops : Array Oper) (plan : List PG) : Bool :=
  (List.range ops.size).all (fun i => (ops[i]?).any fun o => (depsOf o).all fun j => decide (j < i)) &&
  (List.range ops.size).all (fun i => (List.range i).all fun j => match ops[i]?.bind (·.dst), ops[j]?.bind (·.dst) with | some d, some d' => d != d' | _, _ => true) && chkX ops (reachOf ops) [] [] plan
theorem plan_back {ops : Array Oper} {plan : List PG} (h : planOK ops plan = true) {i : Nat} {o : Oper} (hi : ops[i]? = some o) {e : Edge} (he : e ∈ o.after.toList) (hb : Region.binds .any e = true) : e.on < i := by
 simp only [planOK, Bool.and_eq_true] at h
 have h1 := h.1.1
 rw [List.all_eq_true] at h1
 have h2 := h1 i (by rw [List.mem_range]; exact (Array.getElem?_eq_some_iff.1 hi).1)
 rw [hi] at h2
 simp only [Option.any_some, List.all_eq_true, decide_eq_true_eq] at h2
 exact h2 e.on (by simp only [depsOf, List.mem_map, List.mem_filter]; exact ⟨e, ⟨he, hb⟩, rfl⟩)
theorem plan_dst {ops : Array Oper} {plan : List PG} (h : planOK ops plan = true) {i j : Nat} {o o' : Oper} (hi : ops[i]? = some o) (hj : ops[j]? = some o') {d : Nat} (h1 : o.dst = some d) (h2 : o'.dst = some d) : i = j := by
 simp only [planOK, Bool.and_eq_true] at h
 have key : ∀ (i j : Nat) (o o' : Oper), ops[i]? = some o → ops[j]? = some o' → o.dst = some d → o'.dst = some d → j < i → False := by
  intro i j o o' hi hj h1 h2 hlt
  have h3 := h.1.2
  rw [List.all_eq_true] at h3
  have h4 := h3 i (by rw [List.mem_range]; exact (Array.getElem?_eq_some_iff.1 hi).1)
  rw [List.all_eq_true] at h4
  have h5 := h4 j (by rw [List.mem_range]; exact hlt)
  rw [hi, hj] at h5
  simp only [Option.bind_some, h1, h2] at h5
  simp at h5
 rcases Nat.lt_trichotomy i j with h' | h' | h'
 ·exact (key j i o' o hj hi h2 h1 h').elim
 ·exact h'
 ·exact (key i j o o' hi hj h1 h2 h').elim
theorem wpOp_of_WLR {C : Ctx} {ops : Array Oper} {o : Oper} {st : St} {i : Nat} {a : Act} {w : World} {K : Act → World → Prop} {Q : Exit → Act → World → Prop} {R : St → Prop} (hi : ops[i]? = some o)
  (h : WL C ops [o] st (fun e s => e = .normal ∧ R s)) (hr : Rel C st a w) (hK : ∀ s a w, R s → Rel C s a w → K a w) : wpOp C.P ops Q i K a w := by
 have h1 := h a w hr
 unfold wpList at h1
 unfold wpOp
 simp only [hi]
 have hno : ¬ LetsOut (Post C (fun e s => e = Exit.normal ∧ R s)) := fun ⟨_, _, _, ⟨he, _⟩, _⟩ => by cases he
 have hnext : ∀ a w, wpList C.P ops (Post C (fun e s => e = Exit.normal ∧ R s)) [] a w → K a w := fun a w ⟨s, ⟨_, hs⟩, hr⟩ => hK s a w hs hr
 split
 ·rename_i hw
  rw [if_pos hw] at h1
  rcases h1 with h1 | ⟨_, h1⟩
  ·left
   unfold Oper.wp at h1 ⊢
   generalize (execOp a.eval o).run C.P w = r at h1 ⊢
   cases r with
   | ok n w' =>
    cases n <;> simp only [Oper.upon] at h1 ⊢ <;>
     first
      | exact hnext _ _ h1
      | exact Calls.mono h1 (fun e w'' he => by cases e <;> first | exact hnext _ _ he | exact absurd he hno | (obtain ⟨_, ⟨he, _⟩, _⟩ := he; cases he))
      | exact Rows.mono h1 (fun _ _ he => hnext _ _ he)
   | halt x w' => cases x <;> simp only [Oper.upon] at h1 ⊢ <;> (obtain ⟨_, ⟨he, _⟩, _⟩ := h1; cases he)
  ·exact absurd h1 hno
 ·rename_i hw
  rw [if_neg hw] at h1
  exact hnext _ _ h1
/-- what is known while the region runs -/
structure MidX (ops : Array Oper) (env0 env : List (Nat × AV)) (listed : Array Bool) (done kn : List Nat) (rem : List PG) (V : List (Nat × Nat × AV)) (G : List (Nat × AV)) : Prop where
  size : listed.size = ops.size
  closed : Closed ops listed
  hdone : ∀ c ∈ done, listed.getD c false = true
  hrem : ∀ g ∈ rem, listed.getD g.c true = false
  known : ∀ i, listed.getD i false = true → i ∈ done ∨ i ∈ kn
  vals : ∀ x ∈ V, listed.getD x.1 false = true → look env x.2.1 = some x.2.2
  outs : ∀ t v, look G t = some v → look env t = some v
  rest : ∀ t v, look env0 t = some v → look env t = some v
  fresh : ∀ t v, look env0 t = some v → ∀ (i : Nat) (o : Oper), ops[i]? = some o → o.dst ≠ some t
  vdst : ∀ x ∈ V, ∃ o : Oper, ops[x.1]? = some o ∧ o.dst = some x.2.1
  uniq : ∀ x ∈ V, ∀ y ∈ V, x.1 = y.1 → x = y
  gdst : ∀ t v, look G t = some v → ∃ c ∈ done, ∃ o : Oper, ops[c]? = some o ∧ o.dst = some t
  vkn : ∀ x ∈ V, x.1 ∈ kn
  vrem : ∀ x ∈ V, ∀ g ∈ rem, g.c ≠ x.1
def newsOf : List PG → List Nat
  | [] => []
  | g :: _ => g.news.map (·.i)
def CurX (C : Ctx) (ops : Array Oper) (env0 : List (Nat × AV)) (Q : Exit → St → Prop) (V : List (Nat × Nat × AV)) (G : List (Nat × AV)) (objs : List AObj) : List PG → Prop
  | [] => WL C ops [] ⟨G ++ (V.map (·.2) ++ env0), objs⟩ Q
  | g :: r => (∀ f ∈ g.olds ++ g.news, ∃ o v V0, ops[f.i]? = some o ∧ (f.i, f.d, v) ∈ V ∧ (∀ x ∈ V0, x ∈ V) ∧ FlX C ops o f.d v (G ++ (pickV V0 f.js ++ env0)) objs) ∧
    ChX C ops env0 V G objs g.c g.d g.js (fun G' objs' => DrawX C ops env0 Q r V G' objs')
theorem OldsX.out {C : Ctx} {ops : Array Oper} {env0 : List (Nat × AV)} {V : List (Nat × Nat × AV)} {G : List (Nat × AV)} {objs : List AObj} : ∀ {l : List PF}, OldsX C ops env0 V G objs l → ∀ f ∈ l, ∃ o v, ops[f.i]? = some o ∧ (f.i, f.d, v) ∈ V ∧ FlX C ops o f.d v (G ++ (pickV V f.js ++ env0)) objs
 | _ :: _, ⟨h, _⟩, f, hf => by
  rename_i l' h' 
  rcases List.mem_cons.1 hf with rfl | hf
  ·exact h
  ·exact OldsX.out h' f hf
theorem NewsX.out {C : Ctx} {ops : Array Oper} {env0 : List (Nat × AV)} {G : List (Nat × AV)} {objs : List AObj} {K : List (Nat × Nat × AV) → Prop} : ∀ {l : List PF} {V : List (Nat × Nat × AV)}, NewsX C ops env0 G objs K l V →
  (l.map (·.i)).Nodup → (∀ f ∈ l, ∀ x ∈ V, x.1 ≠ f.i) → (∀ x ∈ V, ∀ y ∈ V, x.1 = y.1 → x = y) →
  ∃ V', (∀ x ∈ V, x ∈ V') ∧ K V' ∧ (∀ f ∈ l, ∃ o v V0, ops[f.i]? = some o ∧ (f.i, f.d, v) ∈ V' ∧ (∀ x ∈ V0, x ∈ V') ∧ FlX C ops o f.d v (G ++ (pickV V0 f.js ++ env0)) objs) ∧ (∀ x ∈ V', x ∈ V ∨ ∃ f ∈ l, x.1 = f.i ∧ x.2.1 = f.d) ∧ (∀ x ∈ V', ∀ y ∈ V', x.1 = y.1 → x = y)
 | [], V, h, _, _, hu => ⟨V, fun _ h => h, h, fun _ h => by simp at h, fun _ h => .inl h, hu⟩
 | f :: l, V, ⟨o, v, h1, h2, h3⟩, hn, hd, hu => by
  rw [List.map_cons, List.nodup_cons] at hn
  obtain ⟨V', g1, g2, g3, g4, g5⟩ := NewsX.out h3 hn.2 (fun f' hf' x hx => by
   rcases List.mem_cons.1 hx with rfl | hx
   ·intro e; exact hn.1 (List.mem_map.2 ⟨f', hf', e.symm⟩)
   ·exact hd f' (.tail _ hf') x hx) (fun x hx y hy e => by
   rcases List.mem_cons.1 hx with rfl | hx <;> rcases List.mem_cons.1 hy with rfl | hy
   ·rfl
   ·exact absurd e.symm (hd f (.head _) y hy)
   ·exact absurd e (hd f (.head _) x hx)
   ·exact hu x hx y hy e)
  refine ⟨V', fun x hx => g1 x (.tail _ hx), g2, fun f' hf' => ?_, fun x hx => ?_, g5⟩
  ·rcases List.mem_cons.1 hf' with rfl | hf'
   ·exact ⟨o, v, V, h1, g1 _ (.head _), fun x hx => g1 x (.tail _ hx), h2⟩
   ·exact g3 f' hf'
  ·rcases g4 x hx with h | ⟨f', hf', e⟩
   ·rcases List.mem_cons.1 h with rfl | h
    ·exact .inr ⟨f, .head _, rfl, rfl⟩
    ·exact .inl h
   ·exact .inr ⟨f', .tail _ hf', e⟩
theorem getD_ft {l : Array Bool} {i : Nat} (h : i < l.size) : l.getD i false = l.getD i true := by simp [Array.getD, h]
/-- the next group's values are known -/
theorem DrawX.cur {C : Ctx} {ops : Array Oper} {env0 env : List (Nat × AV)} {Q : Exit → St → Prop} {listed : Array Bool} {done kn : List Nat} {rem : List PG} {V : List (Nat × Nat × AV)} {G : List (Nat × AV)} {objs : List AObj}
  (h : DrawX C ops env0 Q rem V G objs) (hm : MidX ops env0 env listed done kn rem V G) (hchk : chkX ops (reachOf ops) done kn rem = true) :
  ∃ V', CurX C ops env0 Q V' G objs rem ∧ MidX ops env0 env listed done (newsOf rem ++ kn) rem V' G := by
 cases rem with
 | nil => exact ⟨V, h, hm⟩
 | cons g r =>
  obtain ⟨h1, h2⟩ := h
  simp only [chkX, Bool.and_eq_true, List.all_eq_true, decide_eq_true_eq, Bool.not_eq_true'] at hchk
  obtain ⟨⟨⟨⟨⟨⟨⟨c1, c2⟩, c3⟩, c4⟩, c5⟩, c6⟩, c7⟩, c8⟩ := hchk
  obtain ⟨V', g1, g2, g3, g4, g5⟩ := h2.out c5 (fun f hf x hx e => by
   have := c4 f hf
   have hk := hm.vkn x hx
   rw [e] at hk
   rw [List.contains_eq_mem] at this
   simp [hk] at this) hm.uniq
  refine ⟨V', ⟨fun f hf => ?_, g2⟩, hm.size, hm.closed, hm.hdone, hm.hrem, fun i hi => (hm.known i hi).imp id (List.mem_append_right _), fun x hx hl => ?_, hm.outs, hm.rest, hm.fresh, fun x hx => ?_, g5, hm.gdst, fun x hx => ?_, fun x hx g' hg' => ?_⟩
  ·rcases List.mem_append.1 hf with hf | hf
   ·obtain ⟨o, v, q1, q2, q3⟩ := h1.out f hf
    exact ⟨o, v, V, q1, g1 _ q2, g1, q3⟩
   ·exact g3 f hf
  ·rcases g4 x hx with h | ⟨f, hf, e1, e2⟩
   ·exact hm.vals x h hl
   ·rw [e1] at hl
    rcases hm.known _ hl with q | q
    ·have := (c3 f (List.mem_append_right _ hf)).1.2
     rw [List.contains_eq_mem] at this
     simp [q] at this
    ·have := c4 f hf
     rw [List.contains_eq_mem] at this
     simp [q] at this
  ·rcases g4 x hx with h | ⟨f, hf, e1, e2⟩
   ·exact hm.vdst x h
   ·have := (c3 f (List.mem_append_right _ hf)).1.1.1
    rw [e1, e2]
    cases ho : ops[f.i]? with
    | none => rw [ho] at this; simp at this
    | some o => rw [ho] at this; exact ⟨o, rfl, by simpa using this⟩
  ·rcases g4 x hx with h | ⟨f, hf, e1, e2⟩
   ·exact List.mem_append_right _ (hm.vkn x h)
   ·exact List.mem_append_left _ (by rw [e1]; exact List.mem_map_of_mem hf)
  ·rcases g4 x hx with h | ⟨f, hf, e1, e2⟩
   ·exact hm.vrem x h g' hg'
   ·have := (c3 f (List.mem_append_right _ hf)).1.1.2
    intro e
    have hany : (g :: r).any (fun g' => g'.c == f.i) = true := List.any_eq_true.2 ⟨g', hg', by rw [e, e1]; simp⟩
    rw [hany] at this; cases this
def unl (ops : Array Oper) (listed : Array Bool) : Nat := ((List.range ops.size).filter fun j => !listed.getD j true).length
theorem unl_set {ops : Array Oper} {listed : Array Bool} {i : Nat} (hsz : listed.size = ops.size) (hi : i < ops.size) (h2 : listed.getD i true = false) : unl ops listed = unl ops (listed.setIfInBounds i true) + 1 := by
 have aux : ∀ (l : List Nat), l.Nodup → i ∈ l → (l.filter fun j => !listed.getD j true).length = (l.filter fun j => !(listed.setIfInBounds i true).getD j true).length + 1 := by
  intro l
  induction l with
  | nil => intro _ h; cases h
  | cons x l ih2 =>
   intro hn hin
   rw [List.nodup_cons] at hn
   by_cases hx : x = i
   ·subst hx
    have hsz' : x < listed.size := by rw [hsz]; exact hi
    have hsame : (l.filter fun j => !listed.getD j true) = (l.filter fun j => !(listed.setIfInBounds x true).getD j true) := by
     apply List.filter_congr
     intro j hj
     rw [getD_set, if_neg]
     rintro ⟨rfl, _⟩
     exact hn.1 hj
    rw [List.filter_cons_of_pos (by simp [h2]), List.filter_cons_of_neg (by rw [getD_set]; simp [hsz']), List.length_cons, hsame]
   ·have hin' : i ∈ l := by
     rcases List.mem_cons.1 hin with h | h
     ·exact absurd h.symm hx
     ·exact h
    have hg : (listed.setIfInBounds i true).getD x true = listed.getD x true := by
     rw [getD_set, if_neg]
     rintro ⟨rfl, _⟩
     exact hx rfl
    have := ih2 hn.2 hin'
    by_cases hc : listed.getD x true = true
    ·rw [List.filter_cons_of_neg (by simp [hc]), List.filter_cons_of_neg (by rw [hg]; simp [hc])]; exact this
    ·rw [List.filter_cons_of_pos (by simpa using hc), List.filter_cons_of_pos (by rw [hg]; simpa using hc), List.length_cons, List.length_cons, this]
 exact aux (List.range ops.size) List.nodup_range (by rw [List.mem_range]; exact hi)
theorem MidX.seen {ops : Array Oper} {env0 env : List (Nat × AV)} {listed : Array Bool} {done kn : List Nat} {rem : List PG} {V V0 : List (Nat × Nat × AV)} {G : List (Nat × AV)} (hm : MidX ops env0 env listed done kn rem V G) {js : List Nat} (hV0 : ∀ x ∈ V0, x ∈ V)
  (hjs : ∀ j ∈ js, listed.getD j false = true) {t : Nat} {v : AV} (h : look ((G ++ (pickV V0 js ++ env0)) ++ env) t = some v) : look env t = some v := by
 rw [look_append, look_append, look_append] at h
 cases h1 : look G t with
 | some v' =>
  rw [h1] at h
  simp only [Option.some_or, Option.some.injEq] at h
  subst h; exact hm.outs t v' h1
 | none =>
  rw [h1, Option.none_or] at h
  cases h2 : look (pickV V0 js) t with
  | some v' =>
   rw [h2] at h
   simp only [Option.some_or, Option.some.injEq] at h
   subst h
   obtain ⟨i, hi, hx⟩ := look_pickV h2
   exact hm.vals _ (hV0 _ hx) (hjs i hi)
  | none =>
   rw [h2, Option.none_or] at h
   cases h3 : look env0 t with
   | some v' =>
    rw [h3] at h
    simp only [Option.some_or, Option.some.injEq] at h
    subst h; exact hm.rest t v' h3
   | none => rw [h3, Option.none_or] at h; exact h
theorem listed_back {ops : Array Oper} {listed : Array Bool} (hc : Closed ops listed) {c i : Nat} {o : Oper} (ho : ops[c]? = some o) (hl : listed.getD c false = true) (hb : bitR (reachOf ops) c i = true) : listed.getD i false = true :=
 reach_sound hc ho (hc c o ho hl) hb
theorem getD_set_f (l : Array Bool) (i j : Nat) (b d : Bool) (h : (l.setIfInBounds i b).getD j d = true) (hne : i ≠ j) : l.getD j d = true := by
 rw [getD_set, if_neg (fun e => hne e.1)] at h; exact h
theorem getD_set_t (l : Array Bool) (i j : Nat) (h : l.getD j false = true) : (l.setIfInBounds i true).getD j false = true := by
 rw [getD_set]; split
 ·rfl
 ·exact h
/-- a region that draws its order -/
theorem W.drawX {C : Ctx} {id : Nat} {ops : Array Oper} {env : List (Nat × AV)} {objs : List AObj} {Q : Exit → St → Prop} (hmix : C.P.follows .mixedOrders = true) (ds : List Nat) (plan : List PG) (hchk : (ops.toList.all (fun o => o.dst.all ds.contains) && planOK ops plan) = true)
  (h : DrawX C ops (clean ds env) Q plan [] [] objs) : W C (.region id ops true) ⟨env, objs⟩ Q := by
 rw [Bool.and_eq_true] at hchk
 obtain ⟨hds, hchk⟩ := hchk
 have hX : chkX ops (reachOf ops) [] [] plan = true := by
  simp only [planOK, Bool.and_eq_true] at hchk; exact hchk.2
 generalize he0 : clean ds env = env0 at h
 have hfresh : ∀ t v, look env0 t = some v → ∀ (i : Nat) (o : Oper), ops[i]? = some o → o.dst ≠ some t := by
  intro t v hl i o ho hd
  rw [← he0] at hl
  have h1 := (look_clean hl).1
  rw [List.all_eq_true] at hds
  have h2 := hds o (by rw [← Array.getElem?_toList] at ho; exact List.mem_of_getElem? ho)
  rw [hd] at h2
  simp only [Option.all_some, List.contains_eq_mem, decide_eq_true_eq] at h2
  exact h1 h2
 have main : ∀ (fuel : Nat) (listed : Array Bool) (envr : List (Nat × AV)) (a : Act) (w : World) (done kn kn0 : List Nat) (rem : List PG) (V : List (Nat × Nat × AV)) (G : List (Nat × AV)) (objs : List AObj),
   fuel = unl ops listed → kn = newsOf rem ++ kn0 → chkX ops (reachOf ops) done kn0 rem = true → MidX ops env0 envr listed done kn rem V G → CurX C ops env0 Q V G objs rem → Rel C ⟨envr, objs⟩ a w →
   wpAny C.P .any ops (Post C Q) fuel listed a w := by
  intro fuel
  have hend : ∀ (listed : Array Bool) (envr : List (Nat × AV)) (a : Act) (w : World) (done kn kn0 : List Nat) (rem : List PG) (V : List (Nat × Nat × AV)) (G : List (Nat × AV)) (objs : List AObj),
    (∀ j, j < ops.size → listed.getD j true = true) → chkX ops (reachOf ops) done kn0 rem = true → MidX ops env0 envr listed done kn rem V G → CurX C ops env0 Q V G objs rem → Rel C ⟨envr, objs⟩ a w → Post C Q .normal a w := by
   intro listed envr a w done kn kn0 rem V G objs hall hx hm hcur hr
   cases rem with
   | cons g r =>
    exfalso
    simp only [chkX, Bool.and_eq_true] at hx
    have c1 := hx.1.1.1.1.1.1.1
    have hlt : g.c < ops.size := by
     rcases Nat.lt_or_ge g.c ops.size with q | q
     ·exact q
     ·rw [Array.getElem?_eq_none q] at c1; cases c1
    have := hm.hrem g (.head _)
    rw [hall _ hlt] at this; cases this
   | nil =>
    refine hcur a w (hr.env fun t v hl => ?_)
    refine hm.seen (V0 := V) (js := V.map (·.1)) (fun _ h => h) (fun j hj => ?_) (?_ : look ((G ++ (pickV V (V.map (·.1)) ++ env0)) ++ envr) t = some v)
    ·obtain ⟨x, hx', rfl⟩ := List.mem_map.1 hj
     obtain ⟨o, ho, _⟩ := hm.vdst x hx'
     have hlt : x.1 < listed.size := by rw [hm.size]; exact (Array.getElem?_eq_some_iff.1 ho).1
     rw [getD_ft hlt]; exact hall _ (by rw [← hm.size]; exact hlt)
    ·have hpick : ∀ (V : List (Nat × Nat × AV)) (js : List Nat), (∀ x ∈ V, x.1 ∈ js) → pickV V js = V.map (·.2) := by
      intro V js
      induction V with
      | nil => intro _; rfl
      | cons x r ih =>
       intro h
       simp only [pickV, List.contains_eq_mem, decide_eq_true_eq, h x (.head _), if_true, List.map_cons]
       rw [ih fun y hy => h y (.tail _ hy)]
     rw [hpick V _ (fun x hx => List.mem_map_of_mem hx), look_append, hl, Option.some_or]
  have hready : ∀ (listed : Array Bool), listed.size = ops.size → Region.ready .any ops listed = [] → ∀ j, j < ops.size → listed.getD j true = true := by
   intro listed hsz h0
   refine Classical.byContradiction fun hn => ?_
   have hex : ∃ j, j < ops.size ∧ listed.getD j true = false := by
    refine Classical.byContradiction fun hn' => hn fun j hj => ?_
    cases h1 : listed.getD j true with
    | true => rfl
    | false => exact absurd ⟨j, hj, h1⟩ hn'
   obtain ⟨m, ⟨hm1, hm2⟩, hmin⟩ := least hex
   have : m ∈ Region.ready .any ops listed := by
    unfold Region.ready
    rw [List.mem_filter, List.mem_range]
    refine ⟨hm1, ?_⟩
    simp only [hm2, Bool.not_false, Bool.true_and, Array.getElem?_eq_getElem hm1, Option.map_some, Option.getD_some, Array.all_eq_true']
    intro e he
    by_cases hb : Region.binds .any e = true
    ·simp only [hb, Bool.not_true, Bool.false_or]
     have hback := plan_back hchk (Array.getElem?_eq_getElem hm1) (by simpa using he) hb
     have h5 : listed.getD e.on true = true := by
      cases h6 : listed.getD e.on true with
      | true => rfl
      | false => have := hmin e.on ⟨by omega, h6⟩; omega
     have : e.on < listed.size := by rw [hsz]; omega
     simpa [Array.getD, this] using h5
    ·simp [hb]
   rw [h0] at this; cases this
  induction fuel with
  | zero =>
   intro listed envr a w done kn kn0 rem V G objs hf hkn hx hm hcur hr
   have hall : ∀ j, j < ops.size → listed.getD j true = true := by
    intro j hj
    have h0 := List.eq_nil_of_length_eq_zero hf.symm
    cases h1 : listed.getD j true with
    | true => rfl
    | false =>
     have : j ∈ (List.range ops.size).filter fun j => !listed.getD j true := by
      rw [List.mem_filter, List.mem_range]; exact ⟨hj, by simp [h1]⟩
     rw [h0] at this; cases this
   refine ⟨?_, hend listed envr a w done kn kn0 rem V G objs hall hx hm hcur hr⟩
   rw [List.eq_nil_iff_forall_not_mem]
   intro i hi
   obtain ⟨h1, h2, _⟩ := mem_ready hi
   rw [hall i h1] at h2; cases h2
  | succ fuel ih =>
   intro listed envr a w done kn kn0 rem V G objs hf hkn hx hm hcur hr
   refine ⟨fun h0 => hend listed envr a w done kn kn0 rem V G objs (hready listed hm.size h0) hx hm hcur hr, fun i hi => ?_⟩
   obtain ⟨h1, h2, o, ho, h3⟩ := mem_ready hi
   have hdeps : ∀ k ∈ depsOf o, listed.getD k false = true := fun k hk => by
    simp only [depsOf, List.mem_map, List.mem_filter] at hk
    obtain ⟨e, ⟨he1, he2⟩, rfl⟩ := hk
    exact h3 e he1 he2
   have hil : i < listed.size := by rw [hm.size]; exact h1
   have hno : listed.getD i false = true → False := fun q => by rw [getD_ft hil, h2] at q; cases q
   have hdoneX : ∀ c ∈ done, bitR (reachOf ops) c i = true → False := fun c hc hb => by
    have hcl := hm.hdone c hc
    have hcs : c < ops.size := by
     rcases Nat.lt_or_ge c listed.size with q | q
     ·rw [← hm.size]; exact q
     ·simp [Array.getD, Nat.not_lt.2 q] at hcl
    exact hno (listed_back hm.closed (Array.getElem?_eq_getElem hcs) hcl hb)
   have hbitdone : ∀ j, (done.any fun c => bitR (reachOf ops) c j) = true → listed.getD j false = true := fun j hb => by
    obtain ⟨c, hc, hb⟩ := List.any_eq_true.1 hb
    have hcl := hm.hdone c hc
    have hcs : c < ops.size := by
     rcases Nat.lt_or_ge c listed.size with q | q
     ·rw [← hm.size]; exact q
     ·simp [Array.getD, Nat.not_lt.2 q] at hcl
    exact listed_back hm.closed (Array.getElem?_eq_getElem hcs) hcl hb
   cases rem with
   | nil =>
    exfalso
    simp only [chkX, List.all_eq_true] at hx
    have := hx i (by rw [List.mem_range]; exact h1)
    rw [Bool.or_eq_true, List.contains_eq_mem, decide_eq_true_eq] at this
    rcases this with q | q
    ·exact hno (hm.hdone i q)
    ·exact hno (hbitdone i q)
   | cons g r =>
    have hx' := hx
    simp only [chkX, Bool.and_eq_true, List.all_eq_true, decide_eq_true_eq, Bool.not_eq_true'] at hx'
    obtain ⟨⟨⟨⟨⟨⟨⟨c1, c2⟩, c3⟩, c4⟩, c5⟩, c6⟩, c7⟩, c8⟩ := hx'
    obtain ⟨hfl, hch⟩ := hcur
    have hcase : i = g.c ∨ ∃ f ∈ g.olds ++ g.news, f.i = i := by
     have := c7 i (by rw [List.mem_range]; exact h1)
     simp only [Bool.or_eq_true, beq_iff_eq] at this
     rcases this with (((q | q) | q) | q) | q
     ·exact (hno (hm.hdone i (by simpa [List.contains_eq_mem] using q))).elim
     ·exact .inl q
     ·obtain ⟨f, hf, q⟩ := List.any_eq_true.1 q
      exact .inr ⟨f, hf, by simpa using q⟩
     ·obtain ⟨g', hg', q⟩ := List.any_eq_true.1 q
      have q1 := reach_sound hm.closed ho hdeps q
      have q2 := hm.hrem g' hg'
      have hlt : g'.c < listed.size := by
       rcases Nat.lt_or_ge g'.c listed.size with q | q
       ·exact q
       ·simp [Array.getD, Nat.not_lt.2 q] at q1
      rw [getD_ft hlt, q2] at q1; cases q1
     ·exact (hno (hbitdone i q)).elim
    have hset : unl ops listed = unl ops (listed.setIfInBounds i true) + 1 := unl_set hm.size h1 h2
    rcases hcase with rfl | ⟨f, hf', rfl⟩
    ·-- the effect
     obtain ⟨o', ho', hstep⟩ := hch
     obtain rfl : o' = o := by rw [ho] at ho'; injection ho' with ho'; exact ho'.symm
     have hd : o'.dst = g.d := by rw [ho] at c1; simpa using c1
     have hjs : ∀ j ∈ g.js, listed.getD j false = true := fun j hj => by
      have := c2 j hj
      rw [Bool.or_eq_true] at this
      rcases this with q | q
      ·exact reach_sound hm.closed ho hdeps q
      ·exact hbitdone j q
     refine wpOp_of_WLR ho (hstep envr) (hr.env fun t v hl => hm.seen (fun _ h => h) hjs hl) ?_
     intro s a' w' hRX hr'
     obtain ⟨l, objs', rfl, hl, hK⟩ := hRX.out
     have hlt : ∀ t v, look l t = some v → o'.dst = some t := by
      intro t v h
      rw [hd]
      cases l with
      | nil => cases h
      | cons p l =>
       cases hg : g.d with
       | none => rw [hg] at hl; simp at hl
       | some d =>
        rw [hg] at hl
        simp only [List.map_cons, Option.toList_some, List.cons.injEq, List.map_eq_nil_iff] at hl
        obtain ⟨rfl, rfl⟩ := hl
        simp only [look] at h
        split at h
        ·rename_i he; simp at he; subst he; rfl
        ·cases h
     have hr2 : Rel C ⟨l ++ envr, objs'⟩ a' w' := by
      refine Rel.env (st := ⟨l ++ ((G ++ (pickV V g.js ++ env0)) ++ envr), objs'⟩) hr' fun t v hl' => ?_
      rw [look_append] at hl' ⊢
      cases h5 : look l t with
      | some v' => rw [h5] at hl'; exact hl'
      | none =>
       rw [h5, Option.none_or] at hl'
       show (none : Option AV).or _ = some v
       rw [Option.none_or]
       cases h6 : look ((G ++ (pickV V g.js ++ env0)) ++ envr) t with
       | some v' => have := hm.seen (fun _ h => h) hjs h6; rw [hl'] at this; exact this.symm
       | none => rw [look_append, hl'] at h6; cases h7 : look (G ++ (pickV V g.js ++ env0)) t <;> rw [h7] at h6 <;> cases h6
     have hm2 : MidX ops env0 (l ++ envr) (listed.setIfInBounds g.c true) (g.c :: done) kn r V (l ++ G) := by
      have hkeep : ∀ t, o'.dst ≠ some t → look (l ++ envr) t = look envr t := by
       intro t hne
       rw [look_append]
       cases h5 : look l t with
       | some v' => exact absurd (hlt t v' h5) hne
       | none => rfl
      refine ⟨by simp [hm.size], hm.closed.set ho hdeps, fun c hc => ?_, fun g' hg' => ?_, fun j hj => ?_, fun x hx hl' => ?_, fun t v hl' => ?_, fun t v hl' => ?_, hm.fresh, hm.vdst, hm.uniq, fun t v hl' => ?_, hm.vkn, fun x hx g' hg' => hm.vrem x hx g' (.tail _ hg')⟩
      ·rcases List.mem_cons.1 hc with rfl | hc
       ·rw [getD_set]; simp [hil]
       ·exact getD_set_t _ _ _ (hm.hdone c hc)
      ·have := c6 g' hg'
       simp only [bne_iff_ne] at this
       rw [getD_set, if_neg (fun e => this.2 e.1.symm)]
       exact hm.hrem g' (.tail _ hg')
      ·by_cases e : g.c = j
       ·subst e; exact .inl (.head _)
       ·exact (hm.known j (getD_set_f _ _ _ _ _ hj e)).imp (fun q => List.mem_cons_of_mem _ q) (fun q => q)
      ·obtain ⟨o2, q1, q2⟩ := hm.vdst x hx
       have hne : g.c ≠ x.1 := hm.vrem x hx g (.head _)
       rw [hkeep _ fun e => hne (plan_dst hchk ho q1 e q2)]
       exact hm.vals x hx (getD_set_f _ _ _ _ _ hl' hne)
      ·rw [look_append] at hl' ⊢
       cases h5 : look l t with
       | some v' => rw [h5] at hl'; exact hl'
       | none => rw [h5, Option.none_or] at hl'; simpa using hm.outs t v hl'
      ·rw [hkeep _ (hm.fresh t v hl' _ _ ho)]; exact hm.rest t v hl'
      ·rw [look_append] at hl'
       cases h5 : look l t with
       | some v' => exact ⟨g.c, .head _, o', ho, hlt t v' h5⟩
       | none =>
        rw [h5, Option.none_or] at hl'
        obtain ⟨c, hc, q⟩ := hm.gdst t v hl'
        exact ⟨c, .tail _ hc, q⟩
     replace c8 : chkX ops (reachOf ops) (g.c :: done) kn r = true := by rw [hkn]; exact c8
     obtain ⟨V', hcur', hm'⟩ := hK.cur hm2 c8
     exact ih _ _ a' w' _ _ _ r V' _ objs' (by omega) rfl c8 hm' hcur' hr2
    ·-- a value
     obtain ⟨o', v, V0, ho', hx1, hV0, hstep⟩ := hfl f hf'
     obtain rfl : o' = o := by rw [ho] at ho'; injection ho' with ho'; exact ho'.symm
     have c3f := c3 f hf'
     have hd : o'.dst = some f.d := by have := c3f.1.1.1; rw [ho] at this; simpa using this
     have hjs : ∀ j ∈ f.js, listed.getD j false = true := fun j hj => by
      have := c3f.2 j hj
      rw [Bool.or_eq_true] at this
      rcases this with q | q
      ·exact reach_sound hm.closed ho hdeps q
      ·exact hbitdone j q
     have hseen : ∀ t c, look ((G ++ (pickV V0 f.js ++ env0)) ++ envr) t = some c → look envr t = some c := fun t c hl => hm.seen hV0 hjs hl
     refine wpOp_of_WL (st := ⟨(G ++ (pickV V0 f.js ++ env0)) ++ envr, objs⟩) ho (hstep envr) (hr.env hseen) fun a' w' hr' => ?_
     have hr2 : Rel C ⟨(f.d, v) :: envr, objs⟩ a' w' := by
      refine Rel.env (st := ⟨(f.d, v) :: ((G ++ (pickV V0 f.js ++ env0)) ++ envr), objs⟩) hr' fun t c hl => ?_
      simp only [look] at hl ⊢
      split at hl
      ·rename_i he; rw [if_pos he]; exact hl
      ·rename_i he
       rw [if_neg he]
       cases h5 : look ((G ++ (pickV V0 f.js ++ env0)) ++ envr) t with
       | some v' => have := hseen t v' h5; rw [hl] at this; exact this.symm
       | none => rw [look_append, hl] at h5; cases h6 : look (G ++ (pickV V0 f.js ++ env0)) t <;> rw [h6] at h5 <;> cases h5
     have hkeep : ∀ t, o'.dst ≠ some t → look ((f.d, v) :: envr) t = look envr t := by
      intro t hne
      simp only [look]
      rw [if_neg]
      intro e
      simp at e
      exact hne (by rw [hd, e])
     refine ih _ ((f.d, v) :: envr) a' w' done kn kn0 (g :: r) V G objs (by omega) hkn hx ?_ ⟨hfl, hch⟩ hr2
     refine ⟨by simp [hm.size], hm.closed.set ho hdeps, fun c hc => getD_set_t _ _ _ (hm.hdone c hc), fun g' hg' => ?_, fun j hj => ?_, fun x hx hl' => ?_, fun t c hl' => ?_, fun t c hl' => ?_, hm.fresh, hm.vdst, hm.uniq, hm.gdst, hm.vkn, hm.vrem⟩
     ·have hne := hm.vrem _ hx1 g' hg'
      rw [getD_set, if_neg (fun e => hne e.1.symm)]
      exact hm.hrem g' hg'
     ·by_cases e : f.i = j
      ·subst e; exact .inr (hm.vkn _ hx1)
      ·exact hm.known j (getD_set_f _ _ _ _ _ hj e)
     ·by_cases e : f.i = x.1
      ·have := hm.uniq _ hx1 x hx e
       subst this
       simp [look]
      ·obtain ⟨o2, q1, q2⟩ := hm.vdst x hx
       rw [hkeep _ fun e' => e (plan_dst hchk ho q1 e' q2)]
       exact hm.vals x hx (getD_set_f _ _ _ _ _ hl' e)
     ·obtain ⟨c', hc', o2, q1, q2⟩ := hm.gdst t c hl'
      rw [hkeep _ fun e' => ?_]
      ·exact hm.outs t c hl'
      ·have := plan_dst hchk ho q1 e' q2
       rw [← this] at hc'
       exact hno (hm.hdone _ hc')
     ·rw [hkeep _ (hm.fresh t c hl' _ _ ho)]; exact hm.rest t c hl'
 intro a w hr
 have hm0 : MidX ops env0 env (Array.replicate ops.size false) [] [] plan [] [] := by
  have hrep : ∀ j, (Array.replicate ops.size false).getD j false = false := fun j => by
   simp only [Array.getD_eq_getD_getElem?, Array.getElem?_replicate]
   split <;> rfl
  refine ⟨by simp, fun i o ho hl => ?_, fun c hc => (by cases hc), fun g hg => ?_, fun i hi => ?_, fun x hx => (by cases hx), fun t v hl => (by cases hl), fun t v hl => ?_, hfresh, fun x hx => (by cases hx), fun x hx => (by cases hx), fun t v hl => (by cases hl), fun x hx => (by cases hx), fun x hx => (by cases hx)⟩
  ·rw [hrep] at hl; cases hl
  ·have hall : ∀ (done kn : List Nat) (plan : List PG), chkX ops (reachOf ops) done kn plan = true → ∀ g ∈ plan, g.c < ops.size := by
    intro done kn plan
    induction plan generalizing done kn with
    | nil => intro _ g hg; cases hg
    | cons g0 r ih2 =>
     intro hx g hg
     simp only [chkX, Bool.and_eq_true] at hx
     rcases List.mem_cons.1 hg with rfl | hg
     ·have c1 := hx.1.1.1.1.1.1.1
      rcases Nat.lt_or_ge g.c ops.size with q | q
      ·exact q
      ·rw [Array.getElem?_eq_none q] at c1; cases c1
     ·exact ih2 _ _ hx.2 g hg
   have := hall _ _ _ hX g hg
   simp [Array.getD, this]
  ·rw [hrep] at hi; cases hi
  ·rw [← he0] at hl
   exact (look_clean hl).2
 obtain ⟨V', hcur, hm'⟩ := h.cur hm0 hX
 refine wp_region_any hmix (main ops.size _ env a _ [] _ [] plan V' [] objs ?_ rfl hX hm' hcur hr.drew)
 rw [unl, List.filter_eq_self.2, List.length_range]
 intro j hj
 rw [List.mem_range] at hj
 simp [Array.getD, hj]
theorem DrawX.grp {C : Ctx} {ops : Array Oper} {env0 : List (Nat × AV)} {Q : Exit → St → Prop} {news olds : List PF} {c : Nat} {d : Option Nat} {js : List Nat} {r : List PG} {V : List (Nat × Nat × AV)} {G : List (Nat × AV)} {objs : List AObj}
  (h1 : OldsX C ops env0 V G objs olds) (h2 : NewsX C ops env0 G objs (fun V' => ChX C ops env0 V' G objs c d js (fun G' objs' => DrawX C ops env0 Q r V' G' objs')) news V) : DrawX C ops env0 Q (⟨news, olds, c, d, js⟩ :: r) V G objs := ⟨h1, h2⟩
theorem OldsX.nil {C : Ctx} {ops : Array Oper} {env0 : List (Nat × AV)} {V : List (Nat × Nat × AV)} {G : List (Nat × AV)} {objs : List AObj} : OldsX C ops env0 V G objs [] := trivial
theorem OldsX.cons {C : Ctx} {ops : Array Oper} {env0 : List (Nat × AV)} {V : List (Nat × Nat × AV)} {G : List (Nat × AV)} {objs : List AObj} {i d : Nat} {js : List Nat} {r : List PF} {o : Oper} {v : AV} (ho : ops[i]? = some o) (hv : (i, d, v) ∈ V)
  (h : ∀ more, WL C ops [o] ⟨(G ++ (pickV V js ++ env0)) ++ more, objs⟩ (fun e st' => e = .normal ∧ st' = ⟨(d, v) :: ((G ++ (pickV V js ++ env0)) ++ more), objs⟩)) (hr : OldsX C ops env0 V G objs r) : OldsX C ops env0 V G objs (⟨i, d, js⟩ :: r) :=
 ⟨⟨o, v, ho, hv, h⟩, hr⟩
theorem NewsX.nil {C : Ctx} {ops : Array Oper} {env0 : List (Nat × AV)} {G : List (Nat × AV)} {objs : List AObj} {K : List (Nat × Nat × AV) → Prop} {V : List (Nat × Nat × AV)} (h : K V) : NewsX C ops env0 G objs K [] V := h
theorem NewsX.cons {C : Ctx} {ops : Array Oper} {env0 : List (Nat × AV)} {G : List (Nat × AV)} {objs : List AObj} {K : List (Nat × Nat × AV) → Prop} {V : List (Nat × Nat × AV)} {i d : Nat} {js : List Nat} {r : List PF} {o : Oper} {v : AV} (ho : ops[i]? = some o)
  (h : ∀ more, WL C ops [o] ⟨(G ++ (pickV V js ++ env0)) ++ more, objs⟩ (fun e st' => e = .normal ∧ st' = ⟨(d, v) :: ((G ++ (pickV V js ++ env0)) ++ more), objs⟩)) (hr : NewsX C ops env0 G objs K r ((i, d, v) :: V)) : NewsX C ops env0 G objs K (⟨i, d, js⟩ :: r) V :=
 ⟨o, v, ho, h, hr⟩
theorem ChX.val {C : Ctx} {ops : Array Oper} {env0 : List (Nat × AV)} {V : List (Nat × Nat × AV)} {G : List (Nat × AV)} {objs : List AObj} {c d : Nat} {js : List Nat} {K : List (Nat × AV) → List AObj → Prop} {o : Oper} (ho : ops[c]? = some o)
  (h : ∀ more, WL C ops [o] ⟨(G ++ (pickV V js ++ env0)) ++ more, objs⟩ (fun e st' => e = .normal ∧ ∃ v objs', st' = ⟨(d, v) :: ((G ++ (pickV V js ++ env0)) ++ more), objs'⟩ ∧ K ((d, v) :: G) objs')) : ChX C ops env0 V G objs c (some d) js K :=
 ⟨o, ho, h⟩
theorem ChX.eff {C : Ctx} {ops : Array Oper} {env0 : List (Nat × AV)} {V : List (Nat × Nat × AV)} {G : List (Nat × AV)} {objs : List AObj} {c : Nat} {js : List Nat} {K : List (Nat × AV) → List AObj → Prop} {o : Oper} (ho : ops[c]? = some o)
  (h : ∀ more, WL C ops [o] ⟨(G ++ (pickV V js ++ env0)) ++ more, objs⟩ (fun e st' => e = .normal ∧ ∃ objs', st' = ⟨(G ++ (pickV V js ++ env0)) ++ more, objs'⟩ ∧ K G objs')) : ChX C ops env0 V G objs c none js K :=
 ⟨o, ho, h⟩
theorem DrawX.done {C : Ctx} {ops : Array Oper} {env0 env' : List (Nat × AV)} {Q : Exit → St → Prop} {V : List (Nat × Nat × AV)} {G : List (Nat × AV)} {objs : List AObj} (he : G ++ (V.map (·.2) ++ env0) = env') (h : Q .normal ⟨env', objs⟩) : DrawX C ops env0 Q [] V G objs := by
 subst he; exact WL.nil h
end Go.Lens

set_option linter.unusedVariables false
set_option linter.unusedSimpArgs false
namespace Go.Proofs.YtehoobhbginahaaGreatDoor
open Go Go.Lens
theorem bal_back (l : List En) (x : En) : cntF (bal (l ++ [x])) x.db x.cr (-(amZ x.am)) = bal l := by
 funext a
 rw [bal_snoc, cntF_eq, cntF_eq]
 omega
theorem GoodL.take {l : List En} (h : GoodL l) (n : Nat) : GoodL (l.take n) := fun x hx => h x (List.mem_of_mem_take hx)
theorem clip_ens (l : List En) (hl : l.length ≤ 1000000) : Does Tryz.prog 43 [.row (ensAV l) l.length] (.clip (ensAV l) l.length) := by
 refine does tab_ok Tryz.func43 rfl rfl rfl rfl rfl fun w0 H0 hk hj => ?_
 have hlen := ensAV_length l
 refine W.seq (W.region ?_)
 refine z_p ?_
 refine WL.nil ?_
 refine W.seq (W.region ?_)
 refine z_p ?_
 refine z_p ?_
 first | refine z_n ?_ | refine z_m ?_ | refine z_k ?_
 refine z_p ?_
 first | refine z_n ?_ | refine z_m ?_ | refine z_k ?_
 refine sq (v_clip_row (h := l.length) rfl rfl rfl rfl rfl hlen rfl ⟨_, _, rfl, by omega, rfl⟩ ⟨_, _, rfl, by omega, rfl⟩ rfl (Nat.zero_le _) (Nat.le_refl _)) (show _ = AV.clip (ensAV l) l.length by rw [Nat.zero_mul, List.drop_zero, Nat.sub_zero, List.take_of_length_le (by rw [hlen]; exact Nat.le_refl _)]) rfl rfl rfl ?_
 refine z_p ?_
 refine WL.nil ?_
 exact W.ret (fin rfl (.shut (.plain (by first | rfl | simp [AV.plain])) .nil) rfl)
section
variable {nt : Nat} {w0 : World} {k : Nat} {H0 : View} {ln : Nat → Nat} {hk : ∀ o, o < k → H0.blk o < w0.heap.size} {hj : ∀ x o, x < k → o < k → H0.blk x = H0.blk o → x = o} {sv : List (Array Value × List (Nat × AV))}
  {ops : Array Oper} {o : Oper} {rest : List Oper} {env : List (Nat × AV)} {objs : List AObj} {Q : Exit → St → Prop} {x : Operand} {xs : Array Operand} {ts : Array TypeId} {d b m j j2 : Nat}
theorem back_prep {l : List En} {X Y Z : AObj} {C : Ctx} {code : Code} (hB : Bk m j l X Y Z) (hb : objs[b]? = some X) (hj' : objs[j]? = some Z) (hbj : b ≠ j)
  (h : W C code ⟨env, (objs.set j .dead).set b (bkO (.row (ensAV l) l.length) m)⟩ Q) : W C code ⟨env, objs⟩ Q := by
 have hjl := (List.getElem?_eq_some_iff.1 hj').1
 cases hB with
 | clip es hes hg =>
  refine W.die j hjl (W.recell 0 (.row (ensAV l) l.length) (get_other hb (Ne.symm hbj)) rfl (Sub.clip_row _ _) h)
 | own es ver hes hg hl =>
  refine W.sealO 0 hb rfl hj' (by rw [ensAV_length]; omega) hbj ?_
  rw [List.drop_zero, List.take_of_length_le (by rw [ensAV_length]; exact Nat.le_refl _)]
  exact h
theorem back_si {l : List En} {X Y Z : AObj} (n : Nat) (hB : Bk m j l X Y Z) (hop : o.op = .call { callee := .value x, args := xs, argTypes := ts }) (hx : ev ⟨env, objs⟩ x = some (.func (.func 20) [] [])) (hxs : evL ⟨env, objs⟩ xs.toList = some [.ptr b 0 0, .int .i64 n])
  (hb : objs[b]? = some X) (hm : objs[m]? = some Y) (hj' : objs[j]? = some Z) (hbm : b ≠ m) (hbj : b ≠ j) (hmj : m ≠ j) (hmk : k ≤ m) (hn : n ≤ l.length) (hll : l.length ≤ 1000000) (hsz : ∀ e ∈ l, e.am.length ≤ 9223372036854775807)
  (hg : gd ops ⟨env, objs⟩ o = some true) (hd : o.dst = some d) (hlt : Nat.blt d nt = true)
  (h : ∀ X' Y', Bk m j2 (l.take n) X' Y' .slot → WL ⟨Tryz.prog, tab, tab_ok, nt, w0, k, H0, ln, hk, hj, sv⟩ ops rest ⟨(d, .int .i64 0) :: env, ((objs.set j .dead).set b X').set m Y'⟩ Q) :
  WL ⟨Tryz.prog, tab, tab_ok, nt, w0, k, H0, ln, hk, hj, sv⟩ ops (o :: rest) ⟨env, objs⟩ Q := by
 refine si Tryz.func20 rfl rfl rfl rfl hop hx hxs rfl rfl hg hd hlt fun tm => ?_
 refine W.get fun hO hE hS hK => ?_
 refine back_prep hB hb hj' hbj ?_
 obtain ⟨_, es, _, rfl, hes⟩ := hB.bk
 have hgl := hB.good
 have hjN := (List.getElem?_eq_some_iff.1 hj').1
 have hbN := (List.getElem?_eq_some_iff.1 hb).1
 have hmN := (List.getElem?_eq_some_iff.1 hm).1
 generalize hO1 : objs.set j .dead = O1 at *
 have hN1 : O1.length = objs.length := by rw [← hO1, List.length_set]
 have hm1 : O1[m]? = some (.kv .i64 es) := by rw [← hO1]; exact get_other hm (Ne.symm hmj)
 have hScO1 : ScO O1 := by rw [← hO1]; exact hO.set (fun _ _ _ _ h => by cases h)
 have hb1 : b < O1.length := by omega
 have hbX : ∀ c, (O1.set b (bkO c m))[b]? = some (bkO c m) := fun c => List.getElem?_set_self hb1
 have hmX : ∀ c, (O1.set b (bkO c m))[m]? = some (.kv .i64 es) := fun c => get_other hm1 hbm
 have hbY : ∀ c es', ((O1.set b (bkO c m)).set m (.kv .i64 es'))[b]? = some (bkO c m) := fun c es' => get_other (hbX c) (Ne.symm hbm)
 have hmY : ∀ c es', ((O1.set b (bkO c m)).set m (.kv .i64 es'))[m]? = some (.kv .i64 es') := fun c es' => get_set (hmX c)
 have hlenY : ∀ c es', ((O1.set b (bkO c m)).set m (.kv .i64 es')).length = O1.length := fun c es' => by rw [List.length_set, List.length_set]
 have hScY : ∀ cs n' es', ScO ((O1.set b (bkO (.row cs n') m)).set m (.kv .i64 es')) := fun cs n' es' => by
  refine (hScO1.set (fun cs' _ _ _ h => ?_)).kv m _ _
  simp only [bkO, AObj.cells.injEq] at h
  rw [← h.1]
  simp [scopedL, AV.inside]; omega
 have hScC : ∀ cs n' es', ScO ((O1.set b (bkO (.clip cs n') m)).set m (.kv .i64 es')) := fun cs n' es' => by
  refine (hScO1.set (fun cs' _ _ _ h => ?_)).kv m _ _
  simp only [bkO, AObj.cells.injEq] at h
  rw [← h.1]
  simp [scopedL, AV.inside]; omega
 have hsetb : ∀ c c' es', ((O1.set b (bkO c m)).set m (.kv .i64 es')).set b (bkO c' m) = (O1.set b (bkO c' m)).set m (.kv .i64 es') := fun c c' es' => by
  rw [List.set_comm _ _ (Ne.symm hbm), List.set_set]
 have hsetm : ∀ c es' es2, ((O1.set b (bkO c m)).set m (.kv .i64 es')).set m (.kv .i64 es2) = (O1.set b (bkO c m)).set m (.kv .i64 es2) := fun c es' es2 => by
  rw [List.set_set]
 have e0 : O1.set b (bkO (.row (ensAV l) l.length) m) = (O1.set b (bkO (.row (ensAV (l.take l.length)) l.length) m)).set m (.kv .i64 es) := by
  rw [List.take_length]; exact set_self (hmX _)
 have hS1 : ScS O1.length ((tm, env) :: sv) := by rw [hN1]; exact hS
 have hK1 : k ≤ O1.length := by rw [hN1]; exact hK
 rw [e0]
 refine W.base ?_
 have hbA := hbY (.row (ensAV (l.take l.length)) l.length) es
 generalize hN : O1.length = N at *
 have hNA := hlenY (.row (ensAV (l.take l.length)) l.length) es
 have hc1 : ¬ ((n : Int) < 0) := by omega
 have hc2 : ¬ ((n : Int) > l.length) := by omega
 refine W.seq (W.region ?_)
 refine z_p ?_
 refine WL.nil ?_
 refine W.seq (W.block ?_)
 refine W.seq (W.region ?_)
 refine z_p ?_
 refine sp (v_isnil_ptr rfl rfl (get_old hbA) rfl rfl) rfl rfl rfl ?_
 refine z_p ?_
 refine WL.nil ?_
 refine W.cond_false rfl ?_
 refine W.seq (W.region ?_)
 refine z_p ?_
 refine z_F hc1 ?_
 refine z_p ?_
 refine z_p ?_
 refine z_p ?_
 first | refine z_p ?_ | refine sp (v_nilCheck rfl rfl (get_new (by first | assumption | (simp only [List.length_set]; assumption)) rfl)) rfl rfl rfl ?_ | refine sp (v_nilCheck rfl rfl (get_old hbA)) rfl rfl rfl ?_
 first | refine sp (v_fieldAddr rfl rfl (get_new (by first | assumption | (simp only [List.length_set]; assumption)) rfl) rfl rfl rfl rfl (by decide)) rfl rfl rfl ?_ | refine sp (v_fieldAddr rfl rfl (get_old hbA) rfl rfl rfl rfl (by decide)) rfl rfl rfl ?_ | refine z_g ?_
 first | refine sp (v_load rfl rfl (get_new (by first | assumption | (simp only [List.length_set]; assumption)) rfl) rfl rfl) rfl rfl rfl ?_ | refine sp (v_load rfl rfl (get_old hbA) rfl rfl) rfl rfl rfl ?_ | refine z_r ?_
 refine sp (v_len (n := l.length) rfl rfl rfl rfl ⟨_, rfl⟩ trivial) rfl rfl rfl ?_
 refine z_F hc2 ?_
 refine z_p ?_
 refine z_p ?_
 refine WL.nil ?_
 refine W.cond_false rfl (W.skip ?_)
 let S : Nat → List (Int × AV) → St := fun i es' => ⟨[(0, .ptr b 0 0), (1, .int .i64 n)], ((O1.set b (bkO (.row (ensAV (l.take i)) i) m)).set m (.kv .i64 es'))⟩
 have fit : ∀ i es', ScO (S i es').objs ∧ ScE (S i es').objs.length (S i es').env ∧ ScS (S i es').objs.length ((tm, env) :: sv) ∧ k ≤ (S i es').objs.length := by
  intro i es'
  refine ⟨hScY _ _ _, ScE.of ?_, ?_, ?_⟩
  ·simp only [S, List.length_set, envScoped, AV.inside, scopedL, Bool.and_true, Bool.true_and, Bool.and_eq_true, decide_eq_true_eq]
   omega
  ·simp only [S, List.length_set, hN]; exact hS1
  ·simp only [S, List.length_set, hN]; exact hK1
 refine W.seq (W.block (W.loopS (fun q st => ∃ i es', n ≤ i ∧ i ≤ l.length ∧ q = i - n ∧ KV es' (bal (l.take i)) ∧ st = S i es') (l.length - n) ⟨l.length, es, hn, Nat.le_refl _, rfl, by rw [List.take_length]; exact hes, rfl⟩
  ⟨⟨[], rfl⟩, ⟨rfl, rfl, trivial⟩, fit l.length es⟩ ?_))
 rintro _ _ ⟨i, es', hi1, hi2, rfl, hes', rfl⟩
 have hbB := hbY (.row (ensAV (l.take i)) i) es'
 have hmB := hmY (.row (ensAV (l.take i)) i) es'
 have hNB := hlenY (.row (ensAV (l.take i)) i) es'
 by_cases hil : n < i
 ·obtain ⟨i0, rfl⟩ : ∃ i0, i = i0 + 1 := ⟨i - 1, by omega⟩
  have hi0 : i0 < l.length := by omega
  have hts : l.take (i0 + 1) = l.take i0 ++ [l[i0]] := List.take_succ_eq_append_getElem hi0
  have hlt1 : (l.take (i0 + 1)).length = i0 + 1 := by rw [List.length_take]; omega
  have hlt0 : (l.take i0).length = i0 := by rw [List.length_take]; omega
  have hen : (ensAV (l.take (i0 + 1))).length = (i0 + 1) * 6 := by rw [ensAV_length, hlt1]
  have hei : (ensAV (l.take (i0 + 1))).drop (i0 * 6) = l[i0].cells ++ [] := by
   rw [hts, ensAV_snoc, List.append_nil]
   have := ensAV_length (l.take i0)
   rw [hlt0] at this
   rw [← this, List.drop_left]
  have hne : ensAV (l.take (i0 + 1)) ≠ [] := fun e => by rw [e] at hen; simp at hen
  have hal := hsz _ (List.getElem_mem hi0)
  have hz := amZ_le l[i0].am (good_amZ (hgl _ (List.getElem_mem hi0))).1
  have hzn : (-(amZ l[i0].am)).natAbs = (amZ l[i0].am).natAbs := Int.natAbs_neg _
  have hL1 : Lim (-(amZ l[i0].am)).natAbs := Lim.small (N := 1) (by omega) (by omega)
  have hgt := hgl.take (i0 + 1)
  have hL2 : ∀ a, Lim (bal (l.take (i0 + 1)) a).natAbs := fun a => Lim.small (N := i0 + 1) (by have := bal_le hgt a; rw [hlt1] at this; exact this) (by omega)
  have hL3 : Lim (turn (bal (l.take (i0 + 1))) l[i0].db (bal (l.take (i0 + 1)) l[i0].db + -(amZ l[i0].am)) l[i0].cr).natAbs := by
   refine Lim.small (N := i0 + 2) ?_ (by omega)
   have q1 := bal_le hgt l[i0].db
   have q2 := bal_le hgt l[i0].cr
   rw [hlt1] at q1 q2
   rw [Nat.add_mul (i0 + 1) 1, Nat.one_mul]
   simp only [turn]
   split <;> omega
  have hng := wNeg (amZ l[i0].am)
  refine W.base ?_
  have hbC := hbY (.row (ensAV (l.take (i0 + 1))) (i0 + 1)) (cntE es' (bal (l.take (i0 + 1))) l[i0].db l[i0].cr (-(amZ l[i0].am)))
  have hNC := hlenY (.row (ensAV (l.take (i0 + 1))) (i0 + 1)) (cntE es' (bal (l.take (i0 + 1))) l[i0].db l[i0].cr (-(amZ l[i0].am)))
  refine W.seq (W.seq (W.region ?_))
  refine z_p ?_
  first | refine z_p ?_ | refine sp (v_nilCheck rfl rfl (get_new (by first | assumption | (simp only [List.length_set]; assumption)) rfl)) rfl rfl rfl ?_ | refine sp (v_nilCheck rfl rfl (get_old hbB)) rfl rfl rfl ?_ | refine sp (v_nilCheck rfl rfl (get_old hbC)) rfl rfl rfl ?_
  first | refine sp (v_fieldAddr rfl rfl (get_new (by first | assumption | (simp only [List.length_set]; assumption)) rfl) rfl rfl rfl rfl (by decide)) rfl rfl rfl ?_ | refine sp (v_fieldAddr rfl rfl (get_old hbB) rfl rfl rfl rfl (by decide)) rfl rfl rfl ?_ | refine sp (v_fieldAddr rfl rfl (get_old hbC) rfl rfl rfl rfl (by decide)) rfl rfl rfl ?_ | refine z_g ?_
  first | refine sp (v_load rfl rfl (get_new (by first | assumption | (simp only [List.length_set]; assumption)) rfl) rfl rfl) rfl rfl rfl ?_ | refine sp (v_load rfl rfl (get_old hbB) rfl rfl) rfl rfl rfl ?_ | refine sp (v_load rfl rfl (get_old hbC) rfl rfl) rfl rfl rfl ?_ | refine z_r ?_
  refine sp (v_len (n := i0 + 1) rfl rfl rfl rfl ⟨_, rfl⟩ trivial) rfl rfl rfl ?_
  refine z_p ?_
  refine z_T (show (((i0 + 1 : Nat) : Int)) > n by omega) ?_
  refine WL.nil ?_
  refine W.cond_true rfl (W.skip ?_)
  refine W.block ?_
  refine W.seq (W.drawX mixed [28, 29, 30, 31, 32, 33, 34, 35, 36, 37, 38, 39, 5] [⟨[⟨0, 28, []⟩, ⟨1, 29, [0]⟩, ⟨2, 30, [1]⟩, ⟨3, 31, [2]⟩, ⟨4, 32, []⟩, ⟨5, 33, [4]⟩, ⟨6, 34, [5]⟩, ⟨7, 35, [6]⟩, ⟨8, 36, [7]⟩, ⟨9, 37, [8]⟩, ⟨10, 38, [3, 9]⟩, ⟨11, 39, [10]⟩], [], 12, some 5, []⟩, ⟨[], [⟨0, 28, []⟩, ⟨1, 29, [0]⟩, ⟨2, 30, [1]⟩, ⟨3, 31, [2]⟩, ⟨4, 32, []⟩, ⟨5, 33, [4]⟩, ⟨6, 34, [5]⟩, ⟨7, 35, [6]⟩, ⟨8, 36, [7]⟩, ⟨9, 37, [8]⟩, ⟨10, 38, [3, 9]⟩, ⟨11, 39, [10]⟩], 13, none, [11]⟩] (by kernel_rfl) ?_)
  refine DrawX.grp ?_ ?_
  ·exact OldsX.nil
  apply NewsX.cons rfl
  ·intro more
   refine z_p ?_
   exact z_e
  apply NewsX.cons rfl
  ·intro more
   first | refine z_p ?_ | refine sp (v_nilCheck rfl rfl (get_new (by first | assumption | (simp only [List.length_set]; assumption)) rfl)) rfl rfl rfl ?_ | refine sp (v_nilCheck rfl rfl (get_old hbB)) rfl rfl rfl ?_ | refine sp (v_nilCheck rfl rfl (get_old hbC)) rfl rfl rfl ?_
   exact z_e
  apply NewsX.cons rfl
  ·intro more
   first | refine sp (v_fieldAddr rfl rfl (get_new (by first | assumption | (simp only [List.length_set]; assumption)) rfl) rfl rfl rfl rfl (by decide)) rfl rfl rfl ?_ | refine sp (v_fieldAddr rfl rfl (get_old hbB) rfl rfl rfl rfl (by decide)) rfl rfl rfl ?_ | refine sp (v_fieldAddr rfl rfl (get_old hbC) rfl rfl rfl rfl (by decide)) rfl rfl rfl ?_ | refine z_g ?_
   exact z_e
  apply NewsX.cons rfl
  ·intro more
   first | refine sp (v_load rfl rfl (get_new (by first | assumption | (simp only [List.length_set]; assumption)) rfl) rfl rfl) rfl rfl rfl ?_ | refine sp (v_load rfl rfl (get_old hbB) rfl rfl) rfl rfl rfl ?_ | refine sp (v_load rfl rfl (get_old hbC) rfl rfl) rfl rfl rfl ?_ | refine z_r ?_
   exact z_e
  apply NewsX.cons rfl
  ·intro more
   refine z_p ?_
   exact z_e
  apply NewsX.cons rfl
  ·intro more
   first | refine z_p ?_ | refine sp (v_nilCheck rfl rfl (get_new (by first | assumption | (simp only [List.length_set]; assumption)) rfl)) rfl rfl rfl ?_ | refine sp (v_nilCheck rfl rfl (get_old hbB)) rfl rfl rfl ?_ | refine sp (v_nilCheck rfl rfl (get_old hbC)) rfl rfl rfl ?_
   exact z_e
  apply NewsX.cons rfl
  ·intro more
   first | refine sp (v_fieldAddr rfl rfl (get_new (by first | assumption | (simp only [List.length_set]; assumption)) rfl) rfl rfl rfl rfl (by decide)) rfl rfl rfl ?_ | refine sp (v_fieldAddr rfl rfl (get_old hbB) rfl rfl rfl rfl (by decide)) rfl rfl rfl ?_ | refine sp (v_fieldAddr rfl rfl (get_old hbC) rfl rfl rfl rfl (by decide)) rfl rfl rfl ?_ | refine z_g ?_
   exact z_e
  apply NewsX.cons rfl
  ·intro more
   first | refine sp (v_load rfl rfl (get_new (by first | assumption | (simp only [List.length_set]; assumption)) rfl) rfl rfl) rfl rfl rfl ?_ | refine sp (v_load rfl rfl (get_old hbB) rfl rfl) rfl rfl rfl ?_ | refine sp (v_load rfl rfl (get_old hbC) rfl rfl) rfl rfl rfl ?_ | refine z_r ?_
   exact z_e
  apply NewsX.cons rfl
  ·intro more
   refine sp (v_len (n := i0 + 1) rfl rfl rfl rfl ⟨_, rfl⟩ trivial) rfl rfl rfl ?_
   exact z_e
  apply NewsX.cons rfl
  ·intro more
   refine sq (v_i64 (r := ((i0 + 1 : Nat) : Int) - 1) rfl rfl rfl rfl (by omega) (by omega)) (show _ = AV.int .i64 (i0 : Int) from congrArg (AV.int .i64) (show ((i0 + 1 : Nat) : Int) - 1 = (i0 : Int) by omega)) rfl rfl rfl ?_
   exact z_e
  apply NewsX.cons rfl
  ·intro more
   refine sp (v_indexAddr_row rfl rfl rfl rfl rfl rfl (by omega) (by omega) hne) rfl rfl rfl ?_
   exact z_e
  apply NewsX.cons rfl
  ·intro more
   refine sq (v_load_radr rfl rfl rfl (loadc_enr (i := i0 * 6) hei rfl rfl)) (show _ = l[i0].av from rfl) rfl rfl rfl ?_
   exact z_e
  refine NewsX.nil ?_
  refine ChX.val rfl fun more => ?_
  refine sn (a_allocB (by first | assumption | (simp only [List.length_set]; assumption)) rfl rfl rfl rfl) (rfl : _ = AV.ptr (N + 0) 0 0) rfl rfl rfl rfl ?_
  refine WL.nil ⟨rfl, _, _, rfl, ?_⟩
  refine DrawX.grp ?_ ?_
  ·refine OldsX.cons rfl (by repeat (first | exact List.Mem.head _ | refine List.Mem.tail _ ?_)) ?_ ?_
   ·intro more
    refine z_p ?_
    exact z_e
   refine OldsX.cons rfl (by repeat (first | exact List.Mem.head _ | refine List.Mem.tail _ ?_)) ?_ ?_
   ·intro more
    first | refine z_p ?_ | refine sp (v_nilCheck rfl rfl (get_new (by first | assumption | (simp only [List.length_set]; assumption)) rfl)) rfl rfl rfl ?_ | refine sp (v_nilCheck rfl rfl (get_old hbB)) rfl rfl rfl ?_ | refine sp (v_nilCheck rfl rfl (get_old hbC)) rfl rfl rfl ?_
    exact z_e
   refine OldsX.cons rfl (by repeat (first | exact List.Mem.head _ | refine List.Mem.tail _ ?_)) ?_ ?_
   ·intro more
    first | refine sp (v_fieldAddr rfl rfl (get_new (by first | assumption | (simp only [List.length_set]; assumption)) rfl) rfl rfl rfl rfl (by decide)) rfl rfl rfl ?_ | refine sp (v_fieldAddr rfl rfl (get_old hbB) rfl rfl rfl rfl (by decide)) rfl rfl rfl ?_ | refine sp (v_fieldAddr rfl rfl (get_old hbC) rfl rfl rfl rfl (by decide)) rfl rfl rfl ?_ | refine z_g ?_
    exact z_e
   refine OldsX.cons rfl (by repeat (first | exact List.Mem.head _ | refine List.Mem.tail _ ?_)) ?_ ?_
   ·intro more
    first | refine sp (v_load rfl rfl (get_new (by first | assumption | (simp only [List.length_set]; assumption)) rfl) rfl rfl) rfl rfl rfl ?_ | refine sp (v_load rfl rfl (get_old hbB) rfl rfl) rfl rfl rfl ?_ | refine sp (v_load rfl rfl (get_old hbC) rfl rfl) rfl rfl rfl ?_ | refine z_r ?_
    exact z_e
   refine OldsX.cons rfl (by repeat (first | exact List.Mem.head _ | refine List.Mem.tail _ ?_)) ?_ ?_
   ·intro more
    refine z_p ?_
    exact z_e
   refine OldsX.cons rfl (by repeat (first | exact List.Mem.head _ | refine List.Mem.tail _ ?_)) ?_ ?_
   ·intro more
    first | refine z_p ?_ | refine sp (v_nilCheck rfl rfl (get_new (by first | assumption | (simp only [List.length_set]; assumption)) rfl)) rfl rfl rfl ?_ | refine sp (v_nilCheck rfl rfl (get_old hbB)) rfl rfl rfl ?_ | refine sp (v_nilCheck rfl rfl (get_old hbC)) rfl rfl rfl ?_
    exact z_e
   refine OldsX.cons rfl (by repeat (first | exact List.Mem.head _ | refine List.Mem.tail _ ?_)) ?_ ?_
   ·intro more
    first | refine sp (v_fieldAddr rfl rfl (get_new (by first | assumption | (simp only [List.length_set]; assumption)) rfl) rfl rfl rfl rfl (by decide)) rfl rfl rfl ?_ | refine sp (v_fieldAddr rfl rfl (get_old hbB) rfl rfl rfl rfl (by decide)) rfl rfl rfl ?_ | refine sp (v_fieldAddr rfl rfl (get_old hbC) rfl rfl rfl rfl (by decide)) rfl rfl rfl ?_ | refine z_g ?_
    exact z_e
   refine OldsX.cons rfl (by repeat (first | exact List.Mem.head _ | refine List.Mem.tail _ ?_)) ?_ ?_
   ·intro more
    first | refine sp (v_load rfl rfl (get_new (by first | assumption | (simp only [List.length_set]; assumption)) rfl) rfl rfl) rfl rfl rfl ?_ | refine sp (v_load rfl rfl (get_old hbB) rfl rfl) rfl rfl rfl ?_ | refine sp (v_load rfl rfl (get_old hbC) rfl rfl) rfl rfl rfl ?_ | refine z_r ?_
    exact z_e
   refine OldsX.cons rfl (by repeat (first | exact List.Mem.head _ | refine List.Mem.tail _ ?_)) ?_ ?_
   ·intro more
    refine sp (v_len (n := i0 + 1) rfl rfl rfl rfl ⟨_, rfl⟩ trivial) rfl rfl rfl ?_
    exact z_e
   refine OldsX.cons rfl (by repeat (first | exact List.Mem.head _ | refine List.Mem.tail _ ?_)) ?_ ?_
   ·intro more
    refine sq (v_i64 (r := ((i0 + 1 : Nat) : Int) - 1) rfl rfl rfl rfl (by omega) (by omega)) (show _ = AV.int .i64 (i0 : Int) from congrArg (AV.int .i64) (show ((i0 + 1 : Nat) : Int) - 1 = (i0 : Int) by omega)) rfl rfl rfl ?_
    exact z_e
   refine OldsX.cons rfl (by repeat (first | exact List.Mem.head _ | refine List.Mem.tail _ ?_)) ?_ ?_
   ·intro more
    refine sp (v_indexAddr_row rfl rfl rfl rfl rfl rfl (by omega) (by omega) hne) rfl rfl rfl ?_
    exact z_e
   refine OldsX.cons rfl (by repeat (first | exact List.Mem.head _ | refine List.Mem.tail _ ?_)) ?_ ?_
   ·intro more
    refine sq (v_load_radr rfl rfl rfl (loadc_enr (i := i0 * 6) hei rfl rfl)) (show _ = l[i0].av from rfl) rfl rfl rfl ?_
    exact z_e
   exact OldsX.nil
  refine NewsX.nil ?_
  refine ChX.eff rfl fun more => ?_
  refine ss (a_storeA rfl rfl (get_new (by first | assumption | (simp only [List.length_set]; assumption)) rfl) rfl rfl (fun h => by cases h) rfl rfl rfl (Nat.le_of_ble_eq_true rfl)) (set_new (by first | assumption | (simp only [List.length_set]; assumption))) rfl rfl ?_
  refine WL.nil ⟨rfl, _, rfl, ?_⟩
  refine DrawX.done (rfl : _ = (_, _) :: (_, _) :: (_, _) :: (_, _) :: (_, _) :: (_, _) :: (_, _) :: (_, _) :: (_, _) :: (_, _) :: (_, _) :: (_, _) :: (_, _) :: _) ?_
  refine W.seq (W.drawnR mixed [40, 41, 42, 43, 44] (by kernel_rfl) ?_)
  apply DrawFrom.stepR
  ·intro more
   refine z_p ?_
   exact z_e
  apply DrawFrom.stepR
  ·intro more
   first | refine sq (v_load rfl rfl (get_new (by first | assumption | (simp only [List.length_set]; assumption)) rfl) rfl rfl) (rfl : _ = AV.agg [_, _, _, _, _, _]) rfl rfl rfl ?_ | refine sq (v_load rfl rfl (get_old hbB) rfl rfl) (rfl : _ = AV.agg [_, _, _, _, _, _]) rfl rfl rfl ?_ | refine sq (v_load rfl rfl (get_old hbC) rfl rfl) (rfl : _ = AV.agg [_, _, _, _, _, _]) rfl rfl rfl ?_ | refine sq (v_load_radr rfl rfl rfl rfl) (rfl : _ = AV.agg [_, _, _, _, _, _]) rfl rfl rfl ?_
   exact z_e
  apply DrawFrom.stepR
  ·intro more
   first | refine sq (v_load rfl rfl (get_new (by first | assumption | (simp only [List.length_set]; assumption)) rfl) rfl rfl) (rfl : _ = AV.agg [_, _, _, _, _, _]) rfl rfl rfl ?_ | refine sq (v_load rfl rfl (get_old hbB) rfl rfl) (rfl : _ = AV.agg [_, _, _, _, _, _]) rfl rfl rfl ?_ | refine sq (v_load rfl rfl (get_old hbC) rfl rfl) (rfl : _ = AV.agg [_, _, _, _, _, _]) rfl rfl rfl ?_ | refine sq (v_load_radr rfl rfl rfl rfl) (rfl : _ = AV.agg [_, _, _, _, _, _]) rfl rfl rfl ?_
   exact z_e
  apply DrawFrom.stepR
  ·intro more
   refine z_c (bookAmount_spec l[i0] hal) ?_
   exact z_e
  apply DrawFrom.stepR
  ·intro more
   refine z_c (hng) ?_
   exact z_e
  refine DrawFrom.doneR (rfl : _ = (_, _) :: (_, _) :: (_, _) :: (_, _) :: (_, _) :: _) ?_
  refine count_si l[i0] (-(amZ l[i0].am)) rfl rfl rfl (get_old hbB) (get_old hmB) hes' hbm hmk hL1 (hL2 _) hL3 rfl rfl rfl ?_
  rw [set_old hmB, hsetm]
  refine WL.nil ?_
  have hcut : ((ensAV (l.take (i0 + 1))).drop (0 * 6)).take ((i0 - 0) * 6) = ensAV (l.take i0) := by
   rw [Nat.zero_mul, List.drop_zero, Nat.sub_zero, hts, ensAV_snoc]
   have := ensAV_length (l.take i0)
   rw [hlt0] at this
   rw [← this, List.take_left]
  refine W.drawnR mixed [46, 47, 48, 49, 50, 51, 52, 53, 54, 55, 56, 57] (by kernel_rfl) ?_
  apply DrawFrom.stepR
  ·intro more
   refine z_p ?_
   exact z_e
  apply DrawFrom.stepR
  ·intro more
   refine z_p ?_
   exact z_e
  apply DrawFrom.stepR
  ·intro more
   first | refine z_p ?_ | refine sp (v_nilCheck rfl rfl (get_new (by first | assumption | (simp only [List.length_set]; assumption)) rfl)) rfl rfl rfl ?_ | refine sp (v_nilCheck rfl rfl (get_old hbB)) rfl rfl rfl ?_ | refine sp (v_nilCheck rfl rfl (get_old hbC)) rfl rfl rfl ?_
   exact z_e
  apply DrawFrom.stepR
  ·intro more
   first | refine sp (v_fieldAddr rfl rfl (get_new (by first | assumption | (simp only [List.length_set]; assumption)) rfl) rfl rfl rfl rfl (by decide)) rfl rfl rfl ?_ | refine sp (v_fieldAddr rfl rfl (get_old hbB) rfl rfl rfl rfl (by decide)) rfl rfl rfl ?_ | refine sp (v_fieldAddr rfl rfl (get_old hbC) rfl rfl rfl rfl (by decide)) rfl rfl rfl ?_ | refine z_g ?_
   exact z_e
  apply DrawFrom.stepR
  ·intro more
   first | refine sp (v_load rfl rfl (get_new (by first | assumption | (simp only [List.length_set]; assumption)) rfl) rfl rfl) rfl rfl rfl ?_ | refine sp (v_load rfl rfl (get_old hbB) rfl rfl) rfl rfl rfl ?_ | refine sp (v_load rfl rfl (get_old hbC) rfl rfl) rfl rfl rfl ?_ | refine z_r ?_
   exact z_e
  apply DrawFrom.stepR
  ·intro more
   refine z_p ?_
   exact z_e
  apply DrawFrom.stepR
  ·intro more
   first | refine z_p ?_ | refine sp (v_nilCheck rfl rfl (get_new (by first | assumption | (simp only [List.length_set]; assumption)) rfl)) rfl rfl rfl ?_ | refine sp (v_nilCheck rfl rfl (get_old hbB)) rfl rfl rfl ?_ | refine sp (v_nilCheck rfl rfl (get_old hbC)) rfl rfl rfl ?_
   exact z_e
  apply DrawFrom.stepR
  ·intro more
   first | refine sp (v_fieldAddr rfl rfl (get_new (by first | assumption | (simp only [List.length_set]; assumption)) rfl) rfl rfl rfl rfl (by decide)) rfl rfl rfl ?_ | refine sp (v_fieldAddr rfl rfl (get_old hbB) rfl rfl rfl rfl (by decide)) rfl rfl rfl ?_ | refine sp (v_fieldAddr rfl rfl (get_old hbC) rfl rfl rfl rfl (by decide)) rfl rfl rfl ?_ | refine z_g ?_
   exact z_e
  apply DrawFrom.stepR
  ·intro more
   first | refine sp (v_load rfl rfl (get_new (by first | assumption | (simp only [List.length_set]; assumption)) rfl) rfl rfl) rfl rfl rfl ?_ | refine sp (v_load rfl rfl (get_old hbB) rfl rfl) rfl rfl rfl ?_ | refine sp (v_load rfl rfl (get_old hbC) rfl rfl) rfl rfl rfl ?_ | refine z_r ?_
   exact z_e
  apply DrawFrom.stepR
  ·intro more
   refine sp (v_len (n := i0 + 1) rfl rfl rfl rfl ⟨_, rfl⟩ trivial) rfl rfl rfl ?_
   exact z_e
  apply DrawFrom.stepR
  ·intro more
   refine sq (v_i64 (r := ((i0 + 1 : Nat) : Int) - 1) rfl rfl rfl rfl (by omega) (by omega)) (show _ = AV.int .i64 (i0 : Int) from congrArg (AV.int .i64) (show ((i0 + 1 : Nat) : Int) - 1 = (i0 : Int) by omega)) rfl rfl rfl ?_
   exact z_e
  apply DrawFrom.stepR
  ·intro more
   refine sq (v_slice_row (m := 0) (l := 0) (h := i0) rfl rfl rfl rfl rfl hen rfl ⟨_, _, rfl, by omega, rfl⟩ (fun _ h => by cases h) (fun h => by cases h) (by omega) (by omega)) (show _ = AV.row (ensAV (l.take i0)) i0 from congrArg (fun q => AV.row q i0) hcut) rfl rfl rfl ?_
   exact z_e
  refine DrawFrom.doneR (rfl : _ = (_, _) :: (_, _) :: (_, _) :: (_, _) :: (_, _) :: (_, _) :: (_, _) :: (_, _) :: (_, _) :: (_, _) :: (_, _) :: (_, _) :: _) ?_
  first | refine z_p ?_ | refine sp (v_nilCheck rfl rfl (get_new (by first | assumption | (simp only [List.length_set]; assumption)) rfl)) rfl rfl rfl ?_ | refine sp (v_nilCheck rfl rfl (get_old hbB)) rfl rfl rfl ?_ | refine sp (v_nilCheck rfl rfl (get_old hbC)) rfl rfl rfl ?_
  first | refine sp (v_fieldAddr rfl rfl (get_new (by first | assumption | (simp only [List.length_set]; assumption)) rfl) rfl rfl rfl rfl (by decide)) rfl rfl rfl ?_ | refine sp (v_fieldAddr rfl rfl (get_old hbB) rfl rfl rfl rfl (by decide)) rfl rfl rfl ?_ | refine sp (v_fieldAddr rfl rfl (get_old hbC) rfl rfl rfl rfl (by decide)) rfl rfl rfl ?_ | refine z_g ?_
  refine ss (a_store1 rfl rfl (get_old hbC) rfl trivial (fun h => by cases h) rfl rfl (Nat.le_of_ble_eq_true rfl)) ((set_old hbC).trans (congrArg (· ++ _) (hsetb _ (.row (ensAV (l.take i0)) i0) _))) rfl rfl ?_
  refine WL.nil ?_
  exact ⟨i0 - n, _, _, by omega, ⟨i0, _, by omega, by omega, rfl, (by rw [← bal_back (l.take i0) l[i0], ← hts]; exact hes'.cnt _ _ _), rfl⟩, ⟨_, rfl⟩, ⟨rfl, rfl, trivial⟩, fit i0 _⟩
 ·have hie : i = n := by omega
  subst hie
  refine W.base ?_
  refine W.seq (W.seq (W.region ?_))
  refine z_p ?_
  first | refine z_p ?_ | refine sp (v_nilCheck rfl rfl (get_new (by first | assumption | (simp only [List.length_set]; assumption)) rfl)) rfl rfl rfl ?_ | refine sp (v_nilCheck rfl rfl (get_old hbB)) rfl rfl rfl ?_
  first | refine sp (v_fieldAddr rfl rfl (get_new (by first | assumption | (simp only [List.length_set]; assumption)) rfl) rfl rfl rfl rfl (by decide)) rfl rfl rfl ?_ | refine sp (v_fieldAddr rfl rfl (get_old hbB) rfl rfl rfl rfl (by decide)) rfl rfl rfl ?_ | refine z_g ?_
  first | refine sp (v_load rfl rfl (get_new (by first | assumption | (simp only [List.length_set]; assumption)) rfl) rfl rfl) rfl rfl rfl ?_ | refine sp (v_load rfl rfl (get_old hbB) rfl rfl) rfl rfl rfl ?_ | refine z_r ?_
  refine sp (v_len (n := i) rfl rfl rfl rfl ⟨_, rfl⟩ trivial) rfl rfl rfl ?_
  refine z_p ?_
  refine z_F (show ¬ ((i : Nat) : Int) > i by omega) ?_
  refine WL.nil ?_
  refine W.cond_false rfl (W.exit ?_)
  have hcl := clip_ens (l.take i) (by rw [List.length_take]; omega)
  rw [List.length_take, Nat.min_eq_left hi2] at hcl
  refine W.seq (W.region ?_)
  refine z_p ?_
  refine z_p ?_
  first | refine z_p ?_ | refine sp (v_nilCheck rfl rfl (get_new (by first | assumption | (simp only [List.length_set]; assumption)) rfl)) rfl rfl rfl ?_ | refine sp (v_nilCheck rfl rfl (get_old hbB)) rfl rfl rfl ?_
  first | refine sp (v_fieldAddr rfl rfl (get_new (by first | assumption | (simp only [List.length_set]; assumption)) rfl) rfl rfl rfl rfl (by decide)) rfl rfl rfl ?_ | refine sp (v_fieldAddr rfl rfl (get_old hbB) rfl rfl rfl rfl (by decide)) rfl rfl rfl ?_ | refine z_g ?_
  first | refine sp (v_load rfl rfl (get_new (by first | assumption | (simp only [List.length_set]; assumption)) rfl) rfl rfl) rfl rfl rfl ?_ | refine sp (v_load rfl rfl (get_old hbB) rfl rfl) rfl rfl rfl ?_ | refine z_r ?_
  refine z_c (hcl) ?_
  first | refine z_p ?_ | refine sp (v_nilCheck rfl rfl (get_new (by first | assumption | (simp only [List.length_set]; assumption)) rfl)) rfl rfl rfl ?_ | refine sp (v_nilCheck rfl rfl (get_old hbB)) rfl rfl rfl ?_
  first | refine sp (v_fieldAddr rfl rfl (get_new (by first | assumption | (simp only [List.length_set]; assumption)) rfl) rfl rfl rfl rfl (by decide)) rfl rfl rfl ?_ | refine sp (v_fieldAddr rfl rfl (get_old hbB) rfl rfl rfl rfl (by decide)) rfl rfl rfl ?_ | refine z_g ?_
  refine ss (a_store1 rfl rfl (get_old hbB) rfl trivial (fun h => by cases h) rfl rfl (Nat.le_of_ble_eq_true rfl)) ((set_old hbB).trans (congrArg (· ++ _) (hsetb _ (.clip (ensAV (l.take i)) i) _))) rfl rfl ?_
  refine WL.nil ?_
  refine W.seq (W.region ?_)
  refine z_p ?_
  refine WL.nil ?_
  have hclip : Bk m j2 (l.take i) (bkO (.clip (ensAV (l.take i)) i) m) (.kv .i64 es') .slot := by
   have := Bk.clip (m := m) (j := j2) (l := l.take i) es' hes' (hgl.take i)
   rw [List.length_take, Nat.min_eq_left hi2] at this
   exact this
  exact W.ret ⟨.inl rfl, _, rfl, sd (h _ _ hclip) (hScC _ _ _) (by simp only [List.length_set]; exact hN) hS1 rfl rfl hK1⟩
end
end Go.Proofs.YtehoobhbginahaaGreatDoor

set_option linter.unusedVariables false
set_option linter.unusedSimpArgs false
namespace Go.Proofs.YtehoobhbginahaaGreatDoor
open Go Go.Lens
theorem cmpD_le {y m d y' m' d' : Int} : cmpD y m d y' m' d' ≤ 0 ↔ y < y' ∨ y = y' ∧ (m < m' ∨ m = m' ∧ d ≤ d') := by
 simp only [cmpD, or3, cmpI]
 repeat' split
 all_goals omega
theorem cmpD_lt {y m d y' m' d' : Int} : cmpD y m d y' m' d' < 0 ↔ y < y' ∨ y = y' ∧ (m < m' ∨ m = m' ∧ d < d') := by
 simp only [cmpD, or3, cmpI]
 repeat' split
 all_goals omega
abbrev Dt := Int × Int × Int
def nextT (x : Dt) : Dt := if x.2.2 < daysF x.1 x.2.1 then (x.1, x.2.1, x.2.2 + 1) else if x.2.1 < 12 then (x.1, x.2.1 + 1, 1) else (x.1 + 1, 1, 1)
def itT : Nat → Dt → Dt
  | 0, x => x
  | n + 1, x => nextT (itT n x)
def ordT (x : Dt) : Int := x.1 * 372 + x.2.1 * 31 + x.2.2
def rightT (x : Dt) : Prop := (1 ≤ x.1 ∧ x.1 ≤ 9999) ∧ (1 ≤ x.2.1 ∧ x.2.1 ≤ 12) ∧ 1 ≤ x.2.2 ∧ x.2.2 ≤ daysF x.1 x.2.1
theorem rightT_F {x : Dt} : rightT x ↔ rightF x.1 x.2.1 x.2.2 = true := by
 simp only [rightF, decide_eq_true_eq, rightT]
 constructor
 ·exact fun h => h.2.2
 ·intro h
  refine ⟨?_, ?_, h⟩
  ·refine Classical.byContradiction fun hn => ?_
   rw [daysF_lo (.inl hn)] at h; omega
  ·refine Classical.byContradiction fun hn => ?_
   rw [daysF_lo (.inr (by omega))] at h; omega
theorem rightT_days {x : Dt} (h : rightT x) : 28 ≤ daysF x.1 x.2.1 ∧ daysF x.1 x.2.1 ≤ 31 := daysF_right h.1 h.2.1
theorem nextT_right {x : Dt} (h : rightT x) (hy : x.1 < 9999) : rightT (nextT x) ∧ ordT x < ordT (nextT x) ∧ ordT (nextT x) ≤ ordT x + 4 := by
 obtain ⟨y, m, d⟩ := x
 have hd := rightT_days h
 obtain ⟨h1, h2, h3, h4⟩ := h
 simp only at h1 h2 h3 h4 hd hy
 simp only [nextT, rightT, ordT]
 by_cases c : d < daysF y m
 ·rw [if_pos c]; simp only; omega
 ·rw [if_neg c]
  by_cases c2 : m < 12
  ·rw [if_pos c2]
   have := (daysF_right (y := y) (m := m + 1) h1 (by omega)).1
   simp only; omega
  ·rw [if_neg c2]
   have := (daysF_right (y := y + 1) (m := 1) (by omega) (by omega)).1
   have hm : m = 12 := by omega
   subst hm
   have hd31 : daysF y 12 = 31 := by simp [daysF]; omega
   simp only; omega
theorem itT_right {x : Dt} (h : rightT x) : ∀ (n : Nat), ordT x + 4 * n < 9999 * 372 → rightT (itT n x) ∧ ordT x ≤ ordT (itT n x) ∧ ordT (itT n x) ≤ ordT x + 4 * n
 | 0, _ => ⟨h, Int.le_refl _, by show ordT x ≤ _; omega⟩
 | n + 1, hn => by
  obtain ⟨h1, h2, h3⟩ := itT_right h n (by omega)
  have hy : (itT n x).1 < 9999 := by
   obtain ⟨a, b, c, d⟩ := h1
   simp only [ordT] at h3 hn
   omega
  obtain ⟨g1, g2, g3⟩ := nextT_right h1 hy
  refine ⟨g1, ?_, ?_⟩
  ·show _ ≤ ordT (nextT (itT n x)); omega
  ·show ordT (nextT (itT n x)) ≤ _; omega
/-- entries as plain numbers -/
structure RawE where
  a : Int
  b : Int
  c : Int
  dys : List Nat
  acs : List Nat
  ams : List Nat
def makeY' (a : Int) : Int := a % 9990 + 1
def makeD' (a b c : Int) : Int := c % daysF (makeY' a) (makeM b) + 1
def mkAt (z : RawE) : Nat → Dt
  | 0 => (makeY' z.a, makeM z.b, makeD' z.a z.b z.c)
  | i + 1 => itT (z.dys.getD i 0 % 4) (mkAt z i)
def mkA (z : RawE) (i : Nat) : Nat := if i < z.acs.length then z.acs.getD i 0 else i
def mkM (z : RawE) (i : Nat) : Nat := if i < z.ams.length then 1 + z.ams.getD i 0 else i + 1
def mkEn (z : RawE) (i : Nat) : En :=
  ⟨(mkAt z (i + 1)).1, (mkAt z (i + 1)).2.1, (mkAt z (i + 1)).2.2, ((mkA z i % 5 : Nat) : Int), (((mkA z i % 5 + 1 + mkA z i / 5 % 4) % 5 : Nat) : Int), decText (mkM z i)⟩
def mkN (z : RawE) : Nat := min 30 z.dys.length
def mkL (z : RawE) (n : Nat) : List En := (List.range n).map (mkEn z)
theorem mkL_length (z : RawE) (n : Nat) : (mkL z n).length = n := by simp [mkL]
theorem mkL_succ (z : RawE) (n : Nat) : mkL z (n + 1) = mkL z n ++ [mkEn z n] := by simp [mkL, List.range_succ]
theorem mkAt_right (z : RawE) : ∀ i, i ≤ 30 → rightT (mkAt z i) ∧ ordT (mkAt z i) ≤ 9991 * 372 + 31 + 12 * i
 | 0, _ => by
  have h := daysF_right (y := makeY' z.a) (m := makeM z.b) (by unfold makeY'; omega) (by unfold makeM; omega)
  have h0 := Int.emod_nonneg z.c (show daysF (makeY' z.a) (makeM z.b) ≠ 0 by omega)
  have h1 := Int.emod_lt_of_pos z.c (show 0 < daysF (makeY' z.a) (makeM z.b) by omega)
  have hm : 1 ≤ makeM z.b ∧ makeM z.b ≤ 12 := by unfold makeM; omega
  have hy : 1 ≤ makeY' z.a ∧ makeY' z.a ≤ 9990 := by unfold makeY'; omega
  have hd : 1 ≤ makeD' z.a z.b z.c ∧ makeD' z.a z.b z.c ≤ daysF (makeY' z.a) (makeM z.b) := by unfold makeD'; omega
  refine ⟨⟨by simp only [mkAt]; omega, hm, hd⟩, ?_⟩
  simp only [mkAt, ordT]; omega
 | i + 1, hi => by
  obtain ⟨h1, h2⟩ := mkAt_right z i (by omega)
  have h3 : z.dys.getD i 0 % 4 < 4 := Nat.mod_lt _ (by omega)
  obtain ⟨g1, g2, g3⟩ := itT_right h1 (z.dys.getD i 0 % 4) (by omega)
  exact ⟨g1, by simp only [mkAt]; omega⟩
theorem decText_signP (n : Nat) : signP (decText n) = false ∧ plainP (decText n) = decText n := by
 have h0 := decText_ne n
 have h1 := decText_dig n
 cases h : decText n with
 | nil => exact absurd h h0
 | cons c r =>
  rw [h] at h1
  have hc : c ≠ 45 := by
   intro e
   have := h1 c (by simp)
   rw [e] at this
   revert this; decide
  exact ⟨by simp [signP, hasP, hc], by simp [plainP, hasP, hc]⟩
theorem decText_wE {n : Nat} (hl : (decText n).length ≤ 4096) : wE (decText n) = 0 := by
 obtain ⟨h1, h2⟩ := decText_signP n
 exact wE_ok (by rw [h2]; omega) (by rw [h2]; exact numText_decText n) (fun _ => h1)
theorem decText_small {n : Nat} (h : n ≤ 4294967296) : (decText n).length ≤ 10 := by
 rw [decText_length]
 have : ndig n ≤ 10 := ndig_le (by omega)
 omega
theorem isF_nat {n : Nat} (h : n < 5) : isF (n : Int) = true := by
 simp only [isF, Bool.and_eq_true, decide_eq_true_eq]; omega
theorem mkEn_good (z : RawE) (i : Nat) (hi : i < 30) (hm : ∀ x ∈ z.ams, x < 4294967296) : (mkEn z i).chart = 0 := by
 have hM : mkM z i ≤ 4294967296 ∧ 0 < mkM z i := by
  unfold mkM
  split
  ·rename_i h
   have := hm (z.ams.getD i 0) (by rw [List.getD_eq_getElem?_getD, List.getElem?_eq_getElem h]; exact List.getElem_mem h)
   omega
  ·omega
 have hs := decText_small hM.1
 have h5 := Nat.mod_lt (mkA z i) (show 0 < 5 by omega)
 have h4 := Nat.mod_lt (mkA z i / 5) (show 0 < 4 by omega)
 refine wk_good (rightT_F.1 (mkAt_right z (i + 1) (by omega)).1) ?_ ?_ ?_ (decText_wE (by omega)) (decText_signP _).1 (by show decF (plainP (decText _)) ≠ 0; rw [(decText_signP _).2, decF_decText]; omega)
 ·exact isF_nat h5
 ·exact isF_nat (Nat.mod_lt _ (by omega))
 ·simp only [mkEn]; omega
theorem mkEn_am (z : RawE) (i : Nat) (hi : i < 30) (hm : ∀ x ∈ z.ams, x < 4294967296) : (mkEn z i).am.length ≤ 10 := by
 refine decText_small ?_
 unfold mkM
 split
 ·rename_i h
  have := hm (z.ams.getD i 0) (by rw [List.getD_eq_getElem?_getD, List.getElem?_eq_getElem h]; exact List.getElem_mem h)
  omega
 ·omega
/-- the days are in order -/
def Srt (l : List En) : Prop := l.Pairwise fun x y => ¬ cmpD y.y y.m y.d x.y x.m x.d < 0
theorem mkL_good (z : RawE) (hm : ∀ x ∈ z.ams, x < 4294967296) (n : Nat) (hn : n ≤ 30) : GoodL (mkL z n) := by
 intro x hx
 obtain ⟨i, hi, rfl⟩ := List.mem_map.1 hx
 rw [List.mem_range] at hi
 exact mkEn_good z i (by omega) hm
theorem mkL_am (z : RawE) (hm : ∀ x ∈ z.ams, x < 4294967296) (n : Nat) (hn : n ≤ 30) : ∀ x ∈ mkL z n, x.am.length ≤ 10 := by
 intro x hx
 obtain ⟨i, hi, rfl⟩ := List.mem_map.1 hx
 rw [List.mem_range] at hi
 exact mkEn_am z i (by omega) hm
theorem postE_srt {l : List En} {x : En} (hx : x.chart = 0) (hs : Srt (l ++ [x])) : postE l x = 0 := by
 rcases List.eq_nil_or_concat l with rfl | ⟨l0, p, rfl⟩
 ·exact postE_nil hx
 ·rw [List.concat_eq_append] at hs ⊢
  rw [postE_last hx (p := p) (by simp), if_neg]
  rw [Srt, List.pairwise_append] at hs
  exact hs.2.2 p (by simp) x (by simp)
theorem srt_snoc {l : List En} {x : En} (hl : Srt l) (h : postE l x = 0) : Srt (l ++ [x]) := by
 have hx : x.chart = 0 := Classical.byContradiction fun hn => by rw [postE_bad hn] at h; exact hn h
 rw [Srt, List.pairwise_append]
 refine ⟨hl, by simp, fun y hy x' hx' => ?_⟩
 rw [List.mem_singleton] at hx'
 subst hx'
 rcases List.eq_nil_or_concat l with rfl | ⟨l0, p, rfl⟩
 ·cases hy
 ·rw [List.concat_eq_append] at *
  rw [postE_last hx (p := p) (by simp)] at h
  have hp : ¬ cmpD x'.y x'.m x'.d p.y p.m p.d < 0 := fun e => by rw [if_pos e] at h; cases h
  rcases List.mem_append.1 hy with hy | hy
  ·rw [Srt, List.pairwise_append] at hl
   have := hl.2.2 y hy p (by simp)
   rw [cmpD_lt] at *
   omega
  ·rw [List.mem_singleton] at hy; subst hy; exact hp
theorem srt_take {l : List En} (h : Srt l) (n : Nat) : Srt (l.take n) := List.Pairwise.sublist (List.take_sublist n l) h
/-- up to a day -/
def uptoL (y m d : Int) (l : List En) : List En := l.filter fun x => decide (cmpD x.y x.m x.d y m d ≤ 0)
theorem uptoF_srt (y m d : Int) (l : List En) (hg : GoodL l) (hs : Srt l) : uptoF y m d l = uptoL y m d l := by
 have key : ∀ n, n ≤ l.length → uptoF y m d (l.take n) = uptoL y m d (l.take n) := by
  intro n
  induction n with
  | zero => intro _; simp [uptoF, uptoL]
  | succ n ih =>
   intro hn
   have hlt : n < l.length := by omega
   have hts : l.take (n + 1) = l.take n ++ [l[n]] := List.take_succ_eq_append_getElem hlt
   rw [hts, uptoF_snoc, ih (by omega), uptoS, show uptoL y m d (l.take n ++ [l[n]]) = uptoL y m d (l.take n) ++ [l[n]].filter (fun x => decide (cmpD x.y x.m x.d y m d ≤ 0)) from List.filter_append ..]
   by_cases hc : cmpD l[n].y l[n].m l[n].d y m d ≤ 0
   ·rw [if_pos hc]
    have hp : postE (uptoL y m d (l.take n)) l[n] = 0 := by
     refine postE_srt (hg _ (List.getElem_mem hlt)) ?_
     have h1 := srt_take hs (n + 1)
     rw [hts] at h1
     refine List.Pairwise.sublist ?_ h1
     exact List.Sublist.append List.filter_sublist (List.Sublist.refl _)
    rw [if_pos hp]
    simp [hc]
   ·rw [if_neg hc]
    simp [hc]
 have := key l.length (Nat.le_refl _)
 rwa [List.take_length] at this
theorem uptoL_len (y m d : Int) (l : List En) : (uptoL y m d l).length ≤ l.length := List.length_filter_le _ _
end Go.Proofs.YtehoobhbginahaaGreatDoor

set_option linter.unusedVariables false
set_option linter.unusedSimpArgs false
namespace Go.Proofs.YtehoobhbginahaaGreatDoor
open Go Go.Lens
/-! ### order -/
theorem glen_lt {B : Nat} (hB : 0 < B) {a b : List Nat} (ha : Canon B a) (hb : Canon B b) (h : a.length < b.length) : val B a < val B b := by
 rcases list_snoc_ind (P := fun b => b = [] ∨ ∃ l x, b = l ++ [x]) (.inl rfl) (fun l x _ => .inr ⟨l, x, rfl⟩) b with rfl | ⟨l, x, rfl⟩
 ·simp at h
 ·have hx : x ≠ 0 := by
   intro e; subst e; exact hb.2 (by simp)
  rw [val_snoc]
  have h1 := val_lt ha.1
  have h2 : B ^ a.length ≤ B ^ l.length := Nat.pow_le_pow_right hB (by simp at h; omega)
  have h3 : B ^ l.length * 1 ≤ B ^ l.length * x := Nat.mul_le_mul_left _ (by omega)
  omega
theorem gval_split {B : Nat} (l : List Nat) (i : Nat) (hi : i < l.length) : val B l = pv B l i + B ^ i * (l[i] + B * val B (l.drop (i + 1))) := by
 have e : l = l.take i ++ l[i] :: l.drop (i + 1) := by rw [List.getElem_cons_drop, List.take_append_drop]
 conv => lhs; rw [e]
 rw [val_append, List.length_take, Nat.min_eq_left (by omega)]
 rfl
theorem gpv_lt {B : Nat} {l : List Nat} (h : Small B l) (i : Nat) (hi : i ≤ l.length) : pv B l i < B ^ i := by
 have := val_lt (B := B) (l := l.take i) fun x hx => h x (List.mem_of_mem_take hx)
 rw [List.length_take, Nat.min_eq_left hi] at this
 exact this
theorem gdigit_lt {B : Nat} {a b : List Nat} (ha : Small B a) (hb : Small B b) (i : Nat) (hia : i < a.length) (hib : i < b.length) (hd : a.drop (i + 1) = b.drop (i + 1)) (h : a[i] < b[i]) : val B a < val B b := by
 rw [gval_split a i hia, gval_split b i hib, hd]
 have h1 := gpv_lt ha i (by omega)
 have h2 : B ^ i * (a[i] + B * val B (b.drop (i + 1)) + 1) ≤ B ^ i * (b[i] + B * val B (b.drop (i + 1))) := Nat.mul_le_mul_left _ (by omega)
 rw [Nat.mul_add, Nat.mul_one] at h2
 omega
theorem rCmp_spec (x y : Nat) (hx : RLim x) (hy : RLim y) : Does Tryz.prog 95 [rAV x, rAV y] (.int .i64 (cmpN x y)) := by
 obtain ⟨a, ha⟩ : ∃ a, a = digs DB x := ⟨_, rfl⟩
 obtain ⟨b, hb⟩ : ∃ b, b = digs DB y := ⟨_, rfl⟩
 have hla : a.length ≤ 1000000 := ha ▸ hx
 have hlb : b.length ≤ 1000000 := hb ▸ hy
 have hca : Canon DB a := ha ▸ digs_canon (by decide) x
 have hcb : Canon DB b := hb ▸ digs_canon (by decide) y
 have hav : val DB a = x := ha ▸ rdigs_val x
 have hbv : val DB b = y := hb ▸ rdigs_val y
 simp only [rAV]
 rw [← ha, ← hb, ← hav, ← hbv]
 clear hav hbv ha hb hx hy x y
 refine does tab_ok Tryz.func95 rfl rfl rfl rfl rfl fun w0 H0 hk hj => ?_
 by_cases hne : a.length = b.length
 ·skip
  refine W.seq (W.region ?_)
  refine z_p ?_
  refine WL.nil ?_
  refine W.seq (W.seq (W.region ?_))
  refine z_p ?_
  first | refine z_n ?_ | refine z_m ?_ | refine z_k ?_
  refine z_p ?_
  first | refine z_n ?_ | refine z_m ?_ | refine z_k ?_
  refine sq (v_pure rfl) (show _ = AV.bool false from congrArg AV.bool (bne_eq_false_iff_eq.2 (by omega))) rfl rfl rfl ?_
  refine WL.nil ?_
  refine W.cond_false rfl (W.skip ?_)
  refine W.seq (W.seq (W.region ?_))
  refine z_p ?_
  first | refine z_n ?_ | refine z_m ?_ | refine z_k ?_
  refine z_i ?_
  refine z_p ?_
  refine WL.nil ?_
  refine W.block ?_
  refine W.while (fun m st => m ≤ a.length ∧ a.drop m = b.drop m ∧ st = ⟨[(0, .row (i64AV a) a.length), (1, .row (i64AV b) b.length), (5, .int .i64 ((m : Int) - 1))], []⟩) a.length
   ⟨Nat.le_refl _, by rw [List.drop_of_length_le (by omega), List.drop_of_length_le (by omega)], rfl⟩ (by refine ⟨?_, ?_, rfl, Nat.le_of_ble_eq_true rfl⟩ <;> repeat (first | exact trivial | exact rfl | refine ⟨rfl, ?_⟩ | refine ⟨.inr ⟨rfl, ?_⟩, ?_⟩ | refine ⟨.inl rfl, ?_⟩)) ?_
  rintro m _ ⟨hml, hd, rfl⟩
  rcases m with _ | j
  ·have hab : a = b := by simpa using hd
   refine W.seq (W.seq (W.region ?_))
   refine z_p ?_
   refine z_F (show ¬ ((0 : Nat) : Int) - 1 ≥ 0 by decide) ?_
   refine WL.nil ?_
   refine W.cond_false rfl (W.exit ?_)
   refine W.seq (W.region ?_)
   refine z_p ?_
   refine WL.nil ?_
   refine W.ret (fin rfl (.shut (.plain rfl) .nil) (congrArg (AV.int .i64) ?_))
   rw [hab]; simp [cmpN, cmpZ]
  ·have hja : j < a.length := by omega
   have hjb : j < b.length := by omega
   have hti : ((j + 1 : Nat) : Int) - 1 = (j : Int) := by omega
   rw [hti]
   refine W.seq (W.seq (W.region ?_))
   refine z_p ?_
   refine z_T (show (j : Int) ≥ 0 by omega) ?_
   refine WL.nil ?_
   refine W.cond_true rfl (W.skip ?_)
   refine W.seq (W.block ?_)
   rcases Nat.lt_trichotomy a[j] b[j] with h | h | h
   ·have hv := gdigit_lt hca.1 hcb.1 j hja hjb hd h
    refine W.seq (W.seq (W.drawnR mixed [23, 24, 25, 26, 27, 28, 29, 30] (by kernel_rfl) ?_))
    apply DrawFrom.stepR
    ·intro more
     refine z_p ?_
     exact z_e
    apply DrawFrom.stepR
    ·intro more
     refine z_p ?_
     exact z_e
    apply DrawFrom.stepR
    ·intro more
     refine sp (v_indexAddr_row rfl rfl rfl rfl rfl rfl (by omega) (by omega) (i64AV_ne hja)) rfl rfl rfl ?_
     exact z_e
    apply DrawFrom.stepR
    ·intro more
     refine sp (v_load_radr rfl rfl rfl (loadc_at rfl (Nat.mul_one _) (i64AV_get hja))) rfl rfl rfl ?_
     exact z_e
    apply DrawFrom.stepR
    ·intro more
     refine z_p ?_
     exact z_e
    apply DrawFrom.stepR
    ·intro more
     refine z_p ?_
     exact z_e
    apply DrawFrom.stepR
    ·intro more
     refine sp (v_indexAddr_row rfl rfl rfl rfl rfl rfl (by omega) (by omega) (i64AV_ne hjb)) rfl rfl rfl ?_
     exact z_e
    apply DrawFrom.stepR
    ·intro more
     refine sp (v_load_radr rfl rfl rfl (loadc_at rfl (Nat.mul_one _) (i64AV_get hjb))) rfl rfl rfl ?_
     exact z_e
    refine DrawFrom.doneR (rfl : _ = (_, _) :: (_, _) :: (_, _) :: (_, _) :: (_, _) :: (_, _) :: (_, _) :: (_, _) :: _) ?_
    refine sq (v_pure rfl) (show _ = AV.bool true from congrArg AV.bool (decide_eq_true (by omega))) rfl rfl rfl ?_
    refine WL.nil ?_
    refine W.cond_true rfl ?_
    refine W.seq (W.region ?_)
    refine z_p ?_
    refine WL.nil ?_
    refine W.ret (fin rfl (.shut (.plain rfl) .nil) (congrArg (AV.int .i64) ?_))
    simp only [cmpN, cmpZ]; rw [if_pos (by omega)]
   ·skip
    refine W.seq (W.seq (W.drawnR mixed [23, 24, 25, 26, 27, 28, 29, 30] (by kernel_rfl) ?_))
    apply DrawFrom.stepR
    ·intro more
     refine z_p ?_
     exact z_e
    apply DrawFrom.stepR
    ·intro more
     refine z_p ?_
     exact z_e
    apply DrawFrom.stepR
    ·intro more
     refine sp (v_indexAddr_row rfl rfl rfl rfl rfl rfl (by omega) (by omega) (i64AV_ne hja)) rfl rfl rfl ?_
     exact z_e
    apply DrawFrom.stepR
    ·intro more
     refine sp (v_load_radr rfl rfl rfl (loadc_at rfl (Nat.mul_one _) (i64AV_get hja))) rfl rfl rfl ?_
     exact z_e
    apply DrawFrom.stepR
    ·intro more
     refine z_p ?_
     exact z_e
    apply DrawFrom.stepR
    ·intro more
     refine z_p ?_
     exact z_e
    apply DrawFrom.stepR
    ·intro more
     refine sp (v_indexAddr_row rfl rfl rfl rfl rfl rfl (by omega) (by omega) (i64AV_ne hjb)) rfl rfl rfl ?_
     exact z_e
    apply DrawFrom.stepR
    ·intro more
     refine sp (v_load_radr rfl rfl rfl (loadc_at rfl (Nat.mul_one _) (i64AV_get hjb))) rfl rfl rfl ?_
     exact z_e
    refine DrawFrom.doneR (rfl : _ = (_, _) :: (_, _) :: (_, _) :: (_, _) :: (_, _) :: (_, _) :: (_, _) :: (_, _) :: _) ?_
    refine sq (v_pure rfl) (show _ = AV.bool false from congrArg AV.bool (decide_eq_false (by omega))) rfl rfl rfl ?_
    refine WL.nil ?_
    refine W.cond_false rfl (W.skip ?_)
    refine W.seq (W.drawnR mixed [32, 33, 34, 35, 36, 37, 38, 39] (by kernel_rfl) ?_)
    apply DrawFrom.stepR
    ·intro more
     refine z_p ?_
     exact z_e
    apply DrawFrom.stepR
    ·intro more
     refine z_p ?_
     exact z_e
    apply DrawFrom.stepR
    ·intro more
     refine sp (v_indexAddr_row rfl rfl rfl rfl rfl rfl (by omega) (by omega) (i64AV_ne hja)) rfl rfl rfl ?_
     exact z_e
    apply DrawFrom.stepR
    ·intro more
     refine sp (v_load_radr rfl rfl rfl (loadc_at rfl (Nat.mul_one _) (i64AV_get hja))) rfl rfl rfl ?_
     exact z_e
    apply DrawFrom.stepR
    ·intro more
     refine z_p ?_
     exact z_e
    apply DrawFrom.stepR
    ·intro more
     refine z_p ?_
     exact z_e
    apply DrawFrom.stepR
    ·intro more
     refine sp (v_indexAddr_row rfl rfl rfl rfl rfl rfl (by omega) (by omega) (i64AV_ne hjb)) rfl rfl rfl ?_
     exact z_e
    apply DrawFrom.stepR
    ·intro more
     refine sp (v_load_radr rfl rfl rfl (loadc_at rfl (Nat.mul_one _) (i64AV_get hjb))) rfl rfl rfl ?_
     exact z_e
    refine DrawFrom.doneR (rfl : _ = (_, _) :: (_, _) :: (_, _) :: (_, _) :: (_, _) :: (_, _) :: (_, _) :: (_, _) :: _) ?_
    refine sq (v_pure rfl) (show _ = AV.bool false from congrArg AV.bool (decide_eq_false (by omega))) rfl rfl rfl ?_
    refine WL.nil ?_
    refine W.cond_false rfl (W.skip ?_)
    refine W.region ?_
    refine z_p ?_
    refine z_i ?_
    refine z_p ?_
    refine WL.nil ?_
    refine ⟨j, _, _, by omega, ⟨by omega, ?_, rfl⟩, (by refine ⟨?_, ?_, rfl, Nat.le_of_ble_eq_true rfl⟩ <;> repeat (first | exact trivial | exact rfl | refine ⟨rfl, ?_⟩ | refine ⟨.inr ⟨rfl, ?_⟩, ?_⟩ | refine ⟨.inl rfl, ?_⟩))⟩
    rw [List.drop_eq_getElem_cons hja, List.drop_eq_getElem_cons hjb, h, hd]
   ·have hv := gdigit_lt hcb.1 hca.1 j hjb hja hd.symm h
    refine W.seq (W.seq (W.drawnR mixed [23, 24, 25, 26, 27, 28, 29, 30] (by kernel_rfl) ?_))
    apply DrawFrom.stepR
    ·intro more
     refine z_p ?_
     exact z_e
    apply DrawFrom.stepR
    ·intro more
     refine z_p ?_
     exact z_e
    apply DrawFrom.stepR
    ·intro more
     refine sp (v_indexAddr_row rfl rfl rfl rfl rfl rfl (by omega) (by omega) (i64AV_ne hja)) rfl rfl rfl ?_
     exact z_e
    apply DrawFrom.stepR
    ·intro more
     refine sp (v_load_radr rfl rfl rfl (loadc_at rfl (Nat.mul_one _) (i64AV_get hja))) rfl rfl rfl ?_
     exact z_e
    apply DrawFrom.stepR
    ·intro more
     refine z_p ?_
     exact z_e
    apply DrawFrom.stepR
    ·intro more
     refine z_p ?_
     exact z_e
    apply DrawFrom.stepR
    ·intro more
     refine sp (v_indexAddr_row rfl rfl rfl rfl rfl rfl (by omega) (by omega) (i64AV_ne hjb)) rfl rfl rfl ?_
     exact z_e
    apply DrawFrom.stepR
    ·intro more
     refine sp (v_load_radr rfl rfl rfl (loadc_at rfl (Nat.mul_one _) (i64AV_get hjb))) rfl rfl rfl ?_
     exact z_e
    refine DrawFrom.doneR (rfl : _ = (_, _) :: (_, _) :: (_, _) :: (_, _) :: (_, _) :: (_, _) :: (_, _) :: (_, _) :: _) ?_
    refine sq (v_pure rfl) (show _ = AV.bool false from congrArg AV.bool (decide_eq_false (by omega))) rfl rfl rfl ?_
    refine WL.nil ?_
    refine W.cond_false rfl (W.skip ?_)
    refine W.seq (W.drawnR mixed [32, 33, 34, 35, 36, 37, 38, 39] (by kernel_rfl) ?_)
    apply DrawFrom.stepR
    ·intro more
     refine z_p ?_
     exact z_e
    apply DrawFrom.stepR
    ·intro more
     refine z_p ?_
     exact z_e
    apply DrawFrom.stepR
    ·intro more
     refine sp (v_indexAddr_row rfl rfl rfl rfl rfl rfl (by omega) (by omega) (i64AV_ne hja)) rfl rfl rfl ?_
     exact z_e
    apply DrawFrom.stepR
    ·intro more
     refine sp (v_load_radr rfl rfl rfl (loadc_at rfl (Nat.mul_one _) (i64AV_get hja))) rfl rfl rfl ?_
     exact z_e
    apply DrawFrom.stepR
    ·intro more
     refine z_p ?_
     exact z_e
    apply DrawFrom.stepR
    ·intro more
     refine z_p ?_
     exact z_e
    apply DrawFrom.stepR
    ·intro more
     refine sp (v_indexAddr_row rfl rfl rfl rfl rfl rfl (by omega) (by omega) (i64AV_ne hjb)) rfl rfl rfl ?_
     exact z_e
    apply DrawFrom.stepR
    ·intro more
     refine sp (v_load_radr rfl rfl rfl (loadc_at rfl (Nat.mul_one _) (i64AV_get hjb))) rfl rfl rfl ?_
     exact z_e
    refine DrawFrom.doneR (rfl : _ = (_, _) :: (_, _) :: (_, _) :: (_, _) :: (_, _) :: (_, _) :: (_, _) :: (_, _) :: _) ?_
    refine sq (v_pure rfl) (show _ = AV.bool true from congrArg AV.bool (decide_eq_true (by omega))) rfl rfl rfl ?_
    refine WL.nil ?_
    refine W.cond_true rfl ?_
    refine W.seq (W.region ?_)
    refine z_p ?_
    refine WL.nil ?_
    refine W.ret (fin rfl (.shut (.plain rfl) .nil) (congrArg (AV.int .i64) ?_))
    simp only [cmpN, cmpZ]; rw [if_neg (by omega), if_pos (by omega)]
 ·rcases Nat.lt_or_gt_of_ne hne with h | h
  ·have hv := glen_lt (by decide) hca hcb h
   refine W.seq (W.region ?_)
   refine z_p ?_
   refine WL.nil ?_
   refine W.seq (W.seq (W.region ?_))
   refine z_p ?_
   first | refine z_n ?_ | refine z_m ?_ | refine z_k ?_
   refine z_p ?_
   first | refine z_n ?_ | refine z_m ?_ | refine z_k ?_
   refine sq (v_pure rfl) (show _ = AV.bool true from congrArg AV.bool (bne_iff_ne.2 (by omega))) rfl rfl rfl ?_
   refine WL.nil ?_
   refine W.cond_true rfl ?_
   refine W.seq (W.seq (W.region ?_))
   refine z_p ?_
   first | refine z_n ?_ | refine z_m ?_ | refine z_k ?_
   refine z_p ?_
   first | refine z_n ?_ | refine z_m ?_ | refine z_k ?_
   refine z_T (show (a.length : Int) < b.length by omega) ?_
   refine WL.nil ?_
   refine W.cond_true rfl ?_
   refine W.seq (W.region ?_)
   refine z_p ?_
   refine WL.nil ?_
   refine W.ret (fin rfl (.shut (.plain rfl) .nil) (congrArg (AV.int .i64) ?_))
   simp only [cmpN, cmpZ]; rw [if_pos (by omega)]
  ·have hv := glen_lt (by decide) hcb hca h
   refine W.seq (W.region ?_)
   refine z_p ?_
   refine WL.nil ?_
   refine W.seq (W.seq (W.region ?_))
   refine z_p ?_
   first | refine z_n ?_ | refine z_m ?_ | refine z_k ?_
   refine z_p ?_
   first | refine z_n ?_ | refine z_m ?_ | refine z_k ?_
   refine sq (v_pure rfl) (show _ = AV.bool true from congrArg AV.bool (bne_iff_ne.2 (by omega))) rfl rfl rfl ?_
   refine WL.nil ?_
   refine W.cond_true rfl ?_
   refine W.seq (W.seq (W.region ?_))
   refine z_p ?_
   first | refine z_n ?_ | refine z_m ?_ | refine z_k ?_
   refine z_p ?_
   first | refine z_n ?_ | refine z_m ?_ | refine z_k ?_
   refine z_F (show ¬ (a.length : Int) < b.length by omega) ?_
   refine WL.nil ?_
   refine W.cond_false rfl (W.skip ?_)
   refine W.seq (W.region ?_)
   refine z_p ?_
   refine WL.nil ?_
   refine W.ret (fin rfl (.shut (.plain rfl) .nil) (congrArg (AV.int .i64) ?_))
   simp only [cmpN, cmpZ]; rw [if_neg (by omega), if_pos (by omega)]
/-! ### Sub -/
theorem rSub_spec (x y : Nat) (hx : RLim x) (hxy : y ≤ x) : Does Tryz.prog 96 [rAV x, rAV y] (rAV (x - y)) := by
 have hlen : (digs DB y).length ≤ (digs DB x).length := by
  rcases Nat.lt_or_ge (digs DB x).length (digs DB y).length with h | h
  ·have := glen_lt (by decide) (digs_canon (by decide) x) (digs_canon (B := DB) (by decide) y) h
   rw [rdigs_val, rdigs_val] at this; omega
  ·exact h
 obtain ⟨a, ha⟩ : ∃ a, a = digs DB x := ⟨_, rfl⟩
 obtain ⟨b, hb⟩ : ∃ b, b = digs DB y := ⟨_, rfl⟩
 have hal : a.length ≤ 1000000 := ha ▸ hx
 rw [← ha, ← hb] at hlen
 have has : Small DB a := ha ▸ rdigs_small x
 have hbs : Small DB b := hb ▸ rdigs_small y
 have hav : val DB a = x := ha ▸ rdigs_val x
 have hbv : val DB b = y := hb ▸ rdigs_val y
 simp only [rAV]
 rw [← ha, ← hb]
 clear ha hb hx
 refine does tab_ok Tryz.func96 rfl rfl rfl rfl rfl fun w0 H0 hk hj => ?_
 refine W.seq (W.region ?_)
 refine z_p ?_
 refine WL.nil ?_
 refine W.seq (W.region ?_)
 refine z_p ?_
 refine WL.nil ?_
 refine W.seq (W.region ?_)
 refine z_p ?_
 refine WL.nil ?_
 refine W.seq (W.seq (W.region ?_))
 refine z_p ?_
 refine WL.nil ?_
 refine W.block ?_
 refine W.while (fun m st => ∃ (i c : Nat) (o : List Nat), m = a.length - i ∧ i ≤ a.length ∧ o.length = i ∧ Small DB o ∧ c ≤ 1 ∧ val DB o + pv DB b i = pv DB a i + DB ^ i * c ∧
   st = ⟨[(0, .row (i64AV a) a.length), (1, .row (i64AV b) b.length), (5, growV 0 o.length), (6, .int .i64 c), (7, .int .i64 i)], growO 3 1 (i64AV o) o.length⟩) a.length
  ⟨0, 0, [], by omega, by omega, rfl, (fun x hx => by cases hx), by omega, by simp [pv, val], rfl⟩ (fitG (l := []) (n := 0) ⟨rfl, rfl, rfl, rfl, rfl, trivial⟩ fun k h => by simp only [envScoped, scoped_g h]; rfl) ?_
 rintro m _ ⟨i, c, o, rfl, hi, hol, hos, hc, hv, rfl⟩
 by_cases hlt : i < a.length
 ·have hB := rAt_spec b i (by omega)
  have hbi := small_getD hbs i
  have hai := has _ (List.getElem_mem hlt)
  have hga : a.getD i 0 = a[i] := by simp [List.getD, hlt]
  obtain ⟨u, hu⟩ : ∃ u, u = a[i] := ⟨_, rfl⟩
  obtain ⟨y, hy⟩ : ∃ y, y = b.getD i 0 := ⟨_, rfl⟩
  have hget : (i64AV a)[i]? = some (.int .i64 (u : Nat)) := by rw [hu]; exact i64AV_get hlt
  rw [← hu] at hai hga
  rw [← hy] at hB hbi
  simp only [DB] at hai hbi
  obtain ⟨D, C, hDC, hD, hC⟩ : ∃ D C : Nat, ((u < y + c ∧ D + y + c = u + 10000 ∧ C = 1) ∨ (¬ u < y + c ∧ D + y + c = u ∧ C = 0)) ∧ D < 10000 ∧ C ≤ 1 := by
   by_cases h : u < y + c
   ·exact ⟨u + 10000 - y - c, 1, .inl ⟨h, by omega, rfl⟩, by omega, by omega⟩
   ·exact ⟨u - y - c, 0, .inr ⟨h, by omega, rfl⟩, by omega, by omega⟩
  have hbal : D + y + c = u + 10000 * C := by omega
  have hnext : (fun m st => ∃ (i c : Nat) (o : List Nat), m = a.length - i ∧ i ≤ a.length ∧ o.length = i ∧ Small DB o ∧ c ≤ 1 ∧ val DB o + pv DB b i = pv DB a i + DB ^ i * c ∧
   st = (⟨[(0, .row (i64AV a) a.length), (1, .row (i64AV b) b.length), (5, growV 0 o.length), (6, .int .i64 c), (7, .int .i64 i)], growO 3 1 (i64AV o) o.length⟩ : St)) (a.length - (i + 1))
    ⟨[(0, .row (i64AV a) a.length), (1, .row (i64AV b) b.length), (5, growV 0 (o ++ [D]).length), (6, .int .i64 (C : Nat)), (7, .int .i64 ((i + 1 : Nat) : Int))], growO 3 1 (i64AV (o ++ [D])) (o ++ [D]).length⟩ := by
   refine ⟨i + 1, C, o ++ [D], rfl, by omega, by simp [hol], ?_, hC, ?_, rfl⟩
   ·intro z hz
    rcases List.mem_append.1 hz with hz | hz
    ·exact hos z hz
    ·rw [List.mem_singleton] at hz; subst hz; exact hD
   ·rw [val_snoc, hol, pv_succ, pv_succ, hga, ← hy, Nat.pow_succ, Nat.mul_assoc]
    have e := congrArg (DB ^ i * ·) hbal
    simp only [Nat.mul_add] at e
    simp only [DB] at e hv ⊢
    omega
  rcases hDC with ⟨h1, h2, h3⟩ | ⟨h1, h2, h3⟩
  refine W.seq (W.seq (W.region ?_))
  refine z_p ?_
  refine z_p ?_
  first | refine z_n ?_ | refine z_m ?_ | refine z_k ?_
  refine z_T (show (i : Int) < a.length by omega) ?_
  refine WL.nil ?_
  refine W.cond_true rfl (W.skip ?_)
  refine W.seq (W.block ?_)
  refine W.seq (W.region ?_)
  refine z_p ?_
  refine z_p ?_
  refine z_c (hB) ?_
  refine z_p ?_
  refine WL.nil ?_
  refine W.seq (W.region ?_)
  refine z_p ?_
  refine z_p ?_
  refine sp (v_indexAddr_row rfl rfl rfl rfl rfl rfl (by omega) (by omega) (i64AV_ne hlt)) rfl rfl rfl ?_
  refine sp (v_load_radr rfl rfl rfl (loadc_at rfl (Nat.mul_one _) hget)) rfl rfl rfl ?_
  refine z_p ?_
  refine z_i ?_
  refine z_p ?_
  refine z_i ?_
  refine z_p ?_
  refine WL.nil ?_
  refine W.seq (W.region ?_)
  refine z_p ?_
  refine WL.nil ?_
  refine W.seq (W.seq (W.region ?_))
  refine z_p ?_
  refine z_T (show ((u : Int) - y - c) < 0 by omega) ?_
  refine WL.nil ?_
  refine W.cond_true rfl ?_
  refine W.seq (W.region ?_)
  refine z_p ?_
  refine sq (v_i64 rfl rfl rfl rfl (by omega) (by omega)) (show _ = AV.int .i64 (D : Nat) from congrArg (AV.int .i64) (by omega)) rfl rfl rfl ?_
  refine z_p ?_
  refine WL.nil ?_
  refine W.region ?_
  refine sq (v_pure rfl) (show _ = AV.int .i64 (C : Nat) from congrArg (AV.int .i64) (by omega)) rfl rfl rfl ?_
  refine WL.nil ?_
  rotate_left 1
  refine W.seq (W.seq (W.region ?_))
  refine z_p ?_
  refine z_p ?_
  first | refine z_n ?_ | refine z_m ?_ | refine z_k ?_
  refine z_T (show (i : Int) < a.length by omega) ?_
  refine WL.nil ?_
  refine W.cond_true rfl (W.skip ?_)
  refine W.seq (W.block ?_)
  refine W.seq (W.region ?_)
  refine z_p ?_
  refine z_p ?_
  refine z_c (hB) ?_
  refine z_p ?_
  refine WL.nil ?_
  refine W.seq (W.region ?_)
  refine z_p ?_
  refine z_p ?_
  refine sp (v_indexAddr_row rfl rfl rfl rfl rfl rfl (by omega) (by omega) (i64AV_ne hlt)) rfl rfl rfl ?_
  refine sp (v_load_radr rfl rfl rfl (loadc_at rfl (Nat.mul_one _) hget)) rfl rfl rfl ?_
  refine z_p ?_
  refine z_i ?_
  refine z_p ?_
  refine sq (v_i64 rfl rfl rfl rfl (by omega) (by omega)) (show _ = AV.int .i64 (D : Nat) from congrArg (AV.int .i64) (by omega)) rfl rfl rfl ?_
  refine z_p ?_
  refine WL.nil ?_
  refine W.seq (W.region ?_)
  refine sq (v_pure rfl) (show _ = AV.int .i64 (C : Nat) from congrArg (AV.int .i64) (by omega)) rfl rfl rfl ?_
  refine WL.nil ?_
  refine W.seq (W.seq (W.region ?_))
  refine z_p ?_
  refine z_F (show ¬ (D : Int) < 0 by omega) ?_
  refine WL.nil ?_
  refine W.cond_false rfl (W.skip ?_)
  all_goals
   refine W.region ?_
   refine z_p ?_
   refine z_p ?_
   refine sq (v_buildRow rfl rfl rfl rfl rfl rfl rfl (Nat.le_of_ble_eq_true rfl) (Nat.le_of_ble_eq_true rfl) rfl rfl rfl rfl) (rfl : _ = AV.row [_] 1) rfl rfl rfl ?_
   refine sn (g_int [] 0 rfl rfl rfl rfl rfl rfl rfl rfl rfl rfl rfl (by omega)) rfl rfl rfl rfl rfl ?_
   refine z_p ?_
   refine WL.nil ?_
   refine W.region ?_
   refine z_p ?_
   refine z_i ?_
   refine z_p ?_
   refine WL.nil ?_
   exact ⟨a.length - (i + 1), _, _, by omega, hnext, fitG ⟨rfl, rfl, rfl, rfl, rfl, trivial⟩ fun k h => by simp only [envScoped, scoped_g h]; rfl⟩
 ·have hie : i = a.length := by omega
  rw [hie, pv_all DB hlen, pv_all DB (Nat.le_refl _), hav, hbv] at hv
  have hc0 : c = 0 := by
   have h1 := val_lt hos
   rw [hol, hie] at h1
   rcases (show c = 0 ∨ c = 1 by omega) with h | h
   ·exact h
   ·subst h; omega
  have hvo : val DB o = x - y := by subst hc0; omega
  have hdt : digs DB (x - y) = trim o := by rw [← hvo, trim_digs (by decide) hos]
  refine W.seq (W.seq (W.region ?_))
  refine z_p ?_
  refine z_p ?_
  first | refine z_n ?_ | refine z_m ?_ | refine z_k ?_
  refine z_F (show ¬ (i : Int) < a.length by omega) ?_
  refine WL.nil ?_
  refine W.cond_false rfl (W.exit ?_)
  rw [hdt]
  clear hv hvo hdt
  cases o with
  | nil =>
   refine W.seq (W.region ?_)
   refine z_p ?_
   refine WL.sub 35 rfl Sub.nils ?_
   refine z_c (rTrim_spec [] (by simp)) ?_
   refine z_p ?_
   refine WL.nil ?_
   exact W.ret (fin (cs := [intRow (trim [])]) rfl (.shut (.plain rfl) .nil) rfl)
  | cons q o =>
   have hts := rTrim_spec (q :: o) (by omega)
   refine W.seq (W.region ?_)
   refine z_p ?_
   refine sk hts rfl rfl rfl rfl (.lend rfl (by simp [i64AV]) .nil) (by simp [intRow, i64AV, List.take_of_length_le]) (intRow_plain _) (one_mine rfl) rfl rfl rfl rfl ?_
   refine z_p ?_
   refine WL.nil ?_
   exact W.ret (fin (cs := [intRow (trim (q :: o))]) rfl (.shut (.plain (intRow_plain _)) .nil) rfl)
end Go.Proofs.YtehoobhbginahaaGreatDoor

set_option linter.unusedVariables false
set_option linter.unusedSimpArgs false
namespace Go.Proofs.YtehoobhbginahaaGreatDoor
open Go Go.Lens
theorem txt_get {m i : Nat} (X : Nat) (h : i < m) : (txt m X)[i]? = some (UInt8.ofNat (48 + X / 10 ^ (m - 1 - i) % 10)) := by
 induction i generalizing m with
 | zero =>
  obtain ⟨k, rfl⟩ : ∃ k, m = k + 1 := ⟨m - 1, by omega⟩
  rw [txt_cons]; simp
 | succ i ih =>
  obtain ⟨k, rfl⟩ : ∃ k, m = k + 1 := ⟨m - 1, by omega⟩
  rw [txt_cons, List.getElem?_cons_succ, ih (by omega), show k - 1 - i = k + 1 - 1 - (i + 1) by omega]
theorem digit_of {a : List Nat} (has : Small DB a) {i k : Nat} (hi : i < a.length) (hk : k < 4) : val DB a / 10 ^ (4 * i + k) % 10 = a[i] / 10 ^ k % 10 := by
 have h1 := gval_split (B := DB) a i hi
 have h2 := gpv_lt has i (by omega)
 have hp : 0 < DB ^ i := Nat.pow_pos (by decide)
 have e1 : val DB a / DB ^ i = a[i] + DB * val DB (a.drop (i + 1)) := by
  rw [h1, Nat.add_mul_div_left _ _ hp, Nat.div_eq_of_lt h2, Nat.zero_add]
 rw [Nat.pow_add, Nat.pow_mul, ← Nat.div_div_eq_div_mul, show (10 ^ 4 : Nat) = DB by decide, e1]
 generalize val DB (a.drop (i + 1)) = R
 have hk10 : 0 < 10 ^ k := Nat.pow_pos (by decide)
 have e2 : DB = 10 ^ k * (10 * 10 ^ (3 - k)) := by
  rw [← Nat.pow_succ', ← Nat.pow_add, show k + (3 - k + 1) = 4 by omega]; rfl
 rw [e2, Nat.mul_assoc, Nat.add_mul_div_left _ _ hk10, Nat.mul_assoc, Nat.add_mul_mod_self_left]
theorem rPrint_spec (X : Nat) (hX : RLim X) : Does Tryz.prog 52 [rAV X] (.str (decText X)) := by
 by_cases hX0 : X = 0
 ·subst hX0
  rw [rAV_zero]
  refine does tab_ok Tryz.func52 rfl rfl rfl rfl rfl fun w0 H0 hk hj => ?_
  refine W.seq (W.region ?_)
  refine z_p ?_
  refine WL.nil ?_
  refine W.seq (W.seq (W.region ?_))
  refine z_p ?_
  first | refine z_n ?_ | refine z_m ?_ | refine z_k ?_
  refine z_p ?_
  refine WL.nil ?_
  refine W.cond_true rfl ?_
  refine W.seq (W.region ?_)
  refine z_p ?_
  refine WL.nil ?_
  exact W.ret (fin rfl (.shut (.plain rfl) .nil) rfl)
 obtain ⟨a, ha⟩ : ∃ a, a = digs DB X := ⟨_, rfl⟩
 have hal : a.length ≤ 1000000 := ha ▸ hX
 have has : Small DB a := ha ▸ rdigs_small X
 have hav : val DB a = X := ha ▸ rdigs_val X
 have hne : a.length ≠ 0 := by
  intro h
  have := List.eq_nil_of_length_eq_zero h
  rw [ha] at this
  exact hX0 ((digs_eq_nil (by decide) X).1 this)
 obtain ⟨n, hn⟩ : ∃ n, n = ndig X := ⟨_, rfl⟩
 have hnp : 0 < n := hn ▸ ndig_pos hX0
 have hnM : n ≤ 4 * a.length := by
  rw [hn]
  refine ndig_le ?_
  have := val_lt has
  rw [hav] at this
  rw [Nat.pow_mul]; exact this
 have hdt : decText X = txt n X := by rw [decText, if_neg hX0, hn]
 simp only [rAV]
 rw [← ha, hdt]
 refine does tab_ok Tryz.func52 rfl rfl rfl rfl rfl fun w0 H0 hk hj => ?_
 refine W.seq (W.region ?_)
 refine z_p ?_
 refine WL.nil ?_
 refine W.seq (W.seq (W.region ?_))
 refine z_p ?_
 first | refine z_n ?_ | refine z_m ?_ | refine z_k ?_
 refine sq (v_pure rfl) (show _ = AV.bool false from congrArg AV.bool (beq_eq_false_iff_ne.2 (by omega))) rfl rfl rfl ?_
 refine WL.nil ?_
 refine W.cond_false rfl (W.skip ?_)
 refine W.seq (W.region ?_)
 refine z_p ?_
 refine WL.nil ?_
 refine W.seq (W.seq (W.region ?_))
 refine z_p ?_
 refine WL.nil ?_
 refine W.block ?_
 refine W.while (fun m st => ∃ i : Nat, m = a.length - i ∧ i ≤ a.length ∧ st = ⟨[(0, .row (i64AV a) a.length), (3, .str (txt (4 * i) X)), (4, .int .i64 i)], []⟩) a.length
  ⟨0, by omega, by omega, rfl⟩ (by refine ⟨?_, ?_, rfl, Nat.le_of_ble_eq_true rfl⟩ <;> repeat (first | exact trivial | exact rfl | refine ⟨rfl, ?_⟩ | refine ⟨.inr ⟨rfl, ?_⟩, ?_⟩ | refine ⟨.inl rfl, ?_⟩)) ?_
 rintro m _ ⟨i, rfl, hi, rfl⟩
 by_cases hlt : i < a.length
 ·have hai := has _ (List.getElem_mem hlt)
  have hdig := fun k hk => digit_of has (i := i) (k := k) hlt hk
  rw [hav] at hdig
  obtain ⟨u, hu⟩ : ∃ u, u = a[i] := ⟨_, rfl⟩
  have hget : (i64AV a)[i]? = some (.int .i64 (u : Nat)) := by rw [hu]; exact i64AV_get hlt
  rw [← hu] at hai hdig
  simp only [DB] at hai
  refine W.seq (W.seq (W.region ?_))
  refine z_p ?_
  refine z_p ?_
  first | refine z_n ?_ | refine z_m ?_ | refine z_k ?_
  refine z_T (show (i : Int) < a.length by omega) ?_
  refine WL.nil ?_
  refine W.cond_true rfl (W.skip ?_)
  refine W.seq (W.block ?_)
  refine W.seq (W.region ?_)
  refine z_p ?_
  refine z_p ?_
  refine sp (v_indexAddr_row rfl rfl rfl rfl rfl rfl (by omega) (by omega) (i64AV_ne hlt)) rfl rfl rfl ?_
  refine sp (v_load_radr rfl rfl rfl (loadc_at rfl (Nat.mul_one _) hget)) rfl rfl rfl ?_
  refine z_p ?_
  refine WL.nil ?_
  refine W.seq (W.region ?_)
  refine z_p ?_
  refine WL.nil ?_
  refine W.block ?_
  refine W.while (fun m st => ∃ k : Nat, m = 4 - k ∧ k ≤ 4 ∧ st = ⟨[(0, .row (i64AV a) a.length), (3, .str (txt (4 * i + k) X)), (4, .int .i64 i), (5, .int .i64 (u / 10 ^ k : Nat)), (6, .int .i64 k)], []⟩) 4
   ⟨0, by omega, by omega, by rw [Nat.pow_zero, Nat.div_one]⟩ (by refine ⟨?_, ?_, rfl, Nat.le_of_ble_eq_true rfl⟩ <;> repeat (first | exact trivial | exact rfl | refine ⟨rfl, ?_⟩ | refine ⟨.inr ⟨rfl, ?_⟩, ?_⟩ | refine ⟨.inl rfl, ?_⟩)) ?_
  rintro m _ ⟨k, rfl, hk4, rfl⟩
  by_cases hk : k < 4
  ·obtain ⟨d, hd⟩ : ∃ d, d = u / 10 ^ k := ⟨_, rfl⟩
   have hdl : d ≤ u := hd ▸ Nat.div_le_self _ _
   have hdn : u / 10 ^ (k + 1) = d / 10 := by rw [hd, Nat.pow_succ, Nat.div_div_eq_div_mul]
   have hdd := hdig k hk
   rw [← hd] at hdd
   obtain ⟨D, hD⟩ : ∃ D, D = d % 10 := ⟨_, rfl⟩
   have hD10 : D < 10 := hD ▸ Nat.mod_lt _ (by decide)
   rw [← hD] at hdd
   have htx : txt (4 * i + (k + 1)) X = UInt8.ofNat (48 + D) :: txt (4 * i + k) X := by
    rw [show 4 * i + (k + 1) = 4 * i + k + 1 by omega, txt_cons, hdd]
   rw [← hd]
   refine W.seq (W.seq (W.region ?_))
   refine z_p ?_
   refine z_T (show (k : Int) < 4 by omega) ?_
   refine WL.nil ?_
   refine W.cond_true rfl (W.skip ?_)
   refine W.seq (W.block ?_)
   refine W.seq (W.region ?_)
   refine z_p ?_
   refine sq (v_bin rfl rfl rfl (rem_nn (by omega) (by omega))) (show _ = AV.int .i64 (D : Nat) from congrArg (AV.int .i64) (by rw [hD]; exact (Int.natCast_emod d 10).symm)) rfl rfl rfl ?_
   refine z_i ?_
   refine sq (v_conv_int rfl rfl rfl rfl rfl) (show _ = AV.int .u8 ((UInt8.ofNat (48 + D)).toNat : Nat) from congrArg (AV.int .u8) (by rw [dig_nat D hD10, IntKind.wrap_u8]; omega)) rfl rfl rfl ?_
   refine sn (v_buildSlice rfl rfl rfl rfl rfl rfl rfl (Nat.le_of_ble_eq_true rfl) (Nat.le_of_ble_eq_true rfl) rfl rfl rfl rfl) (rfl : _ = AV.sl 0 0 0 1 true) (rfl : _ = [_]) rfl rfl rfl ?_
   refine sp (v_conv_bytes (l := [UInt8.ofNat (48 + D)]) rfl rfl rfl rfl rfl rfl rfl rfl rfl rfl rfl) rfl rfl rfl ?_
   refine z_p ?_
   refine sq (v_bin rfl rfl rfl (if_pos (by simp [txt_length]; omega))) (show _ = AV.str (txt (4 * i + (k + 1)) X) from congrArg AV.str htx.symm) rfl rfl rfl ?_
   refine z_p ?_
   refine WL.nil ?_
   refine W.region ?_
   refine z_p ?_
   refine sq (v_bin rfl rfl rfl (quo_i64 (by omega) (by omega) (by omega))) (show _ = AV.int .i64 (d / 10 : Nat) from congrArg (AV.int .i64) (Int.natCast_ediv d 10).symm) rfl rfl rfl ?_
   refine z_p ?_
   refine WL.nil ?_
   refine W.region ?_
   refine z_p ?_
   refine z_i ?_
   refine z_p ?_
   refine WL.nil ?_
   exact ⟨4 - (k + 1), _, _, by omega, ⟨k + 1, rfl, by omega, by rw [hdn]⟩, (by refine ⟨?_, ?_, rfl, Nat.le_of_ble_eq_true rfl⟩ <;> repeat (first | exact trivial | exact rfl | refine ⟨rfl, ?_⟩ | refine ⟨.inr ⟨rfl, ?_⟩, ?_⟩ | refine ⟨.inl rfl, ?_⟩))⟩
  ·have hk' : k = 4 := by omega
   subst hk'
   refine W.seq (W.seq (W.region ?_))
   refine z_p ?_
   refine z_F (show ¬ ((4 : Nat) : Int) < 4 by decide) ?_
   refine WL.nil ?_
   refine W.cond_false rfl (W.exit ?_)
   refine W.region ?_
   refine z_p ?_
   refine z_i ?_
   refine z_p ?_
   refine WL.nil ?_
   exact ⟨a.length - (i + 1), _, _, by omega, ⟨i + 1, rfl, by omega, rfl⟩, (by refine ⟨?_, ?_, rfl, Nat.le_of_ble_eq_true rfl⟩ <;> repeat (first | exact trivial | exact rfl | refine ⟨rfl, ?_⟩ | refine ⟨.inr ⟨rfl, ?_⟩, ?_⟩ | refine ⟨.inl rfl, ?_⟩))⟩
 ·have hie : i = a.length := by omega
  subst hie
  obtain ⟨M, hM⟩ : ∃ M, M = 4 * a.length := ⟨_, rfl⟩
  rw [← hM] at hnM ⊢
  refine W.seq (W.seq (W.region ?_))
  refine z_p ?_
  refine z_p ?_
  first | refine z_n ?_ | refine z_m ?_ | refine z_k ?_
  refine z_F (show ¬ ((a.length : Nat) : Int) < a.length by omega) ?_
  refine WL.nil ?_
  refine W.cond_false rfl (W.exit ?_)
  refine W.seq (W.region ?_)
  refine z_p ?_
  refine WL.nil ?_
  refine W.seq (W.block ?_)
  refine W.while (fun m st => ∃ j : Nat, m = M - n - j ∧ j ≤ M - n ∧ st = ⟨[(0, .row (i64AV a) a.length), (3, .str (txt M X)), (7, .int .i64 j)], []⟩) (M - n)
   ⟨0, by omega, by omega, rfl⟩ (by refine ⟨?_, ?_, rfl, Nat.le_of_ble_eq_true rfl⟩ <;> repeat (first | exact trivial | exact rfl | refine ⟨rfl, ?_⟩ | refine ⟨.inr ⟨rfl, ?_⟩, ?_⟩ | refine ⟨.inl rfl, ?_⟩)) ?_
  rintro m _ ⟨j, rfl, hj', rfl⟩
  have hsl : (txt M X).length = M := txt_length M X
  obtain ⟨c, hc⟩ : ∃ c, c = UInt8.ofNat (48 + X / 10 ^ (M - 1 - j) % 10) := ⟨_, rfl⟩
  have hgc : (txt M X)[j]? = some c := by rw [hc]; exact txt_get X (by omega)
  have hcn : c.toNat = 48 + X / 10 ^ (M - 1 - j) % 10 := by rw [hc]; exact dig_nat _ (Nat.mod_lt _ (by decide))
  by_cases hlt : j < M - n
  ·have hz : X / 10 ^ (M - 1 - j) = 0 := by
    refine Nat.div_eq_of_lt (Nat.lt_of_lt_of_le (ndig_lt X) (Nat.pow_le_pow_right (by decide) ?_))
    omega
   rw [hz] at hcn
   refine W.seq (W.seq (W.region ?_))
   refine z_p ?_
   refine z_p ?_
   refine sp (v_index_str (b := c) rfl rfl rfl rfl rfl (by omega) hgc) rfl rfl rfl ?_
   refine sq (v_pure rfl) (show _ = AV.bool true from congrArg AV.bool (beq_iff_eq.2 (by omega))) rfl rfl rfl ?_
   refine WL.nil ?_
   refine W.cond_true rfl (W.skip ?_)
   refine W.block ?_
   refine W.region ?_
   refine z_p ?_
   refine z_i ?_
   refine z_p ?_
   refine WL.nil ?_
   exact ⟨M - n - (j + 1), _, _, by omega, ⟨j + 1, rfl, by omega, rfl⟩, (by refine ⟨?_, ?_, rfl, Nat.le_of_ble_eq_true rfl⟩ <;> repeat (first | exact trivial | exact rfl | refine ⟨rfl, ?_⟩ | refine ⟨.inr ⟨rfl, ?_⟩, ?_⟩ | refine ⟨.inl rfl, ?_⟩))⟩
  ·have hje : j = M - n := by omega
   subst hje
   have hz : X / 10 ^ (M - 1 - (M - n)) % 10 ≠ 0 := by
    rw [show M - 1 - (M - n) = n - 1 by omega]
    have h1 : 10 ^ (n - 1) ≤ X := lt_ndig.1 (by omega)
    have h2 := ndig_lt X
    rw [← hn, show n = n - 1 + 1 by omega, Nat.pow_succ] at h2
    have h3 : X / 10 ^ (n - 1) < 10 := Nat.div_lt_of_lt_mul (by rw [Nat.mul_comm] at h2; rw [Nat.mul_comm]; omega)
    have h4 : 0 < X / 10 ^ (n - 1) := Nat.div_pos h1 (Nat.pow_pos (by decide))
    rw [Nat.mod_eq_of_lt h3]; omega
   have hsd : (txt M X).drop (M - n) = txt n X := by
    have h1 := txt_add (M - n) n X
    rw [show M - n + n = M by omega] at h1
    rw [h1, List.drop_append_of_le_length (by rw [txt_length]; omega), List.drop_of_length_le (by rw [txt_length]; omega), List.nil_append]
   refine W.seq (W.seq (W.region ?_))
   refine z_p ?_
   refine z_p ?_
   refine sp (v_index_str (b := c) rfl rfl rfl rfl rfl (by omega) hgc) rfl rfl rfl ?_
   refine sq (v_pure rfl) (show _ = AV.bool false from congrArg AV.bool (beq_eq_false_iff_ne.2 (by omega))) rfl rfl rfl ?_
   refine WL.nil ?_
   refine W.cond_false rfl (W.exit ?_)
   refine W.seq (W.region ?_)
   refine z_p ?_
   refine z_p ?_
   refine sq (v_slice_str rfl rfl rfl rfl ⟨_, _, rfl, by omega, rfl⟩ rfl (by omega) (by omega)) (show _ = AV.str (txt n X) from congrArg AV.str (by rw [Int.toNat_natCast, hsd, List.take_of_length_le (by rw [txt_length, hsl]; omega)])) rfl rfl rfl ?_
   refine z_p ?_
   refine WL.nil ?_
   exact W.ret (fin rfl (.shut (.plain rfl) .nil) rfl)
end Go.Proofs.YtehoobhbginahaaGreatDoor

set_option linter.unusedVariables false
set_option linter.unusedSimpArgs false
namespace Go.Proofs.YtehoobhbginahaaGreatDoor
open Go Go.Lens
theorem rwNeg (z : Int) : Does Tryz.prog 97 [rwAV z] (rwAV (-z)) := by
 have h1 := rwOf z.natAbs (!decide (z < 0)) (-z) (by
  by_cases h : z < 0
  ·rw [decide_eq_true h, Bool.not_true, if_neg (by decide)]; omega
  ·rw [decide_eq_false h, Bool.not_false, if_pos rfl]; omega)
 refine does tab_ok Tryz.func97 rfl rfl rfl rfl rfl fun w0 H0 hk hj => ?_
 refine W.seq (W.region ?_)
 first | refine z_B 0 [_] ?_ | refine sn (a_box rfl rfl (.inr ⟨trivial, rfl⟩)) (rfl : _ = AV.ptr 0 0 0) (rfl : _ = [_]) rfl rfl rfl ?_
 refine z_a 1 [_, _] ?_
 refine WL.nil ?_
 refine W.seq (W.region ?_)
 first | refine z_f ?_ | refine z_g ?_
 first | refine z_l ?_ | refine z_r ?_
 first | refine z_f ?_ | refine z_g ?_
 first | refine z_l ?_ | refine z_r ?_
 refine z_p ?_
 refine z_c (h1) ?_
 refine z_s [_, _] ?_
 refine WL.nil ?_
 exact W.ret (fin (cs := [rwAV (-z)]) rfl (.shut (.plain (rwAV_plain _)) .nil) rfl)
theorem rwAdd (x y : Int) (hx : RLim x.natAbs) (hy : RLim y.natAbs) : Does Tryz.prog 69 [rwAV x, rwAV y] (rwAV (x + y)) := by
 have hcmp := rCmp_spec x.natAbs y.natAbs hx hy
 refine does tab_ok Tryz.func69 rfl rfl rfl rfl rfl fun w0 H0 hk hj => ?_
 by_cases hs : decide (x < 0) = decide (y < 0)
 ·have h1 := rAdd_spec x.natAbs y.natAbs hx hy
  have h2 := rwOf (x.natAbs + y.natAbs) (decide (x < 0)) (x + y) (by
   by_cases h : x < 0
   ·rw [decide_eq_true h] at hs ⊢
    have := of_decide_eq_true hs.symm
    rw [if_pos rfl]; omega
   ·rw [decide_eq_false h] at hs ⊢
    have := of_decide_eq_false hs.symm
    rw [if_neg (by decide)]; omega)
  refine W.seq (W.region ?_)
  first | refine z_B 0 [_] ?_ | refine sn (a_box rfl rfl (.inr ⟨trivial, rfl⟩)) (rfl : _ = AV.ptr 0 0 0) (rfl : _ = [_]) rfl rfl rfl ?_
  first | refine z_B 1 [_, _] ?_ | refine sn (a_box rfl rfl (.inr ⟨trivial, rfl⟩)) (rfl : _ = AV.ptr 1 0 0) (rfl : _ = [_, _]) rfl rfl rfl ?_
  refine z_a 2 [_, _, _] ?_
  refine WL.nil ?_
  refine W.seq (W.seq (W.region ?_))
  first | refine z_f ?_ | refine z_g ?_
  first | refine z_l ?_ | refine z_r ?_
  first | refine z_f ?_ | refine z_g ?_
  first | refine z_l ?_ | refine z_r ?_
  refine sq (v_eq_bool rfl rfl rfl rfl rfl) (show _ = AV.bool true from congrArg AV.bool (beq_iff_eq.2 hs)) rfl rfl rfl ?_
  refine WL.nil ?_
  refine W.cond_true rfl ?_
  refine W.seq (W.region ?_)
  first | refine z_f ?_ | refine z_g ?_
  first | refine z_l ?_ | refine z_r ?_
  first | refine z_f ?_ | refine z_g ?_
  first | refine z_l ?_ | refine z_r ?_
  refine z_c (h1) ?_
  refine z_p ?_
  refine WL.nil ?_
  refine W.seq (W.region ?_)
  refine z_p ?_
  first | refine z_f ?_ | refine z_g ?_
  first | refine z_l ?_ | refine z_r ?_
  refine z_c (h2) ?_
  refine z_s [_, _, _] ?_
  refine WL.nil ?_
  exact W.ret (fin (cs := [rwAV (x + y)]) rfl (.shut (.plain (rwAV_plain _)) .nil) rfl)
 ·have hs2 : (x < 0 ∧ ¬ y < 0) ∨ (¬ x < 0 ∧ y < 0) := by
   by_cases h : x < 0
   ·by_cases h' : y < 0
    ·exact absurd (by rw [decide_eq_true h, decide_eq_true h']) hs
    ·exact .inl ⟨h, h'⟩
   ·by_cases h' : y < 0
    ·exact .inr ⟨h, h'⟩
    ·exact absurd (by rw [decide_eq_false h, decide_eq_false h']) hs
  by_cases hle : y.natAbs ≤ x.natAbs
  ·have h1 := rSub_spec x.natAbs y.natAbs hx hle
   have h2 := rwOf (x.natAbs - y.natAbs) (decide (x < 0)) (x + y) (by
    rcases hs2 with ⟨a, b⟩ | ⟨a, b⟩
    ·rw [decide_eq_true a, if_pos rfl]; omega
    ·rw [decide_eq_false a, if_neg (by decide)]; omega)
   have hc : cmpN x.natAbs y.natAbs ≥ 0 := by simp only [cmpN, cmpZ]; split <;> (try split) <;> omega
   refine W.seq (W.region ?_)
   first | refine z_B 0 [_] ?_ | refine sn (a_box rfl rfl (.inr ⟨trivial, rfl⟩)) (rfl : _ = AV.ptr 0 0 0) (rfl : _ = [_]) rfl rfl rfl ?_
   first | refine z_B 1 [_, _] ?_ | refine sn (a_box rfl rfl (.inr ⟨trivial, rfl⟩)) (rfl : _ = AV.ptr 1 0 0) (rfl : _ = [_, _]) rfl rfl rfl ?_
   refine z_a 2 [_, _, _] ?_
   refine WL.nil ?_
   refine W.seq (W.seq (W.region ?_))
   first | refine z_f ?_ | refine z_g ?_
   first | refine z_l ?_ | refine z_r ?_
   first | refine z_f ?_ | refine z_g ?_
   first | refine z_l ?_ | refine z_r ?_
   refine sq (v_eq_bool rfl rfl rfl rfl rfl) (show _ = AV.bool false from congrArg AV.bool (beq_eq_false_iff_ne.2 hs)) rfl rfl rfl ?_
   refine WL.nil ?_
   refine W.cond_false rfl (W.skip ?_)
   refine W.seq (W.region ?_)
   first | refine z_f ?_ | refine z_g ?_
   first | refine z_l ?_ | refine z_r ?_
   first | refine z_f ?_ | refine z_g ?_
   first | refine z_l ?_ | refine z_r ?_
   refine z_c (hcmp) ?_
   refine z_p ?_
   refine WL.nil ?_
   refine W.seq (W.seq (W.region ?_))
   refine z_p ?_
   refine z_T hc ?_
   refine WL.nil ?_
   refine W.cond_true rfl ?_
   refine W.seq (W.region ?_)
   first | refine z_f ?_ | refine z_g ?_
   first | refine z_l ?_ | refine z_r ?_
   first | refine z_f ?_ | refine z_g ?_
   first | refine z_l ?_ | refine z_r ?_
   refine z_c (h1) ?_
   refine z_p ?_
   refine WL.nil ?_
   refine W.seq (W.region ?_)
   refine z_p ?_
   first | refine z_f ?_ | refine z_g ?_
   first | refine z_l ?_ | refine z_r ?_
   refine z_c (h2) ?_
   refine z_s [_, _, _] ?_
   refine WL.nil ?_
   exact W.ret (fin (cs := [rwAV (x + y)]) rfl (.shut (.plain (rwAV_plain _)) .nil) rfl)
  ·have h1 := rSub_spec y.natAbs x.natAbs hy (by omega)
   have h2 := rwOf (y.natAbs - x.natAbs) (decide (y < 0)) (x + y) (by
    rcases hs2 with ⟨a, b⟩ | ⟨a, b⟩
    ·rw [decide_eq_false b, if_neg (by decide)]; omega
    ·rw [decide_eq_true b, if_pos rfl]; omega)
   have hc : ¬ cmpN x.natAbs y.natAbs ≥ 0 := by simp only [cmpN, cmpZ]; rw [if_pos (by omega)]; decide
   refine W.seq (W.region ?_)
   first | refine z_B 0 [_] ?_ | refine sn (a_box rfl rfl (.inr ⟨trivial, rfl⟩)) (rfl : _ = AV.ptr 0 0 0) (rfl : _ = [_]) rfl rfl rfl ?_
   first | refine z_B 1 [_, _] ?_ | refine sn (a_box rfl rfl (.inr ⟨trivial, rfl⟩)) (rfl : _ = AV.ptr 1 0 0) (rfl : _ = [_, _]) rfl rfl rfl ?_
   refine z_a 2 [_, _, _] ?_
   refine WL.nil ?_
   refine W.seq (W.seq (W.region ?_))
   first | refine z_f ?_ | refine z_g ?_
   first | refine z_l ?_ | refine z_r ?_
   first | refine z_f ?_ | refine z_g ?_
   first | refine z_l ?_ | refine z_r ?_
   refine sq (v_eq_bool rfl rfl rfl rfl rfl) (show _ = AV.bool false from congrArg AV.bool (beq_eq_false_iff_ne.2 hs)) rfl rfl rfl ?_
   refine WL.nil ?_
   refine W.cond_false rfl (W.skip ?_)
   refine W.seq (W.region ?_)
   first | refine z_f ?_ | refine z_g ?_
   first | refine z_l ?_ | refine z_r ?_
   first | refine z_f ?_ | refine z_g ?_
   first | refine z_l ?_ | refine z_r ?_
   refine z_c (hcmp) ?_
   refine z_p ?_
   refine WL.nil ?_
   refine W.seq (W.seq (W.region ?_))
   refine z_p ?_
   refine z_F hc ?_
   refine WL.nil ?_
   refine W.cond_false rfl (W.skip ?_)
   refine W.seq (W.region ?_)
   first | refine z_f ?_ | refine z_g ?_
   first | refine z_l ?_ | refine z_r ?_
   first | refine z_f ?_ | refine z_g ?_
   first | refine z_l ?_ | refine z_r ?_
   refine z_c (h1) ?_
   refine z_p ?_
   refine WL.nil ?_
   refine W.seq (W.region ?_)
   refine z_p ?_
   first | refine z_f ?_ | refine z_g ?_
   first | refine z_l ?_ | refine z_r ?_
   refine z_c (h2) ?_
   refine z_s [_, _, _] ?_
   refine WL.nil ?_
   exact W.ret (fin (cs := [rwAV (x + y)]) rfl (.shut (.plain (rwAV_plain _)) .nil) rfl)
theorem rwSub (x y : Int) (hx : RLim x.natAbs) (hy : RLim y.natAbs) : Does Tryz.prog 70 [rwAV x, rwAV y] (rwAV (x - y)) := by
 have h1 := rwNeg y
 have h2 := rwAdd x (-y) hx (by rw [Int.natAbs_neg]; exact hy)
 rw [show x + -y = x - y by omega] at h2
 refine does tab_ok Tryz.func70 rfl rfl rfl rfl rfl fun w0 H0 hk hj => ?_
 refine W.seq (W.region ?_)
 first | refine z_B 0 [_] ?_ | refine sn (a_box rfl rfl (.inr ⟨trivial, rfl⟩)) (rfl : _ = AV.ptr 0 0 0) (rfl : _ = [_]) rfl rfl rfl ?_
 first | refine z_B 1 [_, _] ?_ | refine sn (a_box rfl rfl (.inr ⟨trivial, rfl⟩)) (rfl : _ = AV.ptr 1 0 0) (rfl : _ = [_, _]) rfl rfl rfl ?_
 refine z_a 2 [_, _, _] ?_
 refine WL.nil ?_
 refine W.seq (W.region ?_)
 first | refine z_l2 ?_ | refine z_r2 ?_
 refine z_c (h1) ?_
 refine z_a 3 [_, _, _, _] ?_
 refine z_s [_, _, _, _] ?_
 refine WL.nil ?_
 refine W.seq (W.region ?_)
 first | refine z_l2 ?_ | refine z_r2 ?_
 first | refine z_l2 ?_ | refine z_r2 ?_
 refine z_c (h2) ?_
 refine z_s [_, _, _, _] ?_
 refine WL.nil ?_
 exact W.ret (fin (cs := [rwAV (x - y)]) rfl (.shut (.plain (rwAV_plain _)) .nil) rfl)
theorem rwPrint (z : Int) (hz : RLim z.natAbs) (hz' : Lim z.natAbs) : Does Tryz.prog 29 [rwAV z] (.str (wText z)) := by
 have hp := rPrint_spec z.natAbs hz
 have hl := decText_len_le z.natAbs hz'
 refine does tab_ok Tryz.func29 rfl rfl rfl rfl rfl fun w0 H0 hk hj => ?_
 refine W.seq (W.region ?_)
 first | refine z_B 0 [_] ?_ | refine sn (a_box rfl rfl (.inr ⟨trivial, rfl⟩)) (rfl : _ = AV.ptr 0 0 0) (rfl : _ = [_]) rfl rfl rfl ?_
 refine z_p ?_
 refine WL.nil ?_
 refine W.seq (W.region ?_)
 first | refine z_f ?_ | refine z_g ?_
 first | refine z_l ?_ | refine z_r ?_
 refine z_c (hp) ?_
 refine z_p ?_
 refine WL.nil ?_
 refine W.seq (W.seq (W.region ?_))
 first | refine z_f ?_ | refine z_g ?_
 first | refine z_l ?_ | refine z_r ?_
 refine WL.nil ?_
 by_cases hn : z < 0
 ·refine W.cond (b := true) (by show some (AV.bool (decide (z < 0))) = _; rw [decide_eq_true hn]) (fun _ => ?_) (fun h => by cases h)
  refine W.seq (W.region ?_)
  refine z_p ?_
  refine sp (v_bin rfl rfl rfl (if_pos (by simp; omega))) rfl rfl rfl ?_
  refine z_p ?_
  refine WL.nil ?_
  exact W.ret (fin rfl (.shut (.plain rfl) .nil) (by rw [wText, if_pos hn]; rfl))
 ·refine W.cond (b := false) (by show some (AV.bool (decide (z < 0))) = _; rw [decide_eq_false hn]) (fun h => by cases h) (fun _ => W.skip ?_)
  refine W.seq (W.region ?_)
  refine z_p ?_
  refine z_p ?_
  refine WL.nil ?_
  exact W.ret (fin rfl (.shut (.plain rfl) .nil) (by rw [wText, if_neg hn]; rfl))
end Go.Proofs.YtehoobhbginahaaGreatDoor
