/- Lens, part 33: regions that draw their order: effects come one behind the other, and values may come between any of them. book: Back. book, plain: dates in order, entries that may be, what is posted and what is told up to a day. The document's numbers: chattelref01.Cmp, Sub, Print. The document's numbers: chattelref01.Print. The document's whole numbers: chattelref04: Add, Sub, Mul, Neg, Sign, Cmp, Print. chattelref09.Next and Make, chattelref20.Make; entries compared. Lens, part 21: jumps back to a label; calls that tell a predicate of their result, and calls that hand back a slice of their own. chattelref20.Make. Lens, part 34: structs compared. -/
import Derived.Test.YtehoobhbginahaaGreatDoorKBU8
import Derived.ScopeJumps
import Derived.Laws.StructEq

set_option linter.unusedVariables false
set_option linter.unusedSimpArgs false
namespace Go.Lens
open Go Go.RowKit
/-- the operations that an operation waits for, at one or more removes, as the bits of a number -/
def reachM (acc : List Nat) : List Nat → Nat → Nat
  | [], m => m
  | j :: r, m => reachM acc r (m ||| 2 ^ j ||| acc.getD j 0)
def reachL : List Oper → List Nat → List Nat
  | [], acc => acc
  | o :: r, acc => reachL r (acc ++ [reachM acc (depsOf o) 0])
def reachOf (ops : Array Oper) : List Nat := reachL ops.toList []
theorem reachM_bit {acc : List Nat} {j : Nat} : ∀ {l : List Nat} {m : Nat}, (reachM acc l m).testBit j = true → m.testBit j = true ∨ ∃ k ∈ l, j = k ∨ (acc.getD k 0).testBit j = true
  | [], m, h => .inl h
  | k :: r, m, h => by
    rcases reachM_bit (l := r) h with h | ⟨k', h1, h2⟩
    · simp only [Nat.testBit_or, Bool.or_eq_true, Nat.testBit_two_pow, decide_eq_true_eq] at h
      rcases h with (h | h) | h
      · exact .inl h
      · exact .inr ⟨k, .head _, .inl h.symm⟩
      · exact .inr ⟨k, .head _, .inr h⟩
    · exact .inr ⟨k', .tail _ h1, h2⟩
theorem reachL_sound {ops : Array Oper} {listed : Array Bool} (hc : Closed ops listed) : ∀ (r pre : List Oper) (acc : List Nat), ops.toList = pre ++ r → acc.length = pre.length →
    (∀ i, i < acc.length → ∀ o, ops[i]? = some o → (∀ k ∈ depsOf o, listed.getD k false = true) → ∀ j, (acc.getD i 0).testBit j = true → listed.getD j false = true) →
    ∀ i, i < ops.size → ∀ o, ops[i]? = some o → (∀ k ∈ depsOf o, listed.getD k false = true) → ∀ j, ((reachL r acc).getD i 0).testBit j = true → listed.getD j false = true
  | [], pre, acc, h1, h2, h3 => by
    intro i hi
    have : ops.size = pre.length := by rw [← Array.length_toList, h1, List.append_nil]
    exact h3 i (by omega)
  | o0 :: r, pre, acc, h1, h2, h3 => by
    refine reachL_sound hc r (pre ++ [o0]) _ (by rw [h1, List.append_assoc]; rfl) (by simp [h2]) ?_
    intro i hi o ho hd j hj
    rw [List.length_append, List.length_singleton] at hi
    by_cases e : i < acc.length
    · rw [List.getD_eq_getElem?_getD, List.getElem?_append_left e, ← List.getD_eq_getElem?_getD] at hj
      exact h3 i e o ho hd j hj
    · have he : i = acc.length := by omega
      have ho0 : o = o0 := by
        rw [← Array.getElem?_toList, h1, he, h2, List.getElem?_append_right (Nat.le_refl _), Nat.sub_self] at ho
        simpa using ho.symm
      subst ho0
      rw [he, List.getD_eq_getElem?_getD, List.getElem?_append_right (Nat.le_refl _), Nat.sub_self] at hj
      simp only [List.getElem?_cons_zero, Option.getD_some] at hj
      rcases reachM_bit hj with h | ⟨k, hk, h⟩
      · simp at h
      · rcases h with rfl | h
        · exact hd _ hk
        · have hkl : k < acc.length := by
            rcases Nat.lt_or_ge k acc.length with h' | h'
            · exact h'
            · rw [List.getD_eq_getElem?_getD, List.getElem?_eq_none h'] at h; simp at h
          have hks : k < ops.size := by
            rw [← Array.length_toList, h1, List.length_append]; omega
          exact h3 k hkl ops[k] (Array.getElem?_eq_getElem hks) (hc k _ (Array.getElem?_eq_getElem hks) (hd k hk)) j h
theorem reach_sound {ops : Array Oper} {listed : Array Bool} (hc : Closed ops listed) {i : Nat} {o : Oper} (ho : ops[i]? = some o) (hd : ∀ k ∈ depsOf o, listed.getD k false = true) {j : Nat} (hj : ((reachOf ops).getD i 0).testBit j = true) : listed.getD j false = true :=
  reachL_sound hc ops.toList [] [] rfl rfl (fun i hi => by simp at hi) i (Array.getElem?_eq_some_iff.1 ho).1 o ho hd j hj
/-- a value: its operation, where it goes, the values that it reads; a group: values that may come anew, values that may still come, then an effect -/
structure PF where
  i : Nat
  d : Nat
  js : List Nat
structure PG where
  news : List PF
  olds : List PF
  c : Nat
  d : Option Nat
  js : List Nat
def pickV : List (Nat × Nat × AV) → List Nat → List (Nat × AV)
  | [], _ => []
  | x :: r, js => if js.contains x.1 then x.2 :: pickV r js else pickV r js
theorem look_pickV {js : List Nat} {t : Nat} {v : AV} : ∀ {V : List (Nat × Nat × AV)}, look (pickV V js) t = some v → ∃ i ∈ js, (i, t, v) ∈ V
  | [], h => by cases h
  | (i, d, c) :: r, h => by
    simp only [pickV] at h
    split at h
    · rename_i hi
      simp only [look] at h
      split at h
      · rename_i he
        injection h with h; subst h
        have : d = t := by simpa using he
        subst this
        exact ⟨i, by simpa using hi, .head _⟩
      · obtain ⟨i', h1, h2⟩ := look_pickV h; exact ⟨i', h1, .tail _ h2⟩
    · obtain ⟨i', h1, h2⟩ := look_pickV h; exact ⟨i', h1, .tail _ h2⟩
def FlX (C : Ctx) (ops : Array Oper) (o : Oper) (d : Nat) (v : AV) (env : List (Nat × AV)) (objs : List AObj) : Prop :=
  ∀ more, WL C ops [o] ⟨env ++ more, objs⟩ (fun e st' => e = .normal ∧ st' = ⟨(d, v) :: (env ++ more), objs⟩)
def OldsX (C : Ctx) (ops : Array Oper) (env0 : List (Nat × AV)) (V : List (Nat × Nat × AV)) (G : List (Nat × AV)) (objs : List AObj) : List PF → Prop
  | [] => True
  | f :: r => (∃ o v, ops[f.i]? = some o ∧ (f.i, f.d, v) ∈ V ∧ FlX C ops o f.d v (G ++ (pickV V f.js ++ env0)) objs) ∧ OldsX C ops env0 V G objs r
def NewsX (C : Ctx) (ops : Array Oper) (env0 : List (Nat × AV)) (G : List (Nat × AV)) (objs : List AObj) (K : List (Nat × Nat × AV) → Prop) : List PF → List (Nat × Nat × AV) → Prop
  | [], V => K V
  | f :: r, V => ∃ o v, ops[f.i]? = some o ∧ FlX C ops o f.d v (G ++ (pickV V f.js ++ env0)) objs ∧ NewsX C ops env0 G objs K r ((f.i, f.d, v) :: V)
def RX (d : Option Nat) (E G : List (Nat × AV)) (K : List (Nat × AV) → List AObj → Prop) (st' : St) : Prop := match d with
  | some d => ∃ v objs', st' = ⟨(d, v) :: E, objs'⟩ ∧ K ((d, v) :: G) objs'
  | none => ∃ objs', st' = ⟨E, objs'⟩ ∧ K G objs'
theorem RX.out {d : Option Nat} {E G : List (Nat × AV)} {K : List (Nat × AV) → List AObj → Prop} {st' : St} (h : RX d E G K st') : ∃ l objs', st' = ⟨l ++ E, objs'⟩ ∧ l.map (·.1) = d.toList ∧ K (l ++ G) objs' := by
  cases d with
  | none => obtain ⟨objs', h1, h2⟩ := h; exact ⟨[], objs', h1, rfl, h2⟩
  | some d => obtain ⟨v, objs', h1, h2⟩ := h; exact ⟨[(d, v)], objs', h1, rfl, h2⟩
def ChX (C : Ctx) (ops : Array Oper) (env0 : List (Nat × AV)) (V : List (Nat × Nat × AV)) (G : List (Nat × AV)) (objs : List AObj) (c : Nat) (d : Option Nat) (js : List Nat) (K : List (Nat × AV) → List AObj → Prop) : Prop :=
  ∃ o, ops[c]? = some o ∧ ∀ more, WL C ops [o] ⟨(G ++ (pickV V js ++ env0)) ++ more, objs⟩ (fun e st' => e = .normal ∧ RX d ((G ++ (pickV V js ++ env0)) ++ more) G K st')
def DrawX (C : Ctx) (ops : Array Oper) (env0 : List (Nat × AV)) (Q : Exit → St → Prop) : List PG → List (Nat × Nat × AV) → List (Nat × AV) → List AObj → Prop
  | [], V, G, objs => WL C ops [] ⟨G ++ (V.map (·.2) ++ env0), objs⟩ Q
  | g :: r, V, G, objs => OldsX C ops env0 V G objs g.olds ∧ NewsX C ops env0 G objs (fun V' => ChX C ops env0 V' G objs g.c g.d g.js (fun G' objs' => DrawX C ops env0 Q r V' G' objs')) g.news V
def bitR (R : List Nat) (i j : Nat) : Bool := (R.getD i 0).testBit j
def chkX (ops : Array Oper) (R : List Nat) : List Nat → List Nat → List PG → Bool
  | done, _, [] => (List.range ops.size).all fun i => done.contains i || done.any fun c => bitR R c i
  | done, kn, g :: r =>
    (ops[g.c]?).any (fun o => o.dst == g.d) && g.js.all (fun j => bitR R g.c j || done.any fun c => bitR R c j) &&
    (g.olds ++ g.news).all (fun f => (ops[f.i]?).any (fun o => o.dst == some f.d) && !(g :: r).any (fun g' => g'.c == f.i) && !done.contains f.i && f.js.all (fun j => bitR R f.i j || done.any fun c => bitR R c j)) &&
    g.news.all (fun f => !kn.contains f.i) && decide (g.news.map (·.i)).Nodup && r.all (fun g' => bitR R g'.c g.c && g'.c != g.c) &&
    (List.range ops.size).all (fun i => done.contains i || i == g.c || (g.olds ++ g.news).any (fun f => f.i == i) || (g :: r).any (fun g' => bitR R i g'.c) || done.any (fun c => bitR R c i)) &&
    chkX ops R (g.c :: done) (g.news.map (·.i) ++ kn) r
def planOK (ops : Array Oper) (plan : List PG) : Bool :=
  (List.range ops.size).all (fun i => (ops[i]?).any fun o => (depsOf o).all fun j => decide (j < i)) &&
  (List.range ops.size).all (fun i => (List.range i).all fun j => match ops[i]?.bind (·.dst), ops[j]?.bind (·.dst) with | some d, some d' => d != d' | _, _ => true) && chkX ops (reachOf ops) [] [] plan
theorem plan_back {ops : Array Oper} {plan : List PG} (h : planOK ops plan = true) {i : Nat} {o : Oper} (hi : ops[i]? = some o) {e : Edge} (he : e ∈ o.after.toList) (hb : Region.binds .any e = true) : e.on < i := by
  simp only [planOK, Bool.and_eq_true] at h
  have h1 := h.1.1
  rw [List.all_eq_true] at h1
  have h2 := h1 i (by rw [List.mem_range]; exact (Array.getElem?_eq_some_iff.1 hi).1)
  rw [hi] at h2
  simp only [Option.any_some, List.all_eq_true, decide_eq_true_eq] at h2
  exact h2 e.on (by simp only [depsOf, List.mem_map, List.mem_filter]; exact ⟨e, ⟨he, hb⟩, rfl⟩)
theorem plan_dst {ops : Array Oper} {plan : List PG} (h : planOK ops plan = true) {i j : Nat} {o o' : Oper} (hi : ops[i]? = some o) (hj : ops[j]? = some o') {d : Nat} (h1 : o.dst = some d) (h2 : o'.dst = some d) : i = j := by
  simp only [planOK, Bool.and_eq_true] at h
  have key : ∀ (i j : Nat) (o o' : Oper), ops[i]? = some o → ops[j]? = some o' → o.dst = some d → o'.dst = some d → j < i → False := by
    intro i j o o' hi hj h1 h2 hlt
    have h3 := h.1.2
    rw [List.all_eq_true] at h3
    have h4 := h3 i (by rw [List.mem_range]; exact (Array.getElem?_eq_some_iff.1 hi).1)
    rw [List.all_eq_true] at h4
    have h5 := h4 j (by rw [List.mem_range]; exact hlt)
    rw [hi, hj] at h5
    simp only [Option.bind_some, h1, h2] at h5
    simp at h5
  rcases Nat.lt_trichotomy i j with h' | h' | h'
  · exact (key j i o' o hj hi h2 h1 h').elim
  · exact h'
  · exact (key i j o o' hi hj h1 h2 h').elim
theorem wpOp_of_WLR {C : Ctx} {ops : Array Oper} {o : Oper} {st : St} {i : Nat} {a : Act} {w : World} {K : Act → World → Prop} {Q : Exit → Act → World → Prop} {R : St → Prop} (hi : ops[i]? = some o)
    (h : WL C ops [o] st (fun e s => e = .normal ∧ R s)) (hr : Rel C st a w) (hK : ∀ s a w, R s → Rel C s a w → K a w) : wpOp C.P ops Q i K a w := by
  have h1 := h a w hr
  unfold wpList at h1
  unfold wpOp
  simp only [hi]
  have hno : ¬ LetsOut (Post C (fun e s => e = Exit.normal ∧ R s)) := fun ⟨_, _, _, ⟨he, _⟩, _⟩ => by cases he
  have hnext : ∀ a w, wpList C.P ops (Post C (fun e s => e = Exit.normal ∧ R s)) [] a w → K a w := fun a w ⟨s, ⟨_, hs⟩, hr⟩ => hK s a w hs hr
  split
  · rename_i hw
    rw [if_pos hw] at h1
    rcases h1 with h1 | ⟨_, h1⟩
    · left
      unfold Oper.wp at h1 ⊢
      generalize (execOp a.eval o).run C.P w = r at h1 ⊢
      cases r with
      | ok n w' =>
        cases n <;> simp only [Oper.upon] at h1 ⊢ <;>
          first
            | exact hnext _ _ h1
            | exact Calls.mono h1 (fun e w'' he => by cases e <;> first | exact hnext _ _ he | exact absurd he hno | (obtain ⟨_, ⟨he, _⟩, _⟩ := he; cases he))
            | exact Rows.mono h1 (fun _ _ he => hnext _ _ he)
      | halt x w' => cases x <;> simp only [Oper.upon] at h1 ⊢ <;> (obtain ⟨_, ⟨he, _⟩, _⟩ := h1; cases he)
    · exact absurd h1 hno
  · rename_i hw
    rw [if_neg hw] at h1
    exact hnext _ _ h1
/-- what is known while the region runs -/
structure MidX (ops : Array Oper) (env0 env : List (Nat × AV)) (listed : Array Bool) (done kn : List Nat) (rem : List PG) (V : List (Nat × Nat × AV)) (G : List (Nat × AV)) : Prop where
  size : listed.size = ops.size
  closed : Closed ops listed
  hdone : ∀ c ∈ done, listed.getD c false = true
  hrem : ∀ g ∈ rem, listed.getD g.c true = false
  known : ∀ i, listed.getD i false = true → i ∈ done ∨ i ∈ kn
  vals : ∀ x ∈ V, listed.getD x.1 false = true → look env x.2.1 = some x.2.2
  outs : ∀ t v, look G t = some v → look env t = some v
  rest : ∀ t v, look env0 t = some v → look env t = some v
  fresh : ∀ t v, look env0 t = some v → ∀ (i : Nat) (o : Oper), ops[i]? = some o → o.dst ≠ some t
  vdst : ∀ x ∈ V, ∃ o : Oper, ops[x.1]? = some o ∧ o.dst = some x.2.1
  uniq : ∀ x ∈ V, ∀ y ∈ V, x.1 = y.1 → x = y
  gdst : ∀ t v, look G t = some v → ∃ c ∈ done, ∃ o : Oper, ops[c]? = some o ∧ o.dst = some t
  vkn : ∀ x ∈ V, x.1 ∈ kn
  vrem : ∀ x ∈ V, ∀ g ∈ rem, g.c ≠ x.1
def newsOf : List PG → List Nat
  | [] => []
  | g :: _ => g.news.map (·.i)
def CurX (C : Ctx) (ops : Array Oper) (env0 : List (Nat × AV)) (Q : Exit → St → Prop) (V : List (Nat × Nat × AV)) (G : List (Nat × AV)) (objs : List AObj) : List PG → Prop
  | [] => WL C ops [] ⟨G ++ (V.map (·.2) ++ env0), objs⟩ Q
  | g :: r => (∀ f ∈ g.olds ++ g.news, ∃ o v V0, ops[f.i]? = some o ∧ (f.i, f.d, v) ∈ V ∧ (∀ x ∈ V0, x ∈ V) ∧ FlX C ops o f.d v (G ++ (pickV V0 f.js ++ env0)) objs) ∧
    ChX C ops env0 V G objs g.c g.d g.js (fun G' objs' => DrawX C ops env0 Q r V G' objs')
theorem OldsX.out {C : Ctx} {ops : Array Oper} {env0 : List (Nat × AV)} {V : List (Nat × Nat × AV)} {G : List (Nat × AV)} {objs : List AObj} : ∀ {l : List PF}, OldsX C ops env0 V G objs l → ∀ f ∈ l, ∃ o v, ops[f.i]? = some o ∧ (f.i, f.d, v) ∈ V ∧ FlX C ops o f.d v (G ++ (pickV V f.js ++ env0)) objs
  | _ :: _, ⟨h, _⟩, f, hf => by
    rename_i l' h' 
    rcases List.mem_cons.1 hf with rfl | hf
    · exact h
    · exact OldsX.out h' f hf
theorem NewsX.out {C : Ctx} {ops : Array Oper} {env0 : List (Nat × AV)} {G : List (Nat × AV)} {objs : List AObj} {K : List (Nat × Nat × AV) → Prop} : ∀ {l : List PF} {V : List (Nat × Nat × AV)}, NewsX C ops env0 G objs K l V →
    (l.map (·.i)).Nodup → (∀ f ∈ l, ∀ x ∈ V, x.1 ≠ f.i) → (∀ x ∈ V, ∀ y ∈ V, x.1 = y.1 → x = y) →
    ∃ V', (∀ x ∈ V, x ∈ V') ∧ K V' ∧ (∀ f ∈ l, ∃ o v V0, ops[f.i]? = some o ∧ (f.i, f.d, v) ∈ V' ∧ (∀ x ∈ V0, x ∈ V') ∧ FlX C ops o f.d v (G ++ (pickV V0 f.js ++ env0)) objs) ∧ (∀ x ∈ V', x ∈ V ∨ ∃ f ∈ l, x.1 = f.i ∧ x.2.1 = f.d) ∧ (∀ x ∈ V', ∀ y ∈ V', x.1 = y.1 → x = y)
  | [], V, h, _, _, hu => ⟨V, fun _ h => h, h, fun _ h => by simp at h, fun _ h => .inl h, hu⟩
  | f :: l, V, ⟨o, v, h1, h2, h3⟩, hn, hd, hu => by
    rw [List.map_cons, List.nodup_cons] at hn
    obtain ⟨V', g1, g2, g3, g4, g5⟩ := NewsX.out h3 hn.2 (fun f' hf' x hx => by
      rcases List.mem_cons.1 hx with rfl | hx
      · intro e; exact hn.1 (List.mem_map.2 ⟨f', hf', e.symm⟩)
      · exact hd f' (.tail _ hf') x hx) (fun x hx y hy e => by
      rcases List.mem_cons.1 hx with rfl | hx <;> rcases List.mem_cons.1 hy with rfl | hy
      · rfl
      · exact absurd e.symm (hd f (.head _) y hy)
      · exact absurd e (hd f (.head _) x hx)
      · exact hu x hx y hy e)
    refine ⟨V', fun x hx => g1 x (.tail _ hx), g2, fun f' hf' => ?_, fun x hx => ?_, g5⟩
    · rcases List.mem_cons.1 hf' with rfl | hf'
      · exact ⟨o, v, V, h1, g1 _ (.head _), fun x hx => g1 x (.tail _ hx), h2⟩
      · exact g3 f' hf'
    · rcases g4 x hx with h | ⟨f', hf', e⟩
      · rcases List.mem_cons.1 h with rfl | h
        · exact .inr ⟨f, .head _, rfl, rfl⟩
        · exact .inl h
      · exact .inr ⟨f', .tail _ hf', e⟩
theorem getD_ft {l : Array Bool} {i : Nat} (h : i < l.size) : l.getD i false = l.getD i true := by simp [Array.getD, h]
/-- the next group's values are known -/
theorem DrawX.cur {C : Ctx} {ops : Array Oper} {env0 env : List (Nat × AV)} {Q : Exit → St → Prop} {listed : Array Bool} {done kn : List Nat} {rem : List PG} {V : List (Nat × Nat × AV)} {G : List (Nat × AV)} {objs : List AObj}
    (h : DrawX C ops env0 Q rem V G objs) (hm : MidX ops env0 env listed done kn rem V G) (hchk : chkX ops (reachOf ops) done kn rem = true) :
    ∃ V', CurX C ops env0 Q V' G objs rem ∧ MidX ops env0 env listed done (newsOf rem ++ kn) rem V' G := by
  cases rem with
  | nil => exact ⟨V, h, hm⟩
  | cons g r =>
    obtain ⟨h1, h2⟩ := h
    simp only [chkX, Bool.and_eq_true, List.all_eq_true, decide_eq_true_eq, Bool.not_eq_true'] at hchk
    obtain ⟨⟨⟨⟨⟨⟨⟨c1, c2⟩, c3⟩, c4⟩, c5⟩, c6⟩, c7⟩, c8⟩ := hchk
    obtain ⟨V', g1, g2, g3, g4, g5⟩ := h2.out c5 (fun f hf x hx e => by
      have := c4 f hf
      have hk := hm.vkn x hx
      rw [e] at hk
      rw [List.contains_eq_mem] at this
      simp [hk] at this) hm.uniq
    refine ⟨V', ⟨fun f hf => ?_, g2⟩, hm.size, hm.closed, hm.hdone, hm.hrem, fun i hi => (hm.known i hi).imp id (List.mem_append_right _), fun x hx hl => ?_, hm.outs, hm.rest, hm.fresh, fun x hx => ?_, g5, hm.gdst, fun x hx => ?_, fun x hx g' hg' => ?_⟩
    · rcases List.mem_append.1 hf with hf | hf
      · obtain ⟨o, v, q1, q2, q3⟩ := h1.out f hf
        exact ⟨o, v, V, q1, g1 _ q2, g1, q3⟩
      · exact g3 f hf
    · rcases g4 x hx with h | ⟨f, hf, e1, e2⟩
      · exact hm.vals x h hl
      · rw [e1] at hl
        rcases hm.known _ hl with q | q
        · have := (c3 f (List.mem_append_right _ hf)).1.2
          rw [List.contains_eq_mem] at this
          simp [q] at this
        · have := c4 f hf
          rw [List.contains_eq_mem] at this
          simp [q] at this
    · rcases g4 x hx with h | ⟨f, hf, e1, e2⟩
      · exact hm.vdst x h
      · have := (c3 f (List.mem_append_right _ hf)).1.1.1
        rw [e1, e2]
        cases ho : ops[f.i]? with
        | none => rw [ho] at this; simp at this
        | some o => rw [ho] at this; exact ⟨o, rfl, by simpa using this⟩
    · rcases g4 x hx with h | ⟨f, hf, e1, e2⟩
      · exact List.mem_append_right _ (hm.vkn x h)
      · exact List.mem_append_left _ (by rw [e1]; exact List.mem_map_of_mem hf)
    · rcases g4 x hx with h | ⟨f, hf, e1, e2⟩
      · exact hm.vrem x h g' hg'
      · have := (c3 f (List.mem_append_right _ hf)).1.1.2
        intro e
        have hany : (g :: r).any (fun g' => g'.c == f.i) = true := List.any_eq_true.2 ⟨g', hg', by rw [e, e1]; simp⟩
        rw [hany] at this; cases this
def unl (ops : Array Oper) (listed : Array Bool) : Nat := ((List.range ops.size).filter fun j => !listed.getD j true).length
theorem unl_set {ops : Array Oper} {listed : Array Bool} {i : Nat} (hsz : listed.size = ops.size) (hi : i < ops.size) (h2 : listed.getD i true = false) : unl ops listed = unl ops (listed.setIfInBounds i true) + 1 := by
  have aux : ∀ (l : List Nat), l.Nodup → i ∈ l → (l.filter fun j => !listed.getD j true).length = (l.filter fun j => !(listed.setIfInBounds i true).getD j true).length + 1 := by
    intro l
    induction l with
    | nil => intro _ h; cases h
    | cons x l ih2 =>
      intro hn hin
      rw [List.nodup_cons] at hn
      by_cases hx : x = i
      · subst hx
        have hsz' : x < listed.size := by rw [hsz]; exact hi
        have hsame : (l.filter fun j => !listed.getD j true) = (l.filter fun j => !(listed.setIfInBounds x true).getD j true) := by
          apply List.filter_congr
          intro j hj
          rw [getD_set, if_neg]
          rintro ⟨rfl, _⟩
          exact hn.1 hj
        rw [List.filter_cons_of_pos (by simp [h2]), List.filter_cons_of_neg (by rw [getD_set]; simp [hsz']), List.length_cons, hsame]
      · have hin' : i ∈ l := by
          rcases List.mem_cons.1 hin with h | h
          · exact absurd h.symm hx
          · exact h
        have hg : (listed.setIfInBounds i true).getD x true = listed.getD x true := by
          rw [getD_set, if_neg]
          rintro ⟨rfl, _⟩
          exact hx rfl
        have := ih2 hn.2 hin'
        by_cases hc : listed.getD x true = true
        · rw [List.filter_cons_of_neg (by simp [hc]), List.filter_cons_of_neg (by rw [hg]; simp [hc])]; exact this
        · rw [List.filter_cons_of_pos (by simpa using hc), List.filter_cons_of_pos (by rw [hg]; simpa using hc), List.length_cons, List.length_cons, this]
  exact aux (List.range ops.size) List.nodup_range (by rw [List.mem_range]; exact hi)
theorem MidX.seen {ops : Array Oper} {env0 env : List (Nat × AV)} {listed : Array Bool} {done kn : List Nat} {rem : List PG} {V V0 : List (Nat × Nat × AV)} {G : List (Nat × AV)} (hm : MidX ops env0 env listed done kn rem V G) {js : List Nat} (hV0 : ∀ x ∈ V0, x ∈ V)
    (hjs : ∀ j ∈ js, listed.getD j false = true) {t : Nat} {v : AV} (h : look ((G ++ (pickV V0 js ++ env0)) ++ env) t = some v) : look env t = some v := by
  rw [look_append, look_append, look_append] at h
  cases h1 : look G t with
  | some v' =>
    rw [h1] at h
    simp only [Option.some_or, Option.some.injEq] at h
    subst h; exact hm.outs t v' h1
  | none =>
    rw [h1, Option.none_or] at h
    cases h2 : look (pickV V0 js) t with
    | some v' =>
      rw [h2] at h
      simp only [Option.some_or, Option.some.injEq] at h
      subst h
      obtain ⟨i, hi, hx⟩ := look_pickV h2
      exact hm.vals _ (hV0 _ hx) (hjs i hi)
    | none =>
      rw [h2, Option.none_or] at h
      cases h3 : look env0 t with
      | some v' =>
        rw [h3] at h
        simp only [Option.some_or, Option.some.injEq] at h
        subst h; exact hm.rest t v' h3
      | none => rw [h3, Option.none_or] at h; exact h
theorem listed_back {ops : Array Oper} {listed : Array Bool} (hc : Closed ops listed) {c i : Nat} {o : Oper} (ho : ops[c]? = some o) (hl : listed.getD c false = true) (hb : bitR (reachOf ops) c i = true) : listed.getD i false = true :=
  reach_sound hc ho (hc c o ho hl) hb
theorem getD_set_f (l : Array Bool) (i j : Nat) (b d : Bool) (h : (l.setIfInBounds i b).getD j d = true) (hne : i ≠ j) : l.getD j d = true := by
  rw [getD_set, if_neg (fun e => hne e.1)] at h; exact h
theorem getD_set_t (l : Array Bool) (i j : Nat) (h : l.getD j false = true) : (l.setIfInBounds i true).getD j false = true := by
  rw [getD_set]; split
  · rfl
  · exact h
/-- a region that draws its order -/
theorem W.drawX {C : Ctx} {id : Nat} {ops : Array Oper} {env : List (Nat × AV)} {objs : List AObj} {Q : Exit → St → Prop} (hmix : C.P.follows .mixedOrders = true) (ds : List Nat) (plan : List PG) (hchk : (ops.toList.all (fun o => o.dst.all ds.contains) && planOK ops plan) = true)
    (h : DrawX C ops (clean ds env) Q plan [] [] objs) : W C (.region id ops true) ⟨env, objs⟩ Q := by
  rw [Bool.and_eq_true] at hchk
  obtain ⟨hds, hchk⟩ := hchk
  have hX : chkX ops (reachOf ops) [] [] plan = true := by
    simp only [planOK, Bool.and_eq_true] at hchk; exact hchk.2
  generalize he0 : clean ds env = env0 at h
  have hfresh : ∀ t v, look env0 t = some v → ∀ (i : Nat) (o : Oper), ops[i]? = some o → o.dst ≠ some t := by
    intro t v hl i o ho hd
    rw [← he0] at hl
    have h1 := (look_clean hl).1
    rw [List.all_eq_true] at hds
    have h2 := hds o (by rw [← Array.getElem?_toList] at ho; exact List.mem_of_getElem? ho)
    rw [hd] at h2
    simp only [Option.all_some, List.contains_eq_mem, decide_eq_true_eq] at h2
    exact h1 h2
  have main : ∀ (fuel : Nat) (listed : Array Bool) (envr : List (Nat × AV)) (a : Act) (w : World) (done kn kn0 : List Nat) (rem : List PG) (V : List (Nat × Nat × AV)) (G : List (Nat × AV)) (objs : List AObj),
      fuel = unl ops listed → kn = newsOf rem ++ kn0 → chkX ops (reachOf ops) done kn0 rem = true → MidX ops env0 envr listed done kn rem V G → CurX C ops env0 Q V G objs rem → Rel C ⟨envr, objs⟩ a w →
      wpAny C.P .any ops (Post C Q) fuel listed a w := by
    intro fuel
    have hend : ∀ (listed : Array Bool) (envr : List (Nat × AV)) (a : Act) (w : World) (done kn kn0 : List Nat) (rem : List PG) (V : List (Nat × Nat × AV)) (G : List (Nat × AV)) (objs : List AObj),
        (∀ j, j < ops.size → listed.getD j true = true) → chkX ops (reachOf ops) done kn0 rem = true → MidX ops env0 envr listed done kn rem V G → CurX C ops env0 Q V G objs rem → Rel C ⟨envr, objs⟩ a w → Post C Q .normal a w := by
      intro listed envr a w done kn kn0 rem V G objs hall hx hm hcur hr
      cases rem with
      | cons g r =>
        exfalso
        simp only [chkX, Bool.and_eq_true] at hx
        have c1 := hx.1.1.1.1.1.1.1
        have hlt : g.c < ops.size := by
          rcases Nat.lt_or_ge g.c ops.size with q | q
          · exact q
          · rw [Array.getElem?_eq_none q] at c1; cases c1
        have := hm.hrem g (.head _)
        rw [hall _ hlt] at this; cases this
      | nil =>
        refine hcur a w (hr.env fun t v hl => ?_)
        refine hm.seen (V0 := V) (js := V.map (·.1)) (fun _ h => h) (fun j hj => ?_) (?_ : look ((G ++ (pickV V (V.map (·.1)) ++ env0)) ++ envr) t = some v)
        · obtain ⟨x, hx', rfl⟩ := List.mem_map.1 hj
          obtain ⟨o, ho, _⟩ := hm.vdst x hx'
          have hlt : x.1 < listed.size := by rw [hm.size]; exact (Array.getElem?_eq_some_iff.1 ho).1
          rw [getD_ft hlt]; exact hall _ (by rw [← hm.size]; exact hlt)
        · have hpick : ∀ (V : List (Nat × Nat × AV)) (js : List Nat), (∀ x ∈ V, x.1 ∈ js) → pickV V js = V.map (·.2) := by
            intro V js
            induction V with
            | nil => intro _; rfl
            | cons x r ih =>
              intro h
              simp only [pickV, List.contains_eq_mem, decide_eq_true_eq, h x (.head _), if_true, List.map_cons]
              rw [ih fun y hy => h y (.tail _ hy)]
          rw [hpick V _ (fun x hx => List.mem_map_of_mem hx), look_append, hl, Option.some_or]
    have hready : ∀ (listed : Array Bool), listed.size = ops.size → Region.ready .any ops listed = [] → ∀ j, j < ops.size → listed.getD j true = true := by
      intro listed hsz h0
      refine Classical.byContradiction fun hn => ?_
      have hex : ∃ j, j < ops.size ∧ listed.getD j true = false := by
        refine Classical.byContradiction fun hn' => hn fun j hj => ?_
        cases h1 : listed.getD j true with
        | true => rfl
        | false => exact absurd ⟨j, hj, h1⟩ hn'
      obtain ⟨m, ⟨hm1, hm2⟩, hmin⟩ := least hex
      have : m ∈ Region.ready .any ops listed := by
        unfold Region.ready
        rw [List.mem_filter, List.mem_range]
        refine ⟨hm1, ?_⟩
        simp only [hm2, Bool.not_false, Bool.true_and, Array.getElem?_eq_getElem hm1, Option.map_some, Option.getD_some, Array.all_eq_true']
        intro e he
        by_cases hb : Region.binds .any e = true
        · simp only [hb, Bool.not_true, Bool.false_or]
          have hback := plan_back hchk (Array.getElem?_eq_getElem hm1) (by simpa using he) hb
          have h5 : listed.getD e.on true = true := by
            cases h6 : listed.getD e.on true with
            | true => rfl
            | false => have := hmin e.on ⟨by omega, h6⟩; omega
          have : e.on < listed.size := by rw [hsz]; omega
          simpa [Array.getD, this] using h5
        · simp [hb]
      rw [h0] at this; cases this
    induction fuel with
    | zero =>
      intro listed envr a w done kn kn0 rem V G objs hf hkn hx hm hcur hr
      have hall : ∀ j, j < ops.size → listed.getD j true = true := by
        intro j hj
        have h0 := List.eq_nil_of_length_eq_zero hf.symm
        cases h1 : listed.getD j true with
        | true => rfl
        | false =>
          have : j ∈ (List.range ops.size).filter fun j => !listed.getD j true := by
            rw [List.mem_filter, List.mem_range]; exact ⟨hj, by simp [h1]⟩
          rw [h0] at this; cases this
      refine ⟨?_, hend listed envr a w done kn kn0 rem V G objs hall hx hm hcur hr⟩
      rw [List.eq_nil_iff_forall_not_mem]
      intro i hi
      obtain ⟨h1, h2, _⟩ := mem_ready hi
      rw [hall i h1] at h2; cases h2
    | succ fuel ih =>
      intro listed envr a w done kn kn0 rem V G objs hf hkn hx hm hcur hr
      refine ⟨fun h0 => hend listed envr a w done kn kn0 rem V G objs (hready listed hm.size h0) hx hm hcur hr, fun i hi => ?_⟩
      obtain ⟨h1, h2, o, ho, h3⟩ := mem_ready hi
      have hdeps : ∀ k ∈ depsOf o, listed.getD k false = true := fun k hk => by
        simp only [depsOf, List.mem_map, List.mem_filter] at hk
        obtain ⟨e, ⟨he1, he2⟩, rfl⟩ := hk
        exact h3 e he1 he2
      have hil : i < listed.size := by rw [hm.size]; exact h1
      have hno : listed.getD i false = true → False := fun q => by rw [getD_ft hil, h2] at q; cases q
      have hdoneX : ∀ c ∈ done, bitR (reachOf ops) c i = true → False := fun c hc hb => by
        have hcl := hm.hdone c hc
        have hcs : c < ops.size := by
          rcases Nat.lt_or_ge c listed.size with q | q
          · rw [← hm.size]; exact q
          · simp [Array.getD, Nat.not_lt.2 q] at hcl
        exact hno (listed_back hm.closed (Array.getElem?_eq_getElem hcs) hcl hb)
      have hbitdone : ∀ j, (done.any fun c => bitR (reachOf ops) c j) = true → listed.getD j false = true := fun j hb => by
        obtain ⟨c, hc, hb⟩ := List.any_eq_true.1 hb
        have hcl := hm.hdone c hc
        have hcs : c < ops.size := by
          rcases Nat.lt_or_ge c listed.size with q | q
          · rw [← hm.size]; exact q
          · simp [Array.getD, Nat.not_lt.2 q] at hcl
        exact listed_back hm.closed (Array.getElem?_eq_getElem hcs) hcl hb
      cases rem with
      | nil =>
        exfalso
        simp only [chkX, List.all_eq_true] at hx
        have := hx i (by rw [List.mem_range]; exact h1)
        rw [Bool.or_eq_true, List.contains_eq_mem, decide_eq_true_eq] at this
        rcases this with q | q
        · exact hno (hm.hdone i q)
        · exact hno (hbitdone i q)
      | cons g r =>
        have hx' := hx
        simp only [chkX, Bool.and_eq_true, List.all_eq_true, decide_eq_true_eq, Bool.not_eq_true'] at hx'
        obtain ⟨⟨⟨⟨⟨⟨⟨c1, c2⟩, c3⟩, c4⟩, c5⟩, c6⟩, c7⟩, c8⟩ := hx'
        obtain ⟨hfl, hch⟩ := hcur
        have hcase : i = g.c ∨ ∃ f ∈ g.olds ++ g.news, f.i = i := by
          have := c7 i (by rw [List.mem_range]; exact h1)
          simp only [Bool.or_eq_true, beq_iff_eq] at this
          rcases this with (((q | q) | q) | q) | q
          · exact (hno (hm.hdone i (by simpa [List.contains_eq_mem] using q))).elim
          · exact .inl q
          · obtain ⟨f, hf, q⟩ := List.any_eq_true.1 q
            exact .inr ⟨f, hf, by simpa using q⟩
          · obtain ⟨g', hg', q⟩ := List.any_eq_true.1 q
            have q1 := reach_sound hm.closed ho hdeps q
            have q2 := hm.hrem g' hg'
            have hlt : g'.c < listed.size := by
              rcases Nat.lt_or_ge g'.c listed.size with q | q
              · exact q
              · simp [Array.getD, Nat.not_lt.2 q] at q1
            rw [getD_ft hlt, q2] at q1; cases q1
          · exact (hno (hbitdone i q)).elim
        have hset : unl ops listed = unl ops (listed.setIfInBounds i true) + 1 := unl_set hm.size h1 h2
        rcases hcase with rfl | ⟨f, hf', rfl⟩
        · -- the effect
          obtain ⟨o', ho', hstep⟩ := hch
          obtain rfl : o' = o := by rw [ho] at ho'; injection ho' with ho'; exact ho'.symm
          have hd : o'.dst = g.d := by rw [ho] at c1; simpa using c1
          have hjs : ∀ j ∈ g.js, listed.getD j false = true := fun j hj => by
            have := c2 j hj
            rw [Bool.or_eq_true] at this
            rcases this with q | q
            · exact reach_sound hm.closed ho hdeps q
            · exact hbitdone j q
          refine wpOp_of_WLR ho (hstep envr) (hr.env fun t v hl => hm.seen (fun _ h => h) hjs hl) ?_
          intro s a' w' hRX hr'
          obtain ⟨l, objs', rfl, hl, hK⟩ := hRX.out
          have hlt : ∀ t v, look l t = some v → o'.dst = some t := by
            intro t v h
            rw [hd]
            cases l with
            | nil => cases h
            | cons p l =>
              cases hg : g.d with
              | none => rw [hg] at hl; simp at hl
              | some d =>
                rw [hg] at hl
                simp only [List.map_cons, Option.toList_some, List.cons.injEq, List.map_eq_nil_iff] at hl
                obtain ⟨rfl, rfl⟩ := hl
                simp only [look] at h
                split at h
                · rename_i he; simp at he; subst he; rfl
                · cases h
          have hr2 : Rel C ⟨l ++ envr, objs'⟩ a' w' := by
            refine Rel.env (st := ⟨l ++ ((G ++ (pickV V g.js ++ env0)) ++ envr), objs'⟩) hr' fun t v hl' => ?_
            rw [look_append] at hl' ⊢
            cases h5 : look l t with
            | some v' => rw [h5] at hl'; exact hl'
            | none =>
              rw [h5, Option.none_or] at hl'
              show (none : Option AV).or _ = some v
              rw [Option.none_or]
              cases h6 : look ((G ++ (pickV V g.js ++ env0)) ++ envr) t with
              | some v' => have := hm.seen (fun _ h => h) hjs h6; rw [hl'] at this; exact this.symm
              | none => rw [look_append, hl'] at h6; cases h7 : look (G ++ (pickV V g.js ++ env0)) t <;> rw [h7] at h6 <;> cases h6
          have hm2 : MidX ops env0 (l ++ envr) (listed.setIfInBounds g.c true) (g.c :: done) kn r V (l ++ G) := by
            have hkeep : ∀ t, o'.dst ≠ some t → look (l ++ envr) t = look envr t := by
              intro t hne
              rw [look_append]
              cases h5 : look l t with
              | some v' => exact absurd (hlt t v' h5) hne
              | none => rfl
            refine ⟨by simp [hm.size], hm.closed.set ho hdeps, fun c hc => ?_, fun g' hg' => ?_, fun j hj => ?_, fun x hx hl' => ?_, fun t v hl' => ?_, fun t v hl' => ?_, hm.fresh, hm.vdst, hm.uniq, fun t v hl' => ?_, hm.vkn, fun x hx g' hg' => hm.vrem x hx g' (.tail _ hg')⟩
            · rcases List.mem_cons.1 hc with rfl | hc
              · rw [getD_set]; simp [hil]
              · exact getD_set_t _ _ _ (hm.hdone c hc)
            · have := c6 g' hg'
              simp only [bne_iff_ne] at this
              rw [getD_set, if_neg (fun e => this.2 e.1.symm)]
              exact hm.hrem g' (.tail _ hg')
            · by_cases e : g.c = j
              · subst e; exact .inl (.head _)
              · exact (hm.known j (getD_set_f _ _ _ _ _ hj e)).imp (fun q => List.mem_cons_of_mem _ q) (fun q => q)
            · obtain ⟨o2, q1, q2⟩ := hm.vdst x hx
              have hne : g.c ≠ x.1 := hm.vrem x hx g (.head _)
              rw [hkeep _ fun e => hne (plan_dst hchk ho q1 e q2)]
              exact hm.vals x hx (getD_set_f _ _ _ _ _ hl' hne)
            · rw [look_append] at hl' ⊢
              cases h5 : look l t with
              | some v' => rw [h5] at hl'; exact hl'
              | none => rw [h5, Option.none_or] at hl'; simpa using hm.outs t v hl'
            · rw [hkeep _ (hm.fresh t v hl' _ _ ho)]; exact hm.rest t v hl'
            · rw [look_append] at hl'
              cases h5 : look l t with
              | some v' => exact ⟨g.c, .head _, o', ho, hlt t v' h5⟩
              | none =>
                rw [h5, Option.none_or] at hl'
                obtain ⟨c, hc, q⟩ := hm.gdst t v hl'
                exact ⟨c, .tail _ hc, q⟩
          replace c8 : chkX ops (reachOf ops) (g.c :: done) kn r = true := by rw [hkn]; exact c8
          obtain ⟨V', hcur', hm'⟩ := hK.cur hm2 c8
          exact ih _ _ a' w' _ _ _ r V' _ objs' (by omega) rfl c8 hm' hcur' hr2
        · -- a value
          obtain ⟨o', v, V0, ho', hx1, hV0, hstep⟩ := hfl f hf'
          obtain rfl : o' = o := by rw [ho] at ho'; injection ho' with ho'; exact ho'.symm
          have c3f := c3 f hf'
          have hd : o'.dst = some f.d := by have := c3f.1.1.1; rw [ho] at this; simpa using this
          have hjs : ∀ j ∈ f.js, listed.getD j false = true := fun j hj => by
            have := c3f.2 j hj
            rw [Bool.or_eq_true] at this
            rcases this with q | q
            · exact reach_sound hm.closed ho hdeps q
            · exact hbitdone j q
          have hseen : ∀ t c, look ((G ++ (pickV V0 f.js ++ env0)) ++ envr) t = some c → look envr t = some c := fun t c hl => hm.seen hV0 hjs hl
          refine wpOp_of_WL (st := ⟨(G ++ (pickV V0 f.js ++ env0)) ++ envr, objs⟩) ho (hstep envr) (hr.env hseen) fun a' w' hr' => ?_
          have hr2 : Rel C ⟨(f.d, v) :: envr, objs⟩ a' w' := by
            refine Rel.env (st := ⟨(f.d, v) :: ((G ++ (pickV V0 f.js ++ env0)) ++ envr), objs⟩) hr' fun t c hl => ?_
            simp only [look] at hl ⊢
            split at hl
            · rename_i he; rw [if_pos he]; exact hl
            · rename_i he
              rw [if_neg he]
              cases h5 : look ((G ++ (pickV V0 f.js ++ env0)) ++ envr) t with
              | some v' => have := hseen t v' h5; rw [hl] at this; exact this.symm
              | none => rw [look_append, hl] at h5; cases h6 : look (G ++ (pickV V0 f.js ++ env0)) t <;> rw [h6] at h5 <;> cases h5
          have hkeep : ∀ t, o'.dst ≠ some t → look ((f.d, v) :: envr) t = look envr t := by
            intro t hne
            simp only [look]
            rw [if_neg]
            intro e
            simp at e
            exact hne (by rw [hd, e])
          refine ih _ ((f.d, v) :: envr) a' w' done kn kn0 (g :: r) V G objs (by omega) hkn hx ?_ ⟨hfl, hch⟩ hr2
          refine ⟨by simp [hm.size], hm.closed.set ho hdeps, fun c hc => getD_set_t _ _ _ (hm.hdone c hc), fun g' hg' => ?_, fun j hj => ?_, fun x hx hl' => ?_, fun t c hl' => ?_, fun t c hl' => ?_, hm.fresh, hm.vdst, hm.uniq, hm.gdst, hm.vkn, hm.vrem⟩
          · have hne := hm.vrem _ hx1 g' hg'
            rw [getD_set, if_neg (fun e => hne e.1.symm)]
            exact hm.hrem g' hg'
          · by_cases e : f.i = j
            · subst e; exact .inr (hm.vkn _ hx1)
            · exact hm.known j (getD_set_f _ _ _ _ _ hj e)
          · by_cases e : f.i = x.1
            · have := hm.uniq _ hx1 x hx e
              subst this
              simp [look]
            · obtain ⟨o2, q1, q2⟩ := hm.vdst x hx
              rw [hkeep _ fun e' => e (plan_dst hchk ho q1 e' q2)]
              exact hm.vals x hx (getD_set_f _ _ _ _ _ hl' e)
          · obtain ⟨c', hc', o2, q1, q2⟩ := hm.gdst t c hl'
            rw [hkeep _ fun e' => ?_]
            · exact hm.outs t c hl'
            · have := plan_dst hchk ho q1 e' q2
              rw [← this] at hc'
              exact hno (hm.hdone _ hc')
          · rw [hkeep _ (hm.fresh t c hl' _ _ ho)]; exact hm.rest t c hl'
  intro a w hr
  have hm0 : MidX ops env0 env (Array.replicate ops.size false) [] [] plan [] [] := by
    have hrep : ∀ j, (Array.replicate ops.size false).getD j false = false := fun j => by
      simp only [Array.getD_eq_getD_getElem?, Array.getElem?_replicate]
      split <;> rfl
    refine ⟨by simp, fun i o ho hl => ?_, fun c hc => (by cases hc), fun g hg => ?_, fun i hi => ?_, fun x hx => (by cases hx), fun t v hl => (by cases hl), fun t v hl => ?_, hfresh, fun x hx => (by cases hx), fun x hx => (by cases hx), fun t v hl => (by cases hl), fun x hx => (by cases hx), fun x hx => (by cases hx)⟩
    · rw [hrep] at hl; cases hl
    · have hall : ∀ (done kn : List Nat) (plan : List PG), chkX ops (reachOf ops) done kn plan = true → ∀ g ∈ plan, g.c < ops.size := by
        intro done kn plan
        induction plan generalizing done kn with
        | nil => intro _ g hg; cases hg
        | cons g0 r ih2 =>
          intro hx g hg
          simp only [chkX, Bool.and_eq_true] at hx
          rcases List.mem_cons.1 hg with rfl | hg
          · have c1 := hx.1.1.1.1.1.1.1
            rcases Nat.lt_or_ge g.c ops.size with q | q
            · exact q
            · rw [Array.getElem?_eq_none q] at c1; cases c1
          · exact ih2 _ _ hx.2 g hg
      have := hall _ _ _ hX g hg
      simp [Array.getD, this]
    · rw [hrep] at hi; cases hi
    · rw [← he0] at hl
      exact (look_clean hl).2
  obtain ⟨V', hcur, hm'⟩ := h.cur hm0 hX
  refine wp_region_any hmix (main ops.size _ env a _ [] _ [] plan V' [] objs ?_ rfl hX hm' hcur hr.drew)
  rw [unl, List.filter_eq_self.2, List.length_range]
  intro j hj
  rw [List.mem_range] at hj
  simp [Array.getD, hj]
theorem DrawX.grp {C : Ctx} {ops : Array Oper} {env0 : List (Nat × AV)} {Q : Exit → St → Prop} {news olds : List PF} {c : Nat} {d : Option Nat} {js : List Nat} {r : List PG} {V : List (Nat × Nat × AV)} {G : List (Nat × AV)} {objs : List AObj}
    (h1 : OldsX C ops env0 V G objs olds) (h2 : NewsX C ops env0 G objs (fun V' => ChX C ops env0 V' G objs c d js (fun G' objs' => DrawX C ops env0 Q r V' G' objs')) news V) : DrawX C ops env0 Q (⟨news, olds, c, d, js⟩ :: r) V G objs := ⟨h1, h2⟩
theorem OldsX.nil {C : Ctx} {ops : Array Oper} {env0 : List (Nat × AV)} {V : List (Nat × Nat × AV)} {G : List (Nat × AV)} {objs : List AObj} : OldsX C ops env0 V G objs [] := trivial
theorem OldsX.cons {C : Ctx} {ops : Array Oper} {env0 : List (Nat × AV)} {V : List (Nat × Nat × AV)} {G : List (Nat × AV)} {objs : List AObj} {i d : Nat} {js : List Nat} {r : List PF} {o : Oper} {v : AV} (ho : ops[i]? = some o) (hv : (i, d, v) ∈ V)
    (h : ∀ more, WL C ops [o] ⟨(G ++ (pickV V js ++ env0)) ++ more, objs⟩ (fun e st' => e = .normal ∧ st' = ⟨(d, v) :: ((G ++ (pickV V js ++ env0)) ++ more), objs⟩)) (hr : OldsX C ops env0 V G objs r) : OldsX C ops env0 V G objs (⟨i, d, js⟩ :: r) :=
  ⟨⟨o, v, ho, hv, h⟩, hr⟩
theorem NewsX.nil {C : Ctx} {ops : Array Oper} {env0 : List (Nat × AV)} {G : List (Nat × AV)} {objs : List AObj} {K : List (Nat × Nat × AV) → Prop} {V : List (Nat × Nat × AV)} (h : K V) : NewsX C ops env0 G objs K [] V := h
theorem NewsX.cons {C : Ctx} {ops : Array Oper} {env0 : List (Nat × AV)} {G : List (Nat × AV)} {objs : List AObj} {K : List (Nat × Nat × AV) → Prop} {V : List (Nat × Nat × AV)} {i d : Nat} {js : List Nat} {r : List PF} {o : Oper} {v : AV} (ho : ops[i]? = some o)
    (h : ∀ more, WL C ops [o] ⟨(G ++ (pickV V js ++ env0)) ++ more, objs⟩ (fun e st' => e = .normal ∧ st' = ⟨(d, v) :: ((G ++ (pickV V js ++ env0)) ++ more), objs⟩)) (hr : NewsX C ops env0 G objs K r ((i, d, v) :: V)) : NewsX C ops env0 G objs K (⟨i, d, js⟩ :: r) V :=
  ⟨o, v, ho, h, hr⟩
theorem ChX.val {C : Ctx} {ops : Array Oper} {env0 : List (Nat × AV)} {V : List (Nat × Nat × AV)} {G : List (Nat × AV)} {objs : List AObj} {c d : Nat} {js : List Nat} {K : List (Nat × AV) → List AObj → Prop} {o : Oper} (ho : ops[c]? = some o)
    (h : ∀ more, WL C ops [o] ⟨(G ++ (pickV V js ++ env0)) ++ more, objs⟩ (fun e st' => e = .normal ∧ ∃ v objs', st' = ⟨(d, v) :: ((G ++ (pickV V js ++ env0)) ++ more), objs'⟩ ∧ K ((d, v) :: G) objs')) : ChX C ops env0 V G objs c (some d) js K :=
  ⟨o, ho, h⟩
theorem ChX.eff {C : Ctx} {ops : Array Oper} {env0 : List (Nat × AV)} {V : List (Nat × Nat × AV)} {G : List (Nat × AV)} {objs : List AObj} {c : Nat} {js : List Nat} {K : List (Nat × AV) → List AObj → Prop} {o : Oper} (ho : ops[c]? = some o)
    (h : ∀ more, WL C ops [o] ⟨(G ++ (pickV V js ++ env0)) ++ more, objs⟩ (fun e st' => e = .normal ∧ ∃ objs', st' = ⟨(G ++ (pickV V js ++ env0)) ++ more, objs'⟩ ∧ K G objs')) : ChX C ops env0 V G objs c none js K :=
  ⟨o, ho, h⟩
theorem DrawX.done {C : Ctx} {ops : Array Oper} {env0 env' : List (Nat × AV)} {Q : Exit → St → Prop} {V : List (Nat × Nat × AV)} {G : List (Nat × AV)} {objs : List AObj} (he : G ++ (V.map (·.2) ++ env0) = env') (h : Q .normal ⟨env', objs⟩) : DrawX C ops env0 Q [] V G objs := by
  subst he; exact WL.nil h
end Go.Lens

set_option linter.unusedVariables false
set_option linter.unusedSimpArgs false
namespace Go.Proofs.YtehoobhbginahaaGreatDoor
open Go Go.Lens
theorem GoodL.take {l : List En} (h : GoodL l) (n : Nat) : GoodL (l.take n) := fun x hx => h x (List.mem_of_mem_take hx)
section
variable {nt : Nat} {w0 : World} {k : Nat} {H0 : View} {ln : Nat → Nat} {hk : ∀ o, o < k → H0.blk o < w0.heap.size} {hj : ∀ x o, x < k → o < k → H0.blk x = H0.blk o → x = o} {sv : List (Array Value × List (Nat × AV))}
  {ops : Array Oper} {o : Oper} {rest : List Oper} {env : List (Nat × AV)} {objs : List AObj} {Q : Exit → St → Prop} {x : Operand} {xs : Array Operand} {ts : Array TypeId} {d b m j j2 : Nat}
end
end Go.Proofs.YtehoobhbginahaaGreatDoor

set_option linter.unusedVariables false
set_option linter.unusedSimpArgs false
namespace Go.Proofs.YtehoobhbginahaaGreatDoor
open Go Go.Lens
theorem cmpD_le {y m d y' m' d' : Int} : cmpD y m d y' m' d' ≤ 0 ↔ y < y' ∨ y = y' ∧ (m < m' ∨ m = m' ∧ d ≤ d') := by
  simp only [cmpD, or3, cmpI]
  repeat' split
  all_goals omega
theorem cmpD_lt {y m d y' m' d' : Int} : cmpD y m d y' m' d' < 0 ↔ y < y' ∨ y = y' ∧ (m < m' ∨ m = m' ∧ d < d') := by
  simp only [cmpD, or3, cmpI]
  repeat' split
  all_goals omega
abbrev Dt := Int × Int × Int
def nextT (x : Dt) : Dt := if x.2.2 < daysF x.1 x.2.1 then (x.1, x.2.1, x.2.2 + 1) else if x.2.1 < 12 then (x.1, x.2.1 + 1, 1) else (x.1 + 1, 1, 1)
def itT : Nat → Dt → Dt
  | 0, x => x
  | n + 1, x => nextT (itT n x)
def ordT (x : Dt) : Int := x.1 * 372 + x.2.1 * 31 + x.2.2
def rightT (x : Dt) : Prop := (1 ≤ x.1 ∧ x.1 ≤ 9999) ∧ (1 ≤ x.2.1 ∧ x.2.1 ≤ 12) ∧ 1 ≤ x.2.2 ∧ x.2.2 ≤ daysF x.1 x.2.1
theorem rightT_F {x : Dt} : rightT x ↔ rightF x.1 x.2.1 x.2.2 = true := by
  simp only [rightF, decide_eq_true_eq, rightT]
  constructor
  · exact fun h => h.2.2
  · intro h
    refine ⟨?_, ?_, h⟩
    · refine Classical.byContradiction fun hn => ?_
      rw [daysF_lo (.inl hn)] at h; omega
    · refine Classical.byContradiction fun hn => ?_
      rw [daysF_lo (.inr (by omega))] at h; omega
theorem rightT_days {x : Dt} (h : rightT x) : 28 ≤ daysF x.1 x.2.1 ∧ daysF x.1 x.2.1 ≤ 31 := daysF_right h.1 h.2.1
theorem nextT_right {x : Dt} (h : rightT x) (hy : x.1 < 9999) : rightT (nextT x) ∧ ordT x < ordT (nextT x) ∧ ordT (nextT x) ≤ ordT x + 4 := by
  obtain ⟨y, m, d⟩ := x
  have hd := rightT_days h
  obtain ⟨h1, h2, h3, h4⟩ := h
  simp only at h1 h2 h3 h4 hd hy
  simp only [nextT, rightT, ordT]
  by_cases c : d < daysF y m
  · rw [if_pos c]; simp only; omega
  · rw [if_neg c]
    by_cases c2 : m < 12
    · rw [if_pos c2]
      have := (daysF_right (y := y) (m := m + 1) h1 (by omega)).1
      simp only; omega
    · rw [if_neg c2]
      have := (daysF_right (y := y + 1) (m := 1) (by omega) (by omega)).1
      have hm : m = 12 := by omega
      subst hm
      have hd31 : daysF y 12 = 31 := by simp [daysF]; omega
      simp only; omega
theorem itT_right {x : Dt} (h : rightT x) : ∀ (n : Nat), ordT x + 4 * n < 9999 * 372 → rightT (itT n x) ∧ ordT x ≤ ordT (itT n x) ∧ ordT (itT n x) ≤ ordT x + 4 * n
  | 0, _ => ⟨h, Int.le_refl _, by show ordT x ≤ _; omega⟩
  | n + 1, hn => by
    obtain ⟨h1, h2, h3⟩ := itT_right h n (by omega)
    have hy : (itT n x).1 < 9999 := by
      obtain ⟨a, b, c, d⟩ := h1
      simp only [ordT] at h3 hn
      omega
    obtain ⟨g1, g2, g3⟩ := nextT_right h1 hy
    refine ⟨g1, ?_, ?_⟩
    · show _ ≤ ordT (nextT (itT n x)); omega
    · show ordT (nextT (itT n x)) ≤ _; omega
/-- entries as plain numbers -/
structure RawE where
  a : Int
  b : Int
  c : Int
  dys : List Nat
  acs : List Nat
  ams : List Nat
def makeY' (a : Int) : Int := a % 9990 + 1
def makeD' (a b c : Int) : Int := c % daysF (makeY' a) (makeM b) + 1
def mkAt (z : RawE) : Nat → Dt
  | 0 => (makeY' z.a, makeM z.b, makeD' z.a z.b z.c)
  | i + 1 => itT (z.dys.getD i 0 % 4) (mkAt z i)
def mkA (z : RawE) (i : Nat) : Nat := if i < z.acs.length then z.acs.getD i 0 else i
def mkM (z : RawE) (i : Nat) : Nat := if i < z.ams.length then 1 + z.ams.getD i 0 else i + 1
def mkEn (z : RawE) (i : Nat) : En :=
  ⟨(mkAt z (i + 1)).1, (mkAt z (i + 1)).2.1, (mkAt z (i + 1)).2.2, ((mkA z i % 5 : Nat) : Int), (((mkA z i % 5 + 1 + mkA z i / 5 % 4) % 5 : Nat) : Int), decText (mkM z i)⟩
def mkN (z : RawE) : Nat := min 30 z.dys.length
def mkL (z : RawE) (n : Nat) : List En := (List.range n).map (mkEn z)
theorem mkL_length (z : RawE) (n : Nat) : (mkL z n).length = n := by simp [mkL]
theorem mkL_succ (z : RawE) (n : Nat) : mkL z (n + 1) = mkL z n ++ [mkEn z n] := by simp [mkL, List.range_succ]
theorem mkAt_right (z : RawE) : ∀ i, i ≤ 30 → rightT (mkAt z i) ∧ ordT (mkAt z i) ≤ 9991 * 372 + 31 + 12 * i
  | 0, _ => by
    have h := daysF_right (y := makeY' z.a) (m := makeM z.b) (by unfold makeY'; omega) (by unfold makeM; omega)
    have h0 := Int.emod_nonneg z.c (show daysF (makeY' z.a) (makeM z.b) ≠ 0 by omega)
    have h1 := Int.emod_lt_of_pos z.c (show 0 < daysF (makeY' z.a) (makeM z.b) by omega)
    have hm : 1 ≤ makeM z.b ∧ makeM z.b ≤ 12 := by unfold makeM; omega
    have hy : 1 ≤ makeY' z.a ∧ makeY' z.a ≤ 9990 := by unfold makeY'; omega
    have hd : 1 ≤ makeD' z.a z.b z.c ∧ makeD' z.a z.b z.c ≤ daysF (makeY' z.a) (makeM z.b) := by unfold makeD'; omega
    refine ⟨⟨by simp only [mkAt]; omega, hm, hd⟩, ?_⟩
    simp only [mkAt, ordT]; omega
  | i + 1, hi => by
    obtain ⟨h1, h2⟩ := mkAt_right z i (by omega)
    have h3 : z.dys.getD i 0 % 4 < 4 := Nat.mod_lt _ (by omega)
    obtain ⟨g1, g2, g3⟩ := itT_right h1 (z.dys.getD i 0 % 4) (by omega)
    exact ⟨g1, by simp only [mkAt]; omega⟩
theorem mkAt_mono (z : RawE) (i : Nat) (hi : i < 30) : ordT (mkAt z i) ≤ ordT (mkAt z (i + 1)) := by
  obtain ⟨h1, h2⟩ := mkAt_right z i (by omega)
  have h3 : z.dys.getD i 0 % 4 < 4 := Nat.mod_lt _ (by omega)
  exact (itT_right h1 (z.dys.getD i 0 % 4) (by omega)).2.1
theorem decText_signP (n : Nat) : signP (decText n) = false ∧ plainP (decText n) = decText n := by
  have h0 := decText_ne n
  have h1 := decText_dig n
  cases h : decText n with
  | nil => exact absurd h h0
  | cons c r =>
    rw [h] at h1
    have hc : c ≠ 45 := by
      intro e
      have := h1 c (by simp)
      rw [e] at this
      revert this; decide
    exact ⟨by simp [signP, hasP, hc], by simp [plainP, hasP, hc]⟩
theorem decText_wE {n : Nat} (hl : (decText n).length ≤ 4096) : wE (decText n) = 0 := by
  obtain ⟨h1, h2⟩ := decText_signP n
  exact wE_ok (by rw [h2]; omega) (by rw [h2]; exact numText_decText n) (fun _ => h1)
theorem decText_small {n : Nat} (h : n ≤ 4294967296) : (decText n).length ≤ 10 := by
  rw [decText_length]
  have : ndig n ≤ 10 := ndig_le (by omega)
  omega
theorem isF_nat {n : Nat} (h : n < 5) : isF (n : Int) = true := by
  simp only [isF, Bool.and_eq_true, decide_eq_true_eq]; omega
theorem mkEn_good (z : RawE) (i : Nat) (hi : i < 30) (hm : ∀ x ∈ z.ams, x < 4294967296) : (mkEn z i).chart = 0 := by
  have hM : mkM z i ≤ 4294967296 ∧ 0 < mkM z i := by
    unfold mkM
    split
    · rename_i h
      have := hm (z.ams.getD i 0) (by rw [List.getD_eq_getElem?_getD, List.getElem?_eq_getElem h]; exact List.getElem_mem h)
      omega
    · omega
  have hs := decText_small hM.1
  have h5 := Nat.mod_lt (mkA z i) (show 0 < 5 by omega)
  have h4 := Nat.mod_lt (mkA z i / 5) (show 0 < 4 by omega)
  refine wk_good (rightT_F.1 (mkAt_right z (i + 1) (by omega)).1) ?_ ?_ ?_ (decText_wE (by omega)) (decText_signP _).1 (by show decF (plainP (decText _)) ≠ 0; rw [(decText_signP _).2, decF_decText]; omega)
  · exact isF_nat h5
  · exact isF_nat (Nat.mod_lt _ (by omega))
  · simp only [mkEn]; omega
theorem mkEn_am (z : RawE) (i : Nat) (hi : i < 30) (hm : ∀ x ∈ z.ams, x < 4294967296) : (mkEn z i).am.length ≤ 10 := by
  refine decText_small ?_
  unfold mkM
  split
  · rename_i h
    have := hm (z.ams.getD i 0) (by rw [List.getD_eq_getElem?_getD, List.getElem?_eq_getElem h]; exact List.getElem_mem h)
    omega
  · omega
/-- the days are in order -/
def Srt (l : List En) : Prop := l.Pairwise fun x y => ¬ cmpD y.y y.m y.d x.y x.m x.d < 0
theorem good_right {x : En} (h : x.chart = 0) : rightT (x.y, x.m, x.d) := by
  rw [rightT_F]
  simp only [En.chart, chartF] at h
  cases hr : rightF x.y x.m x.d with
  | true => rfl
  | false => rw [hr] at h; simp at h
theorem ord_cmp {x y : Dt} (hx : rightT x) (hy : rightT y) (h : ordT x ≤ ordT y) : ¬ cmpD y.1 y.2.1 y.2.2 x.1 x.2.1 x.2.2 < 0 := by
  rw [cmpD_lt]
  have d1 := rightT_days hx
  have d2 := rightT_days hy
  obtain ⟨a1, a2, a3⟩ := hx
  obtain ⟨b1, b2, b3⟩ := hy
  simp only [ordT] at h
  omega
theorem mkAt_le (z : RawE) (i : Nat) : ∀ j, i ≤ j → j ≤ 30 → ordT (mkAt z i) ≤ ordT (mkAt z j) := by
  intro j
  induction j with
  | zero => intro h _; have : i = 0 := by omega
            subst this; exact Int.le_refl _
  | succ j ih =>
    intro h hj
    rcases Nat.lt_or_ge i (j + 1) with h' | h'
    · exact Int.le_trans (ih (by omega) (by omega)) (mkAt_mono z j (by omega))
    · have : i = j + 1 := by omega
      subst this; exact Int.le_refl _
theorem mkL_srt (z : RawE) : ∀ n, n ≤ 30 → Srt (mkL z n)
  | 0, _ => by simp [mkL, Srt]
  | n + 1, hn => by
    rw [mkL_succ, Srt, List.pairwise_append]
    refine ⟨mkL_srt z n (by omega), by simp, fun x hx y hy => ?_⟩
    obtain ⟨i, hi, rfl⟩ := List.mem_map.1 hx
    rw [List.mem_singleton] at hy
    subst hy
    rw [List.mem_range] at hi
    exact ord_cmp (x := mkAt z (i + 1)) (y := mkAt z (n + 1)) (mkAt_right z _ (by omega)).1 (mkAt_right z _ (by omega)).1 (mkAt_le z (i + 1) (n + 1) (by omega) (by omega))
theorem mkL_good (z : RawE) (hm : ∀ x ∈ z.ams, x < 4294967296) (n : Nat) (hn : n ≤ 30) : GoodL (mkL z n) := by
  intro x hx
  obtain ⟨i, hi, rfl⟩ := List.mem_map.1 hx
  rw [List.mem_range] at hi
  exact mkEn_good z i (by omega) hm
theorem mkL_am (z : RawE) (hm : ∀ x ∈ z.ams, x < 4294967296) (n : Nat) (hn : n ≤ 30) : ∀ x ∈ mkL z n, x.am.length ≤ 10 := by
  intro x hx
  obtain ⟨i, hi, rfl⟩ := List.mem_map.1 hx
  rw [List.mem_range] at hi
  exact mkEn_am z i (by omega) hm
theorem postE_srt {l : List En} {x : En} (hx : x.chart = 0) (hs : Srt (l ++ [x])) : postE l x = 0 := by
  rcases List.eq_nil_or_concat l with rfl | ⟨l0, p, rfl⟩
  · exact postE_nil hx
  · rw [List.concat_eq_append] at hs ⊢
    rw [postE_last hx (p := p) (by simp), if_neg]
    rw [Srt, List.pairwise_append] at hs
    exact hs.2.2 p (by simp) x (by simp)
theorem srt_take {l : List En} (h : Srt l) (n : Nat) : Srt (l.take n) := List.Pairwise.sublist (List.take_sublist n l) h
theorem postE_next {l : List En} (hg : GoodL l) (hs : Srt l) {i : Nat} (hi : i < l.length) : postE (l.take i) l[i] = 0 := by
  refine postE_srt (hg _ (List.getElem_mem hi)) ?_
  rw [← List.take_succ_eq_append_getElem hi]
  exact srt_take hs _
/-- up to a day -/
def uptoL (y m d : Int) (l : List En) : List En := l.filter fun x => decide (cmpD x.y x.m x.d y m d ≤ 0)
theorem uptoF_srt (y m d : Int) (l : List En) (hg : GoodL l) (hs : Srt l) : uptoF y m d l = uptoL y m d l := by
  have key : ∀ n, n ≤ l.length → uptoF y m d (l.take n) = uptoL y m d (l.take n) := by
    intro n
    induction n with
    | zero => intro _; simp [uptoF, uptoL]
    | succ n ih =>
      intro hn
      have hlt : n < l.length := by omega
      have hts : l.take (n + 1) = l.take n ++ [l[n]] := List.take_succ_eq_append_getElem hlt
      rw [hts, uptoF_snoc, ih (by omega), uptoS, show uptoL y m d (l.take n ++ [l[n]]) = uptoL y m d (l.take n) ++ [l[n]].filter (fun x => decide (cmpD x.y x.m x.d y m d ≤ 0)) from List.filter_append ..]
      by_cases hc : cmpD l[n].y l[n].m l[n].d y m d ≤ 0
      · rw [if_pos hc]
        have hp : postE (uptoL y m d (l.take n)) l[n] = 0 := by
          refine postE_srt (hg _ (List.getElem_mem hlt)) ?_
          have h1 := srt_take hs (n + 1)
          rw [hts] at h1
          refine List.Pairwise.sublist ?_ h1
          exact List.Sublist.append List.filter_sublist (List.Sublist.refl _)
        rw [if_pos hp]
        simp [hc]
      · rw [if_neg hc]
        simp [hc]
  have := key l.length (Nat.le_refl _)
  rwa [List.take_length] at this
theorem uptoL_good {l : List En} (h : GoodL l) (y m d : Int) : GoodL (uptoL y m d l) := fun x hx => h x (List.mem_filter.1 hx).1
theorem uptoL_srt {l : List En} (h : Srt l) (y m d : Int) : Srt (uptoL y m d l) := List.Pairwise.sublist List.filter_sublist h
theorem uptoL_len (y m d : Int) (l : List En) : (uptoL y m d l).length ≤ l.length := List.length_filter_le _ _
end Go.Proofs.YtehoobhbginahaaGreatDoor

set_option linter.unusedVariables false
set_option linter.unusedSimpArgs false
namespace Go.Proofs.YtehoobhbginahaaGreatDoor
open Go Go.Lens
/-! ### order -/
theorem gval_split {B : Nat} (l : List Nat) (i : Nat) (hi : i < l.length) : val B l = pv B l i + B ^ i * (l[i] + B * val B (l.drop (i + 1))) := by
  have e : l = l.take i ++ l[i] :: l.drop (i + 1) := by rw [List.getElem_cons_drop, List.take_append_drop]
  conv => lhs; rw [e]
  rw [val_append, List.length_take, Nat.min_eq_left (by omega)]
  rfl
theorem gpv_lt {B : Nat} {l : List Nat} (h : Small B l) (i : Nat) (hi : i ≤ l.length) : pv B l i < B ^ i := by
  have := val_lt (B := B) (l := l.take i) fun x hx => h x (List.mem_of_mem_take hx)
  rw [List.length_take, Nat.min_eq_left hi] at this
  exact this
/-! ### Sub -/
end Go.Proofs.YtehoobhbginahaaGreatDoor

set_option linter.unusedVariables false
set_option linter.unusedSimpArgs false
namespace Go.Proofs.YtehoobhbginahaaGreatDoor
open Go Go.Lens
theorem txt_get {m i : Nat} (X : Nat) (h : i < m) : (txt m X)[i]? = some (UInt8.ofNat (48 + X / 10 ^ (m - 1 - i) % 10)) := by
  induction i generalizing m with
  | zero =>
    obtain ⟨k, rfl⟩ : ∃ k, m = k + 1 := ⟨m - 1, by omega⟩
    rw [txt_cons]; simp
  | succ i ih =>
    obtain ⟨k, rfl⟩ : ∃ k, m = k + 1 := ⟨m - 1, by omega⟩
    rw [txt_cons, List.getElem?_cons_succ, ih (by omega), show k - 1 - i = k + 1 - 1 - (i + 1) by omega]
theorem digit_of {a : List Nat} (has : Small DB a) {i k : Nat} (hi : i < a.length) (hk : k < 4) : val DB a / 10 ^ (4 * i + k) % 10 = a[i] / 10 ^ k % 10 := by
  have h1 := gval_split (B := DB) a i hi
  have h2 := gpv_lt has i (by omega)
  have hp : 0 < DB ^ i := Nat.pow_pos (by decide)
  have e1 : val DB a / DB ^ i = a[i] + DB * val DB (a.drop (i + 1)) := by
    rw [h1, Nat.add_mul_div_left _ _ hp, Nat.div_eq_of_lt h2, Nat.zero_add]
  rw [Nat.pow_add, Nat.pow_mul, ← Nat.div_div_eq_div_mul, show (10 ^ 4 : Nat) = DB by decide, e1]
  generalize val DB (a.drop (i + 1)) = R
  have hk10 : 0 < 10 ^ k := Nat.pow_pos (by decide)
  have e2 : DB = 10 ^ k * (10 * 10 ^ (3 - k)) := by
    rw [← Nat.pow_succ', ← Nat.pow_add, show k + (3 - k + 1) = 4 by omega]; rfl
  rw [e2, Nat.mul_assoc, Nat.add_mul_div_left _ _ hk10, Nat.mul_assoc, Nat.add_mul_mod_self_left]
theorem rPrint_spec (X : Nat) (hX : RLim X) : Does Tryz.prog 52 [rAV X] (.str (decText X)) := by
  by_cases hX0 : X = 0
  · subst hX0
    rw [rAV_zero]
    refine does tab_ok Tryz.func52 rfl rfl rfl rfl rfl fun w0 H0 hk hj => ?_
    refine W.seq (W.region ?_)
    refine z_p ?_
    refine WL.nil ?_
    refine W.seq (W.seq (W.region ?_))
    refine z_p ?_
    first | refine z_n ?_ | refine z_m ?_ | refine z_k ?_
    refine z_p ?_
    refine WL.nil ?_
    refine W.cond_true rfl ?_
    refine W.seq (W.region ?_)
    refine z_p ?_
    refine WL.nil ?_
    exact W.ret (fin rfl (.shut (.plain rfl) .nil) rfl)
  obtain ⟨a, ha⟩ : ∃ a, a = digs DB X := ⟨_, rfl⟩
  have hal : a.length ≤ 1000000 := ha ▸ hX
  have has : Small DB a := ha ▸ rdigs_small X
  have hav : val DB a = X := ha ▸ rdigs_val X
  have hne : a.length ≠ 0 := by
    intro h
    have := List.eq_nil_of_length_eq_zero h
    rw [ha] at this
    exact hX0 ((digs_eq_nil (by decide) X).1 this)
  obtain ⟨n, hn⟩ : ∃ n, n = ndig X := ⟨_, rfl⟩
  have hnp : 0 < n := hn ▸ ndig_pos hX0
  have hnM : n ≤ 4 * a.length := by
    rw [hn]
    refine ndig_le ?_
    have := val_lt has
    rw [hav] at this
    rw [Nat.pow_mul]; exact this
  have hdt : decText X = txt n X := by rw [decText, if_neg hX0, hn]
  simp only [rAV]
  rw [← ha, hdt]
  refine does tab_ok Tryz.func52 rfl rfl rfl rfl rfl fun w0 H0 hk hj => ?_
  refine W.seq (W.region ?_)
  refine z_p ?_
  refine WL.nil ?_
  refine W.seq (W.seq (W.region ?_))
  refine z_p ?_
  first | refine z_n ?_ | refine z_m ?_ | refine z_k ?_
  refine sq (v_pure rfl) (show _ = AV.bool false from congrArg AV.bool (beq_eq_false_iff_ne.2 (by omega))) rfl rfl rfl ?_
  refine WL.nil ?_
  refine W.cond_false rfl (W.skip ?_)
  refine W.seq (W.region ?_)
  refine z_p ?_
  refine WL.nil ?_
  refine W.seq (W.seq (W.region ?_))
  refine z_p ?_
  refine WL.nil ?_
  refine W.block ?_
  refine W.while (fun m st => ∃ i : Nat, m = a.length - i ∧ i ≤ a.length ∧ st = ⟨[(0, .row (i64AV a) a.length), (3, .str (txt (4 * i) X)), (4, .int .i64 i)], []⟩) a.length
    ⟨0, by omega, by omega, rfl⟩ (by refine ⟨?_, ?_, rfl, Nat.le_of_ble_eq_true rfl⟩ <;> repeat (first | exact trivial | exact rfl | refine ⟨rfl, ?_⟩ | refine ⟨.inr ⟨rfl, ?_⟩, ?_⟩ | refine ⟨.inl rfl, ?_⟩)) ?_
  rintro m _ ⟨i, rfl, hi, rfl⟩
  by_cases hlt : i < a.length
  · have hai := has _ (List.getElem_mem hlt)
    have hdig := fun k hk => digit_of has (i := i) (k := k) hlt hk
    rw [hav] at hdig
    obtain ⟨u, hu⟩ : ∃ u, u = a[i] := ⟨_, rfl⟩
    have hget : (i64AV a)[i]? = some (.int .i64 (u : Nat)) := by rw [hu]; exact i64AV_get hlt
    rw [← hu] at hai hdig
    simp only [DB] at hai
    refine W.seq (W.seq (W.region ?_))
    refine z_p ?_
    refine z_p ?_
    first | refine z_n ?_ | refine z_m ?_ | refine z_k ?_
    refine z_T (show (i : Int) < a.length by omega) ?_
    refine WL.nil ?_
    refine W.cond_true rfl (W.skip ?_)
    refine W.seq (W.block ?_)
    refine W.seq (W.region ?_)
    refine z_p ?_
    refine z_p ?_
    refine sp (v_indexAddr_row rfl rfl rfl rfl rfl rfl (by omega) (by omega) (i64AV_ne hlt)) rfl rfl rfl ?_
    refine sp (v_load_radr rfl rfl rfl (loadc_at rfl (Nat.mul_one _) hget)) rfl rfl rfl ?_
    refine z_p ?_
    refine WL.nil ?_
    refine W.seq (W.region ?_)
    refine z_p ?_
    refine WL.nil ?_
    refine W.block ?_
    refine W.while (fun m st => ∃ k : Nat, m = 4 - k ∧ k ≤ 4 ∧ st = ⟨[(0, .row (i64AV a) a.length), (3, .str (txt (4 * i + k) X)), (4, .int .i64 i), (5, .int .i64 (u / 10 ^ k : Nat)), (6, .int .i64 k)], []⟩) 4
      ⟨0, by omega, by omega, by rw [Nat.pow_zero, Nat.div_one]⟩ (by refine ⟨?_, ?_, rfl, Nat.le_of_ble_eq_true rfl⟩ <;> repeat (first | exact trivial | exact rfl | refine ⟨rfl, ?_⟩ | refine ⟨.inr ⟨rfl, ?_⟩, ?_⟩ | refine ⟨.inl rfl, ?_⟩)) ?_
    rintro m _ ⟨k, rfl, hk4, rfl⟩
    by_cases hk : k < 4
    · obtain ⟨d, hd⟩ : ∃ d, d = u / 10 ^ k := ⟨_, rfl⟩
      have hdl : d ≤ u := hd ▸ Nat.div_le_self _ _
      have hdn : u / 10 ^ (k + 1) = d / 10 := by rw [hd, Nat.pow_succ, Nat.div_div_eq_div_mul]
      have hdd := hdig k hk
      rw [← hd] at hdd
      obtain ⟨D, hD⟩ : ∃ D, D = d % 10 := ⟨_, rfl⟩
      have hD10 : D < 10 := hD ▸ Nat.mod_lt _ (by decide)
      rw [← hD] at hdd
      have htx : txt (4 * i + (k + 1)) X = UInt8.ofNat (48 + D) :: txt (4 * i + k) X := by
        rw [show 4 * i + (k + 1) = 4 * i + k + 1 by omega, txt_cons, hdd]
      rw [← hd]
      refine W.seq (W.seq (W.region ?_))
      refine z_p ?_
      refine z_T (show (k : Int) < 4 by omega) ?_
      refine WL.nil ?_
      refine W.cond_true rfl (W.skip ?_)
      refine W.seq (W.block ?_)
      refine W.seq (W.region ?_)
      refine z_p ?_
      refine sq (v_bin rfl rfl rfl (rem_nn (by omega) (by omega))) (show _ = AV.int .i64 (D : Nat) from congrArg (AV.int .i64) (by rw [hD]; exact (Int.natCast_emod d 10).symm)) rfl rfl rfl ?_
      refine z_i ?_
      refine sq (v_conv_int rfl rfl rfl rfl rfl) (show _ = AV.int .u8 ((UInt8.ofNat (48 + D)).toNat : Nat) from congrArg (AV.int .u8) (by rw [dig_nat D hD10, IntKind.wrap_u8]; omega)) rfl rfl rfl ?_
      refine sn (v_buildSlice rfl rfl rfl rfl rfl rfl rfl (Nat.le_of_ble_eq_true rfl) (Nat.le_of_ble_eq_true rfl) rfl rfl rfl rfl) (rfl : _ = AV.sl 0 0 0 1 true) (rfl : _ = [_]) rfl rfl rfl ?_
      refine sp (v_conv_bytes (l := [UInt8.ofNat (48 + D)]) rfl rfl rfl rfl rfl rfl rfl rfl rfl rfl rfl) rfl rfl rfl ?_
      refine z_p ?_
      refine sq (v_bin rfl rfl rfl (if_pos (by simp [txt_length]; omega))) (show _ = AV.str (txt (4 * i + (k + 1)) X) from congrArg AV.str htx.symm) rfl rfl rfl ?_
      refine z_p ?_
      refine WL.nil ?_
      refine W.region ?_
      refine z_p ?_
      refine sq (v_bin rfl rfl rfl (quo_i64 (by omega) (by omega) (by omega))) (show _ = AV.int .i64 (d / 10 : Nat) from congrArg (AV.int .i64) (Int.natCast_ediv d 10).symm) rfl rfl rfl ?_
      refine z_p ?_
      refine WL.nil ?_
      refine W.region ?_
      refine z_p ?_
      refine z_i ?_
      refine z_p ?_
      refine WL.nil ?_
      exact ⟨4 - (k + 1), _, _, by omega, ⟨k + 1, rfl, by omega, by rw [hdn]⟩, (by refine ⟨?_, ?_, rfl, Nat.le_of_ble_eq_true rfl⟩ <;> repeat (first | exact trivial | exact rfl | refine ⟨rfl, ?_⟩ | refine ⟨.inr ⟨rfl, ?_⟩, ?_⟩ | refine ⟨.inl rfl, ?_⟩))⟩
    · have hk' : k = 4 := by omega
      subst hk'
      refine W.seq (W.seq (W.region ?_))
      refine z_p ?_
      refine z_F (show ¬ ((4 : Nat) : Int) < 4 by decide) ?_
      refine WL.nil ?_
      refine W.cond_false rfl (W.exit ?_)
      refine W.region ?_
      refine z_p ?_
      refine z_i ?_
      refine z_p ?_
      refine WL.nil ?_
      exact ⟨a.length - (i + 1), _, _, by omega, ⟨i + 1, rfl, by omega, rfl⟩, (by refine ⟨?_, ?_, rfl, Nat.le_of_ble_eq_true rfl⟩ <;> repeat (first | exact trivial | exact rfl | refine ⟨rfl, ?_⟩ | refine ⟨.inr ⟨rfl, ?_⟩, ?_⟩ | refine ⟨.inl rfl, ?_⟩))⟩
  · have hie : i = a.length := by omega
    subst hie
    obtain ⟨M, hM⟩ : ∃ M, M = 4 * a.length := ⟨_, rfl⟩
    rw [← hM] at hnM ⊢
    refine W.seq (W.seq (W.region ?_))
    refine z_p ?_
    refine z_p ?_
    first | refine z_n ?_ | refine z_m ?_ | refine z_k ?_
    refine z_F (show ¬ ((a.length : Nat) : Int) < a.length by omega) ?_
    refine WL.nil ?_
    refine W.cond_false rfl (W.exit ?_)
    refine W.seq (W.region ?_)
    refine z_p ?_
    refine WL.nil ?_
    refine W.seq (W.block ?_)
    refine W.while (fun m st => ∃ j : Nat, m = M - n - j ∧ j ≤ M - n ∧ st = ⟨[(0, .row (i64AV a) a.length), (3, .str (txt M X)), (7, .int .i64 j)], []⟩) (M - n)
      ⟨0, by omega, by omega, rfl⟩ (by refine ⟨?_, ?_, rfl, Nat.le_of_ble_eq_true rfl⟩ <;> repeat (first | exact trivial | exact rfl | refine ⟨rfl, ?_⟩ | refine ⟨.inr ⟨rfl, ?_⟩, ?_⟩ | refine ⟨.inl rfl, ?_⟩)) ?_
    rintro m _ ⟨j, rfl, hj', rfl⟩
    have hsl : (txt M X).length = M := txt_length M X
    obtain ⟨c, hc⟩ : ∃ c, c = UInt8.ofNat (48 + X / 10 ^ (M - 1 - j) % 10) := ⟨_, rfl⟩
    have hgc : (txt M X)[j]? = some c := by rw [hc]; exact txt_get X (by omega)
    have hcn : c.toNat = 48 + X / 10 ^ (M - 1 - j) % 10 := by rw [hc]; exact dig_nat _ (Nat.mod_lt _ (by decide))
    by_cases hlt : j < M - n
    · have hz : X / 10 ^ (M - 1 - j) = 0 := by
        refine Nat.div_eq_of_lt (Nat.lt_of_lt_of_le (ndig_lt X) (Nat.pow_le_pow_right (by decide) ?_))
        omega
      rw [hz] at hcn
      refine W.seq (W.seq (W.region ?_))
      refine z_p ?_
      refine z_p ?_
      refine sp (v_index_str (b := c) rfl rfl rfl rfl rfl (by omega) hgc) rfl rfl rfl ?_
      refine sq (v_pure rfl) (show _ = AV.bool true from congrArg AV.bool (beq_iff_eq.2 (by omega))) rfl rfl rfl ?_
      refine WL.nil ?_
      refine W.cond_true rfl (W.skip ?_)
      refine W.block ?_
      refine W.region ?_
      refine z_p ?_
      refine z_i ?_
      refine z_p ?_
      refine WL.nil ?_
      exact ⟨M - n - (j + 1), _, _, by omega, ⟨j + 1, rfl, by omega, rfl⟩, (by refine ⟨?_, ?_, rfl, Nat.le_of_ble_eq_true rfl⟩ <;> repeat (first | exact trivial | exact rfl | refine ⟨rfl, ?_⟩ | refine ⟨.inr ⟨rfl, ?_⟩, ?_⟩ | refine ⟨.inl rfl, ?_⟩))⟩
    · have hje : j = M - n := by omega
      subst hje
      have hz : X / 10 ^ (M - 1 - (M - n)) % 10 ≠ 0 := by
        rw [show M - 1 - (M - n) = n - 1 by omega]
        have h1 : 10 ^ (n - 1) ≤ X := lt_ndig.1 (by omega)
        have h2 := ndig_lt X
        rw [← hn, show n = n - 1 + 1 by omega, Nat.pow_succ] at h2
        have h3 : X / 10 ^ (n - 1) < 10 := Nat.div_lt_of_lt_mul (by rw [Nat.mul_comm] at h2; rw [Nat.mul_comm]; omega)
        have h4 : 0 < X / 10 ^ (n - 1) := Nat.div_pos h1 (Nat.pow_pos (by decide))
        rw [Nat.mod_eq_of_lt h3]; omega
      have hsd : (txt M X).drop (M - n) = txt n X := by
        have h1 := txt_add (M - n) n X
        rw [show M - n + n = M by omega] at h1
        rw [h1, List.drop_append_of_le_length (by rw [txt_length]; omega), List.drop_of_length_le (by rw [txt_length]; omega), List.nil_append]
      refine W.seq (W.seq (W.region ?_))
      refine z_p ?_
      refine z_p ?_
      refine sp (v_index_str (b := c) rfl rfl rfl rfl rfl (by omega) hgc) rfl rfl rfl ?_
      refine sq (v_pure rfl) (show _ = AV.bool false from congrArg AV.bool (beq_eq_false_iff_ne.2 (by omega))) rfl rfl rfl ?_
      refine WL.nil ?_
      refine W.cond_false rfl (W.exit ?_)
      refine W.seq (W.region ?_)
      refine z_p ?_
      refine z_p ?_
      refine sq (v_slice_str rfl rfl rfl rfl ⟨_, _, rfl, by omega, rfl⟩ rfl (by omega) (by omega)) (show _ = AV.str (txt n X) from congrArg AV.str (by rw [Int.toNat_natCast, hsd, List.take_of_length_le (by rw [txt_length, hsl]; omega)])) rfl rfl rfl ?_
      refine z_p ?_
      refine WL.nil ?_
      exact W.ret (fin rfl (.shut (.plain rfl) .nil) rfl)
end Go.Proofs.YtehoobhbginahaaGreatDoor

set_option linter.unusedVariables false
set_option linter.unusedSimpArgs false
namespace Go.Proofs.YtehoobhbginahaaGreatDoor
open Go Go.Lens
theorem rwPrint (z : Int) (hz : RLim z.natAbs) (hz' : Lim z.natAbs) : Does Tryz.prog 29 [rwAV z] (.str (wText z)) := by
  have hp := rPrint_spec z.natAbs hz
  have hl := decText_len_le z.natAbs hz'
  refine does tab_ok Tryz.func29 rfl rfl rfl rfl rfl fun w0 H0 hk hj => ?_
  refine W.seq (W.region ?_)
  first | refine z_B 0 [_] ?_ | refine sn (a_box rfl rfl (.inr ⟨trivial, rfl⟩)) (rfl : _ = AV.ptr 0 0 0) (rfl : _ = [_]) rfl rfl rfl ?_
  refine z_p ?_
  refine WL.nil ?_
  refine W.seq (W.region ?_)
  first | refine z_f ?_ | refine z_g ?_
  first | refine z_l ?_ | refine z_r ?_
  refine z_c (hp) ?_
  refine z_p ?_
  refine WL.nil ?_
  refine W.seq (W.seq (W.region ?_))
  first | refine z_f ?_ | refine z_g ?_
  first | refine z_l ?_ | refine z_r ?_
  refine WL.nil ?_
  by_cases hn : z < 0
  · refine W.cond (b := true) (by show some (AV.bool (decide (z < 0))) = _; rw [decide_eq_true hn]) (fun _ => ?_) (fun h => by cases h)
    refine W.seq (W.region ?_)
    refine z_p ?_
    refine sp (v_bin rfl rfl rfl (if_pos (by simp; omega))) rfl rfl rfl ?_
    refine z_p ?_
    refine WL.nil ?_
    exact W.ret (fin rfl (.shut (.plain rfl) .nil) (by rw [wText, if_pos hn]; rfl))
  · refine W.cond (b := false) (by show some (AV.bool (decide (z < 0))) = _; rw [decide_eq_false hn]) (fun h => by cases h) (fun _ => W.skip ?_)
    refine W.seq (W.region ?_)
    refine z_p ?_
    refine z_p ?_
    refine WL.nil ?_
    exact W.ret (fin rfl (.shut (.plain rfl) .nil) (by rw [wText, if_neg hn]; rfl))
end Go.Proofs.YtehoobhbginahaaGreatDoor

set_option linter.unusedVariables false
set_option linter.unusedSimpArgs false
namespace Go.Proofs.YtehoobhbginahaaGreatDoor
open Go Go.Lens
def dtAV (x : Dt) : AV := dateAV x.1 x.2.1 x.2.2
theorem rNext_spec (x : Dt) (h : 1 ≤ x.1 ∧ x.1 ≤ 9999) (h2 : 1 ≤ x.2.1 ∧ x.2.1 ≤ 12) (h3 : 1 ≤ x.2.2 ∧ x.2.2 ≤ 31) : ∃ b, Does Tryz.prog 27 [dtAV x] (.tup [dtAV (nextT x), .bool b]) := by
  obtain ⟨y, m, d⟩ := x
  simp only at h h2 h3
  have hd := daysR_spec y m
  have hdd := daysF_right h h2
  refine ⟨if d < daysF y m then true else if m < 12 then true else decide (y < 9999), ?_⟩
  simp only [dtAV, nextT]
  refine does tab_ok Tryz.func27 rfl rfl rfl rfl rfl fun w0 H0 hk hj => ?_
  refine W.seq (W.region ?_)
  first | refine z_B 0 [_] ?_ | refine sn (a_box rfl rfl (.inr ⟨trivial, rfl⟩)) (rfl : _ = AV.ptr 0 0 0) (rfl : _ = [_]) rfl rfl rfl ?_
  refine z_a 1 [_, _] ?_
  refine z_p ?_
  refine WL.nil ?_
  refine W.seq (W.region ?_)
  first | refine z_f ?_ | refine z_g ?_
  first | refine z_l ?_ | refine z_r ?_
  first | refine z_f ?_ | refine z_g ?_
  first | refine z_l ?_ | refine z_r ?_
  refine z_c (hd) ?_
  refine z_p ?_
  refine WL.nil ?_
  refine W.seq (W.seq (W.region ?_))
  first | refine z_f ?_ | refine z_g ?_
  first | refine z_l ?_ | refine z_r ?_
  refine z_p ?_
  refine z_p ?_
  refine WL.nil ?_
  refine W.cond rfl (fun hc => ?_) (fun hc => ?_)
  · have hc0 : d < daysF y m := by simpa using hc
    rw [if_pos hc0, if_pos hc0]
    refine W.seq (W.region ?_)
    first | refine z_f ?_ | refine z_g ?_
    first | refine z_l ?_ | refine z_r ?_
    first | refine z_f ?_ | refine z_g ?_
    first | refine z_l ?_ | refine z_r ?_
    first | refine z_f ?_ | refine z_g ?_
    first | refine z_l ?_ | refine z_r ?_
    refine z_i ?_
    refine sq (v_build rfl rfl rfl rfl rfl rfl rfl) (rfl : _ = AV.agg [_, _, _]) rfl rfl rfl ?_
    refine z_s [_, _] ?_
    refine z_p ?_
    refine WL.nil ?_
    exact W.ret (fin (resAV_cell rfl rfl rfl rfl rfl) (.shut (.plain rfl) (.shut (.plain rfl) .nil)) rfl)
  · have hc0 : ¬ d < daysF y m := by simpa using hc
    rw [if_neg hc0, if_neg hc0]
    refine W.skip ?_
    refine W.seq (W.seq (W.region ?_))
    first | refine z_f ?_ | refine z_g ?_
    first | refine z_l ?_ | refine z_r ?_
    refine z_p ?_
    refine WL.nil ?_
    refine W.cond rfl (fun hc => ?_) (fun hc => ?_)
    · have hc1 : m < 12 := by simpa using hc
      rw [if_pos hc1, if_pos hc1]
      refine W.seq (W.region ?_)
      first | refine z_f ?_ | refine z_g ?_
      first | refine z_l ?_ | refine z_r ?_
      first | refine z_f ?_ | refine z_g ?_
      first | refine z_l ?_ | refine z_r ?_
      refine z_i ?_
      refine sq (v_build rfl rfl rfl rfl rfl rfl rfl) (rfl : _ = AV.agg [_, _, _]) rfl rfl rfl ?_
      refine z_s [_, _] ?_
      refine z_p ?_
      refine WL.nil ?_
      exact W.ret (fin (resAV_cell rfl rfl rfl rfl rfl) (.shut (.plain rfl) (.shut (.plain rfl) .nil)) rfl)
    · have hc1 : ¬ m < 12 := by simpa using hc
      rw [if_neg hc1, if_neg hc1]
      refine W.skip ?_
      refine W.seq (W.middle mixed [31, 32, 33, 34, 35, 36, 37] [4, 5, 6] [0, 1, 2, 3] 1 rfl rfl rfl rfl rfl rfl ?_)
      apply MidV.step
      · intro more
        first | refine z_f ?_ | refine z_g ?_
        exact z_e
      apply MidV.step
      · intro more
        first | refine z_l ?_ | refine z_r ?_
        exact z_e
      apply MidV.step
      · intro more
        refine z_i ?_
        exact z_e
      apply MidV.step
      · intro more
        refine sq (v_build rfl rfl rfl rfl rfl rfl rfl) (rfl : _ = AV.agg [_, _, _]) rfl rfl rfl ?_
        exact z_e
      refine MidV.done ?_
      apply MidM.eff rfl
      · intro more
        refine z_s [_, _] ?_
        exact z_e
      refine MidM.done ?_
      apply MidF.step
      · refine ⟨fun more => ?_, fun more => ?_, trivial⟩
        first | refine z_f ?_ | refine z_g ?_
        exact z_e
        first | refine z_f ?_ | refine z_g ?_
        exact z_e
      apply MidF.step
      · refine ⟨fun more => ?_, fun more => ?_, trivial⟩
        first | refine z_l ?_ | refine z_r ?_
        exact z_e
        first | refine z_l ?_ | refine z_r ?_
        exact z_e
      apply MidF.step
      · refine ⟨fun more => ?_, fun more => ?_, trivial⟩
        refine z_p ?_
        exact z_e
        refine z_p ?_
        exact z_e
      refine MidF.done ?_
      refine z_p ?_
      refine WL.nil ?_
      exact W.ret (fin (resAV_cell rfl rfl rfl rfl rfl) (.shut (.plain rfl) (.shut (.plain rfl) .nil)) rfl)
theorem make9990_spec (a b c : Int) : Does Tryz.prog 26 [.agg [.int .i64 a, .int .i64 b, .int .i64 c], .int .i64 9990] (dateAV (makeY' a) (makeM b) (makeD' a b c)) := by
  have e1 := tmod_fix (a := a) (b := 9990) (by decide)
  have e2 := tmod_fix (a := b) (b := 12) (by decide)
  have b1 := tmod_bounds (a := a) (b := 9990) (by decide)
  have b2 := tmod_bounds (a := b) (b := 12) (by decide)
  have hn := daysF_right (y := makeY' a) (m := makeM b) (by unfold makeY'; omega) (by unfold makeM; omega)
  obtain ⟨n, hnn⟩ : ∃ n, n = daysF (makeY' a) (makeM b) := ⟨_, rfl⟩
  have e3 := tmod_fix (a := c) (b := n) (by omega)
  have b3 := tmod_bounds (a := c) (b := n) (by omega)
  have hd := daysR_spec (makeY' a) (makeM b)
  rw [← hnn] at hd hn
  refine does tab_ok Tryz.func26 rfl rfl rfl rfl rfl fun w0 H0 hk hj => ?_
  refine W.seq (W.region ?_)
  first | refine z_B 0 [_] ?_ | refine sn (a_box rfl rfl (.inr ⟨trivial, rfl⟩)) (rfl : _ = AV.ptr 0 0 0) (rfl : _ = [_]) rfl rfl rfl ?_
  refine z_a 1 [_, _] ?_
  refine WL.nil ?_
  refine W.seq (W.region ?_)
  refine sp (v_indexAddr_arr rfl rfl rfl rfl rfl rfl rfl (by omega) (by omega)) rfl rfl rfl ?_
  first | refine z_l ?_ | refine z_r ?_
  refine z_p ?_
  refine sp (v_bin rfl rfl rfl (rem_any (by decide))) rfl rfl rfl ?_
  refine z_p ?_
  refine WL.nil ?_
  refine W.seq (W.seq (W.region ?_))
  refine z_p ?_
  refine z_p ?_
  refine WL.nil ?_
  refine W.cond rfl (fun hc14 => ?_) (fun hc14 => ?_)
  · rw [decide_eq_true_eq] at hc14
    refine W.region ?_
    refine z_p ?_
    refine z_p ?_
    refine z_i ?_
    refine z_p ?_
    refine WL.nil ?_
    refine W.seq (W.region ?_)
    refine sp (v_indexAddr_arr rfl rfl rfl rfl rfl rfl rfl (by omega) (by omega)) rfl rfl rfl ?_
    first | refine z_l ?_ | refine z_r ?_
    refine sp (v_bin rfl rfl rfl (rem_any (by decide))) rfl rfl rfl ?_
    refine z_p ?_
    refine WL.nil ?_
    refine W.seq (W.seq (W.region ?_))
    refine z_p ?_
    refine z_p ?_
    refine WL.nil ?_
    refine W.cond rfl (fun hc22 => ?_) (fun hc22 => ?_)
    · rw [decide_eq_true_eq] at hc22
      refine W.region ?_
      refine z_p ?_
      refine z_i ?_
      refine z_p ?_
      refine WL.nil ?_
      refine W.seq (W.region ?_)
      refine sq (v_pure rfl) (show _ = AV.int .i64 (a % 9990) from congrArg (AV.int .i64) (by rw [← e1]; first | rw [if_pos hc14] | rw [if_neg hc14])) rfl rfl rfl ?_
      refine sq (v_i64 rfl rfl rfl rfl (by omega) (by omega)) (show _ = AV.int .i64 (makeY' a) from rfl) rfl rfl rfl ?_
      refine sq (v_pure rfl) (show _ = AV.int .i64 (b % 12) from congrArg (AV.int .i64) (by rw [← e2]; first | rw [if_pos hc22] | rw [if_neg hc22])) rfl rfl rfl ?_
      refine sq (v_i64 rfl rfl rfl rfl (by omega) (by omega)) (show _ = AV.int .i64 (makeM b) from rfl) rfl rfl rfl ?_
      refine z_c (hd) ?_
      refine z_p ?_
      refine WL.nil ?_
      refine W.seq (W.region ?_)
      refine sp (v_indexAddr_arr rfl rfl rfl rfl rfl rfl rfl (by omega) (by omega)) rfl rfl rfl ?_
      first | refine z_l ?_ | refine z_r ?_
      refine z_p ?_
      refine sp (v_bin rfl rfl rfl (rem_any (by omega))) rfl rfl rfl ?_
      refine z_p ?_
      refine WL.nil ?_
      refine W.seq (W.seq (W.region ?_))
      refine z_p ?_
      refine z_p ?_
      refine WL.nil ?_
      refine W.cond rfl (fun hc35 => ?_) (fun hc35 => ?_)
      · rw [decide_eq_true_eq] at hc35
        refine W.region ?_
        refine z_p ?_
        refine z_p ?_
        refine z_i ?_
        refine z_p ?_
        refine WL.nil ?_
        refine W.seq (W.region ?_)
        refine sq (v_pure rfl) (show _ = AV.int .i64 (a % 9990) from congrArg (AV.int .i64) (by rw [← e1]; first | rw [if_pos hc14] | rw [if_neg hc14])) rfl rfl rfl ?_
        refine sq (v_i64 rfl rfl rfl rfl (by omega) (by omega)) (show _ = AV.int .i64 (makeY' a) from rfl) rfl rfl rfl ?_
        refine sq (v_pure rfl) (show _ = AV.int .i64 (b % 12) from congrArg (AV.int .i64) (by rw [← e2]; first | rw [if_pos hc22] | rw [if_neg hc22])) rfl rfl rfl ?_
        refine sq (v_i64 rfl rfl rfl rfl (by omega) (by omega)) (show _ = AV.int .i64 (makeM b) from rfl) rfl rfl rfl ?_
        refine sq (v_pure rfl) (show _ = AV.int .i64 (c % n) from congrArg (AV.int .i64) (by rw [← e3]; first | rw [if_pos hc35] | rw [if_neg hc35])) rfl rfl rfl ?_
        refine sq (v_i64 rfl rfl rfl rfl (by omega) (by omega)) (show _ = AV.int .i64 (makeD' a b c) from congrArg (AV.int .i64) (by unfold makeD'; rw [← hnn])) rfl rfl rfl ?_
        refine sq (v_build rfl rfl rfl rfl rfl rfl rfl) (rfl : _ = AV.agg [_, _, _]) rfl rfl rfl ?_
        refine z_s [_, _] ?_
        refine WL.nil ?_
        refine W.ret (fin rfl (.shut (.plain (by first | rfl | simp [plainL, AV.plain])) .nil) ?_)
        rfl
      · rw [decide_eq_false_iff_not] at hc35
        refine W.skip ?_
        refine W.seq (W.region ?_)
        refine sq (v_pure rfl) (show _ = AV.int .i64 (a % 9990) from congrArg (AV.int .i64) (by rw [← e1]; first | rw [if_pos hc14] | rw [if_neg hc14])) rfl rfl rfl ?_
        refine sq (v_i64 rfl rfl rfl rfl (by omega) (by omega)) (show _ = AV.int .i64 (makeY' a) from rfl) rfl rfl rfl ?_
        refine sq (v_pure rfl) (show _ = AV.int .i64 (b % 12) from congrArg (AV.int .i64) (by rw [← e2]; first | rw [if_pos hc22] | rw [if_neg hc22])) rfl rfl rfl ?_
        refine sq (v_i64 rfl rfl rfl rfl (by omega) (by omega)) (show _ = AV.int .i64 (makeM b) from rfl) rfl rfl rfl ?_
        refine sq (v_pure rfl) (show _ = AV.int .i64 (c % n) from congrArg (AV.int .i64) (by rw [← e3]; first | rw [if_pos hc35] | rw [if_neg hc35])) rfl rfl rfl ?_
        refine sq (v_i64 rfl rfl rfl rfl (by omega) (by omega)) (show _ = AV.int .i64 (makeD' a b c) from congrArg (AV.int .i64) (by unfold makeD'; rw [← hnn])) rfl rfl rfl ?_
        refine sq (v_build rfl rfl rfl rfl rfl rfl rfl) (rfl : _ = AV.agg [_, _, _]) rfl rfl rfl ?_
        refine z_s [_, _] ?_
        refine WL.nil ?_
        refine W.ret (fin rfl (.shut (.plain (by first | rfl | simp [plainL, AV.plain])) .nil) ?_)
        rfl
    · rw [decide_eq_false_iff_not] at hc22
      refine W.skip ?_
      refine W.seq (W.region ?_)
      refine sq (v_pure rfl) (show _ = AV.int .i64 (a % 9990) from congrArg (AV.int .i64) (by rw [← e1]; first | rw [if_pos hc14] | rw [if_neg hc14])) rfl rfl rfl ?_
      refine sq (v_i64 rfl rfl rfl rfl (by omega) (by omega)) (show _ = AV.int .i64 (makeY' a) from rfl) rfl rfl rfl ?_
      refine sq (v_pure rfl) (show _ = AV.int .i64 (b % 12) from congrArg (AV.int .i64) (by rw [← e2]; first | rw [if_pos hc22] | rw [if_neg hc22])) rfl rfl rfl ?_
      refine sq (v_i64 rfl rfl rfl rfl (by omega) (by omega)) (show _ = AV.int .i64 (makeM b) from rfl) rfl rfl rfl ?_
      refine z_c (hd) ?_
      refine z_p ?_
      refine WL.nil ?_
      refine W.seq (W.region ?_)
      refine sp (v_indexAddr_arr rfl rfl rfl rfl rfl rfl rfl (by omega) (by omega)) rfl rfl rfl ?_
      first | refine z_l ?_ | refine z_r ?_
      refine z_p ?_
      refine sp (v_bin rfl rfl rfl (rem_any (by omega))) rfl rfl rfl ?_
      refine z_p ?_
      refine WL.nil ?_
      refine W.seq (W.seq (W.region ?_))
      refine z_p ?_
      refine z_p ?_
      refine WL.nil ?_
      refine W.cond rfl (fun hc35 => ?_) (fun hc35 => ?_)
      · rw [decide_eq_true_eq] at hc35
        refine W.region ?_
        refine z_p ?_
        refine z_p ?_
        refine z_i ?_
        refine z_p ?_
        refine WL.nil ?_
        refine W.seq (W.region ?_)
        refine sq (v_pure rfl) (show _ = AV.int .i64 (a % 9990) from congrArg (AV.int .i64) (by rw [← e1]; first | rw [if_pos hc14] | rw [if_neg hc14])) rfl rfl rfl ?_
        refine sq (v_i64 rfl rfl rfl rfl (by omega) (by omega)) (show _ = AV.int .i64 (makeY' a) from rfl) rfl rfl rfl ?_
        refine sq (v_pure rfl) (show _ = AV.int .i64 (b % 12) from congrArg (AV.int .i64) (by rw [← e2]; first | rw [if_pos hc22] | rw [if_neg hc22])) rfl rfl rfl ?_
        refine sq (v_i64 rfl rfl rfl rfl (by omega) (by omega)) (show _ = AV.int .i64 (makeM b) from rfl) rfl rfl rfl ?_
        refine sq (v_pure rfl) (show _ = AV.int .i64 (c % n) from congrArg (AV.int .i64) (by rw [← e3]; first | rw [if_pos hc35] | rw [if_neg hc35])) rfl rfl rfl ?_
        refine sq (v_i64 rfl rfl rfl rfl (by omega) (by omega)) (show _ = AV.int .i64 (makeD' a b c) from congrArg (AV.int .i64) (by unfold makeD'; rw [← hnn])) rfl rfl rfl ?_
        refine sq (v_build rfl rfl rfl rfl rfl rfl rfl) (rfl : _ = AV.agg [_, _, _]) rfl rfl rfl ?_
        refine z_s [_, _] ?_
        refine WL.nil ?_
        refine W.ret (fin rfl (.shut (.plain (by first | rfl | simp [plainL, AV.plain])) .nil) ?_)
        rfl
      · rw [decide_eq_false_iff_not] at hc35
        refine W.skip ?_
        refine W.seq (W.region ?_)
        refine sq (v_pure rfl) (show _ = AV.int .i64 (a % 9990) from congrArg (AV.int .i64) (by rw [← e1]; first | rw [if_pos hc14] | rw [if_neg hc14])) rfl rfl rfl ?_
        refine sq (v_i64 rfl rfl rfl rfl (by omega) (by omega)) (show _ = AV.int .i64 (makeY' a) from rfl) rfl rfl rfl ?_
        refine sq (v_pure rfl) (show _ = AV.int .i64 (b % 12) from congrArg (AV.int .i64) (by rw [← e2]; first | rw [if_pos hc22] | rw [if_neg hc22])) rfl rfl rfl ?_
        refine sq (v_i64 rfl rfl rfl rfl (by omega) (by omega)) (show _ = AV.int .i64 (makeM b) from rfl) rfl rfl rfl ?_
        refine sq (v_pure rfl) (show _ = AV.int .i64 (c % n) from congrArg (AV.int .i64) (by rw [← e3]; first | rw [if_pos hc35] | rw [if_neg hc35])) rfl rfl rfl ?_
        refine sq (v_i64 rfl rfl rfl rfl (by omega) (by omega)) (show _ = AV.int .i64 (makeD' a b c) from congrArg (AV.int .i64) (by unfold makeD'; rw [← hnn])) rfl rfl rfl ?_
        refine sq (v_build rfl rfl rfl rfl rfl rfl rfl) (rfl : _ = AV.agg [_, _, _]) rfl rfl rfl ?_
        refine z_s [_, _] ?_
        refine WL.nil ?_
        refine W.ret (fin rfl (.shut (.plain (by first | rfl | simp [plainL, AV.plain])) .nil) ?_)
        rfl
  · rw [decide_eq_false_iff_not] at hc14
    refine W.skip ?_
    refine W.seq (W.region ?_)
    refine sp (v_indexAddr_arr rfl rfl rfl rfl rfl rfl rfl (by omega) (by omega)) rfl rfl rfl ?_
    first | refine z_l ?_ | refine z_r ?_
    refine sp (v_bin rfl rfl rfl (rem_any (by decide))) rfl rfl rfl ?_
    refine z_p ?_
    refine WL.nil ?_
    refine W.seq (W.seq (W.region ?_))
    refine z_p ?_
    refine z_p ?_
    refine WL.nil ?_
    refine W.cond rfl (fun hc22 => ?_) (fun hc22 => ?_)
    · rw [decide_eq_true_eq] at hc22
      refine W.region ?_
      refine z_p ?_
      refine z_i ?_
      refine z_p ?_
      refine WL.nil ?_
      refine W.seq (W.region ?_)
      refine sq (v_pure rfl) (show _ = AV.int .i64 (a % 9990) from congrArg (AV.int .i64) (by rw [← e1]; first | rw [if_pos hc14] | rw [if_neg hc14])) rfl rfl rfl ?_
      refine sq (v_i64 rfl rfl rfl rfl (by omega) (by omega)) (show _ = AV.int .i64 (makeY' a) from rfl) rfl rfl rfl ?_
      refine sq (v_pure rfl) (show _ = AV.int .i64 (b % 12) from congrArg (AV.int .i64) (by rw [← e2]; first | rw [if_pos hc22] | rw [if_neg hc22])) rfl rfl rfl ?_
      refine sq (v_i64 rfl rfl rfl rfl (by omega) (by omega)) (show _ = AV.int .i64 (makeM b) from rfl) rfl rfl rfl ?_
      refine z_c (hd) ?_
      refine z_p ?_
      refine WL.nil ?_
      refine W.seq (W.region ?_)
      refine sp (v_indexAddr_arr rfl rfl rfl rfl rfl rfl rfl (by omega) (by omega)) rfl rfl rfl ?_
      first | refine z_l ?_ | refine z_r ?_
      refine z_p ?_
      refine sp (v_bin rfl rfl rfl (rem_any (by omega))) rfl rfl rfl ?_
      refine z_p ?_
      refine WL.nil ?_
      refine W.seq (W.seq (W.region ?_))
      refine z_p ?_
      refine z_p ?_
      refine WL.nil ?_
      refine W.cond rfl (fun hc35 => ?_) (fun hc35 => ?_)
      · rw [decide_eq_true_eq] at hc35
        refine W.region ?_
        refine z_p ?_
        refine z_p ?_
        refine z_i ?_
        refine z_p ?_
        refine WL.nil ?_
        refine W.seq (W.region ?_)
        refine sq (v_pure rfl) (show _ = AV.int .i64 (a % 9990) from congrArg (AV.int .i64) (by rw [← e1]; first | rw [if_pos hc14] | rw [if_neg hc14])) rfl rfl rfl ?_
        refine sq (v_i64 rfl rfl rfl rfl (by omega) (by omega)) (show _ = AV.int .i64 (makeY' a) from rfl) rfl rfl rfl ?_
        refine sq (v_pure rfl) (show _ = AV.int .i64 (b % 12) from congrArg (AV.int .i64) (by rw [← e2]; first | rw [if_pos hc22] | rw [if_neg hc22])) rfl rfl rfl ?_
        refine sq (v_i64 rfl rfl rfl rfl (by omega) (by omega)) (show _ = AV.int .i64 (makeM b) from rfl) rfl rfl rfl ?_
        refine sq (v_pure rfl) (show _ = AV.int .i64 (c % n) from congrArg (AV.int .i64) (by rw [← e3]; first | rw [if_pos hc35] | rw [if_neg hc35])) rfl rfl rfl ?_
        refine sq (v_i64 rfl rfl rfl rfl (by omega) (by omega)) (show _ = AV.int .i64 (makeD' a b c) from congrArg (AV.int .i64) (by unfold makeD'; rw [← hnn])) rfl rfl rfl ?_
        refine sq (v_build rfl rfl rfl rfl rfl rfl rfl) (rfl : _ = AV.agg [_, _, _]) rfl rfl rfl ?_
        refine z_s [_, _] ?_
        refine WL.nil ?_
        refine W.ret (fin rfl (.shut (.plain (by first | rfl | simp [plainL, AV.plain])) .nil) ?_)
        rfl
      · rw [decide_eq_false_iff_not] at hc35
        refine W.skip ?_
        refine W.seq (W.region ?_)
        refine sq (v_pure rfl) (show _ = AV.int .i64 (a % 9990) from congrArg (AV.int .i64) (by rw [← e1]; first | rw [if_pos hc14] | rw [if_neg hc14])) rfl rfl rfl ?_
        refine sq (v_i64 rfl rfl rfl rfl (by omega) (by omega)) (show _ = AV.int .i64 (makeY' a) from rfl) rfl rfl rfl ?_
        refine sq (v_pure rfl) (show _ = AV.int .i64 (b % 12) from congrArg (AV.int .i64) (by rw [← e2]; first | rw [if_pos hc22] | rw [if_neg hc22])) rfl rfl rfl ?_
        refine sq (v_i64 rfl rfl rfl rfl (by omega) (by omega)) (show _ = AV.int .i64 (makeM b) from rfl) rfl rfl rfl ?_
        refine sq (v_pure rfl) (show _ = AV.int .i64 (c % n) from congrArg (AV.int .i64) (by rw [← e3]; first | rw [if_pos hc35] | rw [if_neg hc35])) rfl rfl rfl ?_
        refine sq (v_i64 rfl rfl rfl rfl (by omega) (by omega)) (show _ = AV.int .i64 (makeD' a b c) from congrArg (AV.int .i64) (by unfold makeD'; rw [← hnn])) rfl rfl rfl ?_
        refine sq (v_build rfl rfl rfl rfl rfl rfl rfl) (rfl : _ = AV.agg [_, _, _]) rfl rfl rfl ?_
        refine z_s [_, _] ?_
        refine WL.nil ?_
        refine W.ret (fin rfl (.shut (.plain (by first | rfl | simp [plainL, AV.plain])) .nil) ?_)
        rfl
    · rw [decide_eq_false_iff_not] at hc22
      refine W.skip ?_
      refine W.seq (W.region ?_)
      refine sq (v_pure rfl) (show _ = AV.int .i64 (a % 9990) from congrArg (AV.int .i64) (by rw [← e1]; first | rw [if_pos hc14] | rw [if_neg hc14])) rfl rfl rfl ?_
      refine sq (v_i64 rfl rfl rfl rfl (by omega) (by omega)) (show _ = AV.int .i64 (makeY' a) from rfl) rfl rfl rfl ?_
      refine sq (v_pure rfl) (show _ = AV.int .i64 (b % 12) from congrArg (AV.int .i64) (by rw [← e2]; first | rw [if_pos hc22] | rw [if_neg hc22])) rfl rfl rfl ?_
      refine sq (v_i64 rfl rfl rfl rfl (by omega) (by omega)) (show _ = AV.int .i64 (makeM b) from rfl) rfl rfl rfl ?_
      refine z_c (hd) ?_
      refine z_p ?_
      refine WL.nil ?_
      refine W.seq (W.region ?_)
      refine sp (v_indexAddr_arr rfl rfl rfl rfl rfl rfl rfl (by omega) (by omega)) rfl rfl rfl ?_
      first | refine z_l ?_ | refine z_r ?_
      refine z_p ?_
      refine sp (v_bin rfl rfl rfl (rem_any (by omega))) rfl rfl rfl ?_
      refine z_p ?_
      refine WL.nil ?_
      refine W.seq (W.seq (W.region ?_))
      refine z_p ?_
      refine z_p ?_
      refine WL.nil ?_
      refine W.cond rfl (fun hc35 => ?_) (fun hc35 => ?_)
      · rw [decide_eq_true_eq] at hc35
        refine W.region ?_
        refine z_p ?_
        refine z_p ?_
        refine z_i ?_
        refine z_p ?_
        refine WL.nil ?_
        refine W.seq (W.region ?_)
        refine sq (v_pure rfl) (show _ = AV.int .i64 (a % 9990) from congrArg (AV.int .i64) (by rw [← e1]; first | rw [if_pos hc14] | rw [if_neg hc14])) rfl rfl rfl ?_
        refine sq (v_i64 rfl rfl rfl rfl (by omega) (by omega)) (show _ = AV.int .i64 (makeY' a) from rfl) rfl rfl rfl ?_
        refine sq (v_pure rfl) (show _ = AV.int .i64 (b % 12) from congrArg (AV.int .i64) (by rw [← e2]; first | rw [if_pos hc22] | rw [if_neg hc22])) rfl rfl rfl ?_
        refine sq (v_i64 rfl rfl rfl rfl (by omega) (by omega)) (show _ = AV.int .i64 (makeM b) from rfl) rfl rfl rfl ?_
        refine sq (v_pure rfl) (show _ = AV.int .i64 (c % n) from congrArg (AV.int .i64) (by rw [← e3]; first | rw [if_pos hc35] | rw [if_neg hc35])) rfl rfl rfl ?_
        refine sq (v_i64 rfl rfl rfl rfl (by omega) (by omega)) (show _ = AV.int .i64 (makeD' a b c) from congrArg (AV.int .i64) (by unfold makeD'; rw [← hnn])) rfl rfl rfl ?_
        refine sq (v_build rfl rfl rfl rfl rfl rfl rfl) (rfl : _ = AV.agg [_, _, _]) rfl rfl rfl ?_
        refine z_s [_, _] ?_
        refine WL.nil ?_
        refine W.ret (fin rfl (.shut (.plain (by first | rfl | simp [plainL, AV.plain])) .nil) ?_)
        rfl
      · rw [decide_eq_false_iff_not] at hc35
        refine W.skip ?_
        refine W.seq (W.region ?_)
        refine sq (v_pure rfl) (show _ = AV.int .i64 (a % 9990) from congrArg (AV.int .i64) (by rw [← e1]; first | rw [if_pos hc14] | rw [if_neg hc14])) rfl rfl rfl ?_
        refine sq (v_i64 rfl rfl rfl rfl (by omega) (by omega)) (show _ = AV.int .i64 (makeY' a) from rfl) rfl rfl rfl ?_
        refine sq (v_pure rfl) (show _ = AV.int .i64 (b % 12) from congrArg (AV.int .i64) (by rw [← e2]; first | rw [if_pos hc22] | rw [if_neg hc22])) rfl rfl rfl ?_
        refine sq (v_i64 rfl rfl rfl rfl (by omega) (by omega)) (show _ = AV.int .i64 (makeM b) from rfl) rfl rfl rfl ?_
        refine sq (v_pure rfl) (show _ = AV.int .i64 (c % n) from congrArg (AV.int .i64) (by rw [← e3]; first | rw [if_pos hc35] | rw [if_neg hc35])) rfl rfl rfl ?_
        refine sq (v_i64 rfl rfl rfl rfl (by omega) (by omega)) (show _ = AV.int .i64 (makeD' a b c) from congrArg (AV.int .i64) (by unfold makeD'; rw [← hnn])) rfl rfl rfl ?_
        refine sq (v_build rfl rfl rfl rfl rfl rfl rfl) (rfl : _ = AV.agg [_, _, _]) rfl rfl rfl ?_
        refine z_s [_, _] ?_
        refine WL.nil ?_
        refine W.ret (fin rfl (.shut (.plain (by first | rfl | simp [plainL, AV.plain])) .nil) ?_)
        rfl
def u8s (l : List Nat) : List AV := l.map fun (n : Nat) => AV.int .u8 (n : Int)
def u32s (l : List Nat) : List AV := l.map fun (n : Nat) => AV.int .u32 (n : Int)
def rawAV (z : RawE) : AV := .agg [.int .i64 z.a, .int .i64 z.b, .int .i64 z.c, .row (u8s z.dys) z.dys.length, .row (u8s z.acs) z.acs.length, .row (u32s z.ams) z.ams.length]
structure RawOK (z : RawE) : Prop where
  d : ∀ x ∈ z.dys, x < 256
  a : ∀ x ∈ z.acs, x < 256
  m : ∀ x ∈ z.ams, x < 4294967296
  nd : z.dys.length ≤ 9223372036854775807
  na : z.acs.length ≤ 9223372036854775807
  nm : z.ams.length ≤ 9223372036854775807
end Go.Proofs.YtehoobhbginahaaGreatDoor

set_option linter.unusedVariables false
set_option linter.unusedSimpArgs false
namespace Go.Lens
open Go Go.RowKit
/-! ### jumps -/
/-! ### calls -/
end Go.Lens

set_option linter.unusedVariables false
set_option linter.unusedSimpArgs false
namespace Go.Proofs.YtehoobhbginahaaGreatDoor
open Go Go.Lens
theorem u8s_get {l : List Nat} {i : Nat} (h : i < l.length) : (u8s l).drop i = .int .u8 ((l.getD i 0 : Nat) : Int) :: u8s (l.drop (i + 1)) := by
  have h1 : (u8s l).drop i = u8s (l.drop i) := by simp [u8s, List.map_drop]
  rw [h1, List.drop_eq_getElem_cons h, List.getD_eq_getElem?_getD, List.getElem?_eq_getElem h]
  rfl
theorem u32s_get {l : List Nat} {i : Nat} (h : i < l.length) : (u32s l).drop i = .int .u32 ((l.getD i 0 : Nat) : Int) :: u32s (l.drop (i + 1)) := by
  have h1 : (u32s l).drop i = u32s (l.drop i) := by simp [u32s, List.map_drop]
  rw [h1, List.drop_eq_getElem_cons h, List.getD_eq_getElem?_getD, List.getElem?_eq_getElem h]
  rfl
theorem u8s_ne {l : List Nat} (h : 0 < l.length) : u8s l ≠ [] := fun e => by
  have : (u8s l).length = 0 := by rw [e]; rfl
  simp [u8s] at this
  subst this
  simp at h
theorem u32s_ne {l : List Nat} (h : 0 < l.length) : u32s l ≠ [] := fun e => by
  have : (u32s l).length = 0 := by rw [e]; rfl
  simp [u32s] at this
  subst this
  simp at h
theorem getD_lt {l : List Nat} {i B : Nat} (h : i < l.length) (hB : ∀ x ∈ l, x < B) : l.getD i 0 < B :=
  hB _ (by rw [List.getD_eq_getElem?_getD, List.getElem?_eq_getElem h]; exact List.getElem_mem h)
def dtO (x : Dt) : AObj := .cells [.int .i64 x.1, .int .i64 x.2.1, .int .i64 x.2.2] 0 1 false none
def rawO (z : RawE) : AObj := .cells [.int .i64 z.a, .int .i64 z.b, .int .i64 z.c, .row (u8s z.dys) z.dys.length, .row (u8s z.acs) z.acs.length, .row (u32s z.ams) z.ams.length] 0 1 false none
theorem itT_ok {x : Dt} (h : rightT x) (n : Nat) (hn : ordT x + 4 * n < 9999 * 372) : (1 ≤ (itT n x).1 ∧ (itT n x).1 ≤ 9999) ∧ (1 ≤ (itT n x).2.1 ∧ (itT n x).2.1 ≤ 12) ∧ 1 ≤ (itT n x).2.2 ∧ (itT n x).2.2 ≤ 31 := by
  have h1 := (itT_right h n hn).1
  have h2 := rightT_days h1
  exact ⟨h1.1, h1.2.1, h1.2.2.1, by have := h1.2.2.2; omega⟩
/-- what is kept when Make comes to its end -/
def MakeEnd (z : RawE) : Exit → St → Prop := fun e st => e = .ret ∧ Lens.look st.env 2 = some (gV 0 (mkN z)) ∧ st.objs[0]? = some (gO 34 6 (ensAV (mkL z (mkN z))) (mkN z))
theorem make20_W {w0 : World} {H0 : View} {hk : ∀ o, o < 0 → H0.blk o < w0.heap.size} {hj : ∀ x o, x < 0 → o < 0 → H0.blk x = H0.blk o → x = o} (z : RawE) (hz : RawOK z) :
    ∀ c, Tryz.f8.body = some c → W ⟨Tryz.prog, tab, tab_ok, Tryz.f8.ntmps, w0, 0, H0, lnOf [], hk, hj, []⟩ c ⟨envOf 0 [rawAV z], []⟩ (MakeEnd z) := by
  intro c hc
  obtain rfl := Option.some.inj hc
  have hmk := make9990_spec z.a z.b z.c
  refine W.slots 1 (show W _ _ ⟨_, [.slot]⟩ _ from ?_)
  refine W.seq (W.region ?_)
  first | refine z_B 1 [_, _] ?_ | refine sn (a_box rfl rfl (.inr ⟨trivial, rfl⟩)) (rfl : _ = AV.ptr 1 0 0) (rfl : _ = [_, _]) rfl rfl rfl ?_
  refine z_p ?_
  refine WL.nil ?_
  refine W.seq (W.region ?_)
  refine z_p ?_
  refine WL.nil ?_
  refine W.seq (W.region ?_)
  first | refine z_f ?_ | refine z_g ?_
  refine sq (v_load rfl rfl rfl rfl rfl) (show _ = AV.agg [.int .i64 z.a, .int .i64 z.b, .int .i64 z.c] from rfl) rfl rfl rfl ?_
  refine z_c (hmk) ?_
  refine z_a 2 [_, _, _] ?_
  refine z_s [_, _, _] ?_
  refine WL.nil ?_
  refine W.seq (W.seq (W.region ?_))
  refine z_p ?_
  refine WL.nil ?_
  refine W.block ?_
  refine W.while (fun n st => ∃ i, i ≤ mkN z ∧ n = mkN z - i ∧ st = ⟨[(1, .ptr 1 0 0), (3, gV 0 i), (4, .ptr 2 0 0), (5, .int .i64 (i : Nat))], [gO 34 6 (ensAV (mkL z i)) i, rawO z, dtO (mkAt z i)]⟩) (mkN z)
    ⟨0, Nat.zero_le _, rfl, rfl⟩ (by refine ⟨?_, ?_, rfl, Nat.le_of_ble_eq_true rfl⟩ <;> repeat (first | exact trivial | exact rfl | refine ⟨rfl, ?_⟩ | refine ⟨.inr ⟨rfl, ?_⟩, ?_⟩ | refine ⟨.inl rfl, ?_⟩)) ?_
  rintro _ _ ⟨i, hi, rfl, rfl⟩
  have hnd := hz.nd
  have hna := hz.na
  have hnm := hz.nm
  by_cases hil : i < mkN z
  · have hi1 : i < z.dys.length := by unfold mkN at hil; omega
    have hi2 : i < 30 := by unfold mkN at hil; omega
    have hdv := getD_lt hi1 hz.d
    have hord := mkAt_right z i (by omega)
    have hlt4 : z.dys.getD i 0 % 4 < 4 := Nat.mod_lt _ (by omega)
    refine W.seq (W.seq (W.region ?_))
    refine z_p ?_
    first | refine z_f ?_ | refine z_g ?_
    first | refine z_l ?_ | refine z_r ?_
    first | refine z_n ?_ | refine z_m ?_ | refine z_k ?_
    refine z_T (show ((i : Nat) : Int) < (z.dys.length : Nat) by omega) ?_
    refine z_p ?_
    refine z_p ?_
    refine z_T (show ((i : Nat) : Int) < 30 by omega) ?_
    refine z_p ?_
    refine WL.nil ?_
    refine W.cond_true rfl (W.skip ?_)
    refine W.seq (W.block ?_)
    refine W.seq (W.seq (W.region ?_))
    refine z_p ?_
    refine WL.nil ?_
    refine W.block ?_
    refine W.while (fun n st => ∃ k, k ≤ z.dys.getD i 0 % 4 ∧ n = z.dys.getD i 0 % 4 - k ∧ st = ⟨[(1, .ptr 1 0 0), (3, gV 0 i), (4, .ptr 2 0 0), (5, .int .i64 (i : Nat)), (6, .int .i64 (k : Nat))], [gO 34 6 (ensAV (mkL z i)) i, rawO z, dtO (itT k (mkAt z i))]⟩) (z.dys.getD i 0 % 4)
      ⟨0, Nat.zero_le _, rfl, rfl⟩ (by cases i <;> exact (by refine ⟨?_, ?_, rfl, Nat.le_of_ble_eq_true rfl⟩ <;> repeat (first | exact trivial | exact rfl | refine ⟨rfl, ?_⟩ | refine ⟨.inr ⟨rfl, ?_⟩, ?_⟩ | refine ⟨.inl rfl, ?_⟩))) ?_
    rintro _ _ ⟨k, hk1, rfl, rfl⟩
    by_cases hkl : k < z.dys.getD i 0 % 4
    · obtain ⟨o1, o2, o3, o4⟩ := itT_ok hord.1 k (by omega)
      obtain ⟨b, hnx⟩ := rNext_spec (itT k (mkAt z i)) o1 o2 ⟨o3, o4⟩
      refine W.seq (W.seq (W.region ?_))
      refine z_p ?_
      first | refine z_f ?_ | refine z_g ?_
      first | refine z_l ?_ | refine z_r ?_
      refine z_p ?_
      refine sq (v_indexAddr_row rfl rfl rfl rfl rfl rfl (by omega) (by omega) (u8s_ne (by omega))) (show _ = AV.radr (.int .u8 ((z.dys.getD i 0 : Nat) : Int) :: u8s (z.dys.drop (i + 1))) from congrArg AV.radr (by rw [show (((i : Nat) : Int)).toNat * 1 = i by omega]; exact u8s_get hi1)) rfl rfl rfl ?_
      first | refine z_l ?_ | refine z_r ?_
      refine sq (v_cvt rfl rfl rfl rfl rfl (by first | rfl | (rw [IntKind.wrap_i64]; omega) | (rw [IntKind.wrap_u64]; omega) | (rw [IntKind.wrap_u8]; omega) | (rw [IntKind.wrap_i32]; omega))) (show _ = AV.int .i64 ((z.dys.getD i 0 : Nat) : Int) from rfl) rfl rfl rfl ?_
      refine sq (v_bin rfl rfl rfl (rem_nn (by omega) (by omega))) (show _ = AV.int .i64 ((z.dys.getD i 0 % 4 : Nat) : Int) from rfl) rfl rfl rfl ?_
      refine z_T (show ((k : Nat) : Int) < ((z.dys.getD i 0 % 4 : Nat) : Int) by omega) ?_
      refine WL.nil ?_
      refine W.cond_true rfl (W.skip ?_)
      refine W.seq (W.block ?_)
      refine W.region ?_
      first | refine z_l3 ?_ | refine z_r3 ?_
      refine z_c (hnx) ?_
      refine z_p ?_
      refine z_p ?_
      refine z_p ?_
      refine z_s [_, _, _] ?_
      refine WL.nil ?_
      refine W.region ?_
      refine z_p ?_
      refine sq (v_i64 rfl rfl rfl rfl (by omega) (by omega)) (show _ = AV.int .i64 ((k + 1 : Nat) : Int) from rfl) rfl rfl rfl ?_
      refine z_p ?_
      refine WL.nil ?_
      exact ⟨z.dys.getD i 0 % 4 - (k + 1), _, _, by omega, ⟨k + 1, by omega, rfl, rfl⟩, (by cases i <;> exact (by refine ⟨?_, ?_, rfl, Nat.le_of_ble_eq_true rfl⟩ <;> repeat (first | exact trivial | exact rfl | refine ⟨rfl, ?_⟩ | refine ⟨.inr ⟨rfl, ?_⟩, ?_⟩ | refine ⟨.inl rfl, ?_⟩)))⟩
    · have hke : k = z.dys.getD i 0 % 4 := by omega
      subst hke
      have hat : itT (z.dys.getD i 0 % 4) (mkAt z i) = mkAt z (i + 1) := rfl
      rw [hat]
      refine W.seq (W.seq (W.region ?_))
      refine z_p ?_
      first | refine z_f ?_ | refine z_g ?_
      first | refine z_l ?_ | refine z_r ?_
      refine z_p ?_
      refine sq (v_indexAddr_row rfl rfl rfl rfl rfl rfl (by omega) (by omega) (u8s_ne (by omega))) (show _ = AV.radr (.int .u8 ((z.dys.getD i 0 : Nat) : Int) :: u8s (z.dys.drop (i + 1))) from congrArg AV.radr (by rw [show (((i : Nat) : Int)).toNat * 1 = i by omega]; exact u8s_get hi1)) rfl rfl rfl ?_
      first | refine z_l ?_ | refine z_r ?_
      refine sq (v_cvt rfl rfl rfl rfl rfl (by first | rfl | (rw [IntKind.wrap_i64]; omega) | (rw [IntKind.wrap_u64]; omega) | (rw [IntKind.wrap_u8]; omega) | (rw [IntKind.wrap_i32]; omega))) (show _ = AV.int .i64 ((z.dys.getD i 0 : Nat) : Int) from rfl) rfl rfl rfl ?_
      refine sq (v_bin rfl rfl rfl (rem_nn (by omega) (by omega))) (show _ = AV.int .i64 ((z.dys.getD i 0 % 4 : Nat) : Int) from rfl) rfl rfl rfl ?_
      refine z_F (show ¬ ((z.dys.getD i 0 % 4 : Nat) : Int) < ((z.dys.getD i 0 % 4 : Nat) : Int) by omega) ?_
      refine WL.nil ?_
      refine W.cond_false rfl (W.exit ?_)
      have hmA : mkA z i ≤ 300 := by
        unfold mkA
        split
        · rename_i h; have := getD_lt h hz.a; omega
        · omega
      have hmM : mkM z i ≤ 4294967296 := by
        unfold mkM
        split
        · rename_i h; have := getD_lt h hz.m; omega
        · omega
      refine W.seq (W.region ?_)
      refine z_p ?_
      refine z_p ?_
      refine WL.nil ?_
      refine W.seq (W.cut [(1, .ptr 1 0 0), (3, gV 0 i), (4, .ptr 2 0 0), (5, .int .i64 (i : Nat)), (7, .int .i64 (mkA z i : Nat))] [gO 34 6 (ensAV (mkL z i)) i, rawO z, dtO (mkAt z (i + 1))] ?_ ?_)
      · by_cases hia : i < z.acs.length
        · have hav := getD_lt hia hz.a
          refine W.seq (W.region ?_)
          refine z_p ?_
          first | refine z_f ?_ | refine z_g ?_
          first | refine z_l ?_ | refine z_r ?_
          first | refine z_n ?_ | refine z_m ?_ | refine z_k ?_
          refine z_T (show ((i : Nat) : Int) < (z.acs.length : Nat) by omega) ?_
          refine WL.nil ?_
          refine W.cond_true rfl ?_
          refine W.region ?_
          first | refine z_f ?_ | refine z_g ?_
          first | refine z_l ?_ | refine z_r ?_
          refine z_p ?_
          refine sq (v_indexAddr_row rfl rfl rfl rfl rfl rfl (by omega) (by omega) (u8s_ne (by omega))) (show _ = AV.radr (.int .u8 ((z.acs.getD i 0 : Nat) : Int) :: u8s (z.acs.drop (i + 1))) from congrArg AV.radr (by rw [show (((i : Nat) : Int)).toNat * 1 = i by omega]; exact u8s_get hia)) rfl rfl rfl ?_
          first | refine z_l ?_ | refine z_r ?_
          refine sq (v_cvt rfl rfl rfl rfl rfl (by first | rfl | (rw [IntKind.wrap_i64]; omega) | (rw [IntKind.wrap_u64]; omega) | (rw [IntKind.wrap_u8]; omega) | (rw [IntKind.wrap_i32]; omega))) (show _ = AV.int .i64 ((mkA z i : Nat) : Int) from (by rw [mkA, if_pos hia])) rfl rfl rfl ?_
          refine z_p ?_
          refine WL.nil ?_
          exact ⟨rfl, by cases i <;> exact (by refine ⟨?_, ?_, rfl, Nat.le_of_ble_eq_true rfl⟩ <;> repeat (first | exact trivial | exact rfl | refine ⟨rfl, ?_⟩ | refine ⟨.inr ⟨rfl, ?_⟩, ?_⟩ | refine ⟨.inl rfl, ?_⟩))⟩
        · have hmi : mkA z i = i := by rw [mkA, if_neg hia]
          rw [hmi]
          refine W.seq (W.region ?_)
          refine z_p ?_
          first | refine z_f ?_ | refine z_g ?_
          first | refine z_l ?_ | refine z_r ?_
          first | refine z_n ?_ | refine z_m ?_ | refine z_k ?_
          refine z_F (show ¬ ((i : Nat) : Int) < (z.acs.length : Nat) by omega) ?_
          refine WL.nil ?_
          refine W.cond_false rfl (W.skip ?_)
          exact ⟨rfl, by cases i <;> exact (by refine ⟨?_, ?_, rfl, Nat.le_of_ble_eq_true rfl⟩ <;> repeat (first | exact trivial | exact rfl | refine ⟨rfl, ?_⟩ | refine ⟨.inr ⟨rfl, ?_⟩, ?_⟩ | refine ⟨.inl rfl, ?_⟩))⟩
      refine W.seq (W.region ?_)
      refine z_p ?_
      refine sq (v_i64 rfl rfl rfl rfl (by omega) (by omega)) (show _ = AV.int .i64 ((i + 1 : Nat) : Int) from rfl) rfl rfl rfl ?_
      refine z_p ?_
      refine WL.nil ?_
      refine W.seq (W.cut [(1, .ptr 1 0 0), (3, gV 0 i), (4, .ptr 2 0 0), (5, .int .i64 (i : Nat)), (7, .int .i64 (mkA z i : Nat)), (8, .int .i64 (mkM z i : Nat))] [gO 34 6 (ensAV (mkL z i)) i, rawO z, dtO (mkAt z (i + 1))] ?_ ?_)
      · by_cases him : i < z.ams.length
        · have hmv := getD_lt him hz.m
          refine W.seq (W.region ?_)
          refine z_p ?_
          first | refine z_f ?_ | refine z_g ?_
          first | refine z_l ?_ | refine z_r ?_
          first | refine z_n ?_ | refine z_m ?_ | refine z_k ?_
          refine z_T (show ((i : Nat) : Int) < (z.ams.length : Nat) by omega) ?_
          refine WL.nil ?_
          refine W.cond_true rfl ?_
          refine W.region ?_
          first | refine z_f ?_ | refine z_g ?_
          first | refine z_l ?_ | refine z_r ?_
          refine z_p ?_
          refine sq (v_indexAddr_row rfl rfl rfl rfl rfl rfl (by omega) (by omega) (u32s_ne (by omega))) (show _ = AV.radr (.int .u32 ((z.ams.getD i 0 : Nat) : Int) :: u32s (z.ams.drop (i + 1))) from congrArg AV.radr (by rw [show (((i : Nat) : Int)).toNat * 1 = i by omega]; exact u32s_get him)) rfl rfl rfl ?_
          first | refine z_l ?_ | refine z_r ?_
          refine sq (v_cvt rfl rfl rfl rfl rfl (by first | rfl | (rw [IntKind.wrap_i64]; omega) | (rw [IntKind.wrap_u64]; omega) | (rw [IntKind.wrap_u8]; omega) | (rw [IntKind.wrap_i32]; omega))) (show _ = AV.int .i64 ((z.ams.getD i 0 : Nat) : Int) from rfl) rfl rfl rfl ?_
          refine sq (v_i64 rfl rfl rfl rfl (by omega) (by omega)) (show _ = AV.int .i64 ((mkM z i : Nat) : Int) from (by rw [mkM, if_pos him]; exact congrArg (AV.int .i64) (by omega))) rfl rfl rfl ?_
          refine z_p ?_
          refine WL.nil ?_
          exact ⟨rfl, by cases i <;> exact (by refine ⟨?_, ?_, rfl, Nat.le_of_ble_eq_true rfl⟩ <;> repeat (first | exact trivial | exact rfl | refine ⟨rfl, ?_⟩ | refine ⟨.inr ⟨rfl, ?_⟩, ?_⟩ | refine ⟨.inl rfl, ?_⟩))⟩
        · have hmi : mkM z i = i + 1 := by rw [mkM, if_neg him]
          rw [hmi]
          refine W.seq (W.region ?_)
          refine z_p ?_
          first | refine z_f ?_ | refine z_g ?_
          first | refine z_l ?_ | refine z_r ?_
          first | refine z_n ?_ | refine z_m ?_ | refine z_k ?_
          refine z_F (show ¬ ((i : Nat) : Int) < (z.ams.length : Nat) by omega) ?_
          refine WL.nil ?_
          refine W.cond_false rfl (W.skip ?_)
          exact ⟨rfl, by cases i <;> exact (by refine ⟨?_, ?_, rfl, Nat.le_of_ble_eq_true rfl⟩ <;> repeat (first | exact trivial | exact rfl | refine ⟨rfl, ?_⟩ | refine ⟨.inr ⟨rfl, ?_⟩, ?_⟩ | refine ⟨.inl rfl, ?_⟩))⟩
      have hfr := rFrom_spec ((mkM z i : Nat) : Int) (by omega) (by omega)
      have hlm : RLim ((mkM z i : Nat) : Int).natAbs := RLim.of_lt (k := 100) (show mkM z i < DB ^ 100 by refine Nat.lt_of_le_of_lt hmM ?_; decide) (by decide)
      have hpr := rwPrint ((mkM z i : Nat) : Int) hlm (Lim.small (N := 1) (by
        show mkM z i ≤ 1 * bigA
        rw [Nat.one_mul]
        refine Nat.le_trans hmM ?_
        exact Nat.le_trans (show 4294967296 ≤ 10 ^ 10 by decide) (Nat.pow_le_pow_right (by decide) (by decide))) (by decide))
      rw [show wText ((mkM z i : Nat) : Int) = decText (mkM z i) by rw [wText, if_neg (by omega)]; rfl] at hpr
      have hene : (mkEn z i).cells = [.int .i64 (mkAt z (i + 1)).1, .int .i64 (mkAt z (i + 1)).2.1, .int .i64 (mkAt z (i + 1)).2.2, .int .i64 ((mkA z i % 5 : Nat) : Int), .int .i64 (((mkA z i % 5 + 1 + mkA z i / 5 % 4) % 5 : Nat) : Int), .str (decText (mkM z i))] := rfl
      have happ : ensAV (mkL z i) ++ (mkEn z i).cells = ensAV (mkL z (i + 1)) := by rw [mkL_succ, ensAV_snoc]
      have hlen := ensAV_length (mkL z i)
      rw [mkL_length] at hlen
      refine W.seq (W.region ?_)
      refine z_p ?_
      refine z_c (hfr) ?_
      refine z_a 3 [_, _, _, _] ?_
      refine z_s [_, _, _, _] ?_
      refine WL.nil ?_
      refine W.seq (W.region ?_)
      first | refine z_l2 ?_ | refine z_r2 ?_
      refine z_c (hpr) ?_
      refine z_p ?_
      refine WL.nil ?_
      refine W.region ?_
      refine z_p ?_
      first | refine z_l3 ?_ | refine z_r3 ?_
      refine z_p ?_
      refine sq (v_bin rfl rfl rfl (rem_nn (by omega) (by omega))) (show _ = AV.int .i64 ((mkA z i % 5 : Nat) : Int) from rfl) rfl rfl rfl ?_
      refine z_p ?_
      refine sq (v_bin rfl rfl rfl (rem_nn (by omega) (by omega))) (show _ = AV.int .i64 ((mkA z i % 5 : Nat) : Int) from rfl) rfl rfl rfl ?_
      refine z_i ?_
      refine z_p ?_
      refine sq (v_bin rfl rfl rfl (quo_i64 (by omega) (by omega) (by omega))) (show _ = AV.int .i64 ((mkA z i / 5 : Nat) : Int) from rfl) rfl rfl rfl ?_
      refine sq (v_bin rfl rfl rfl (rem_nn (by omega) (by omega))) (show _ = AV.int .i64 ((mkA z i / 5 % 4 : Nat) : Int) from rfl) rfl rfl rfl ?_
      refine z_i ?_
      refine sq (v_bin rfl rfl rfl (rem_nn (by omega) (by omega))) (show _ = AV.int .i64 (((mkA z i % 5 + 1 + mkA z i / 5 % 4) % 5 : Nat) : Int) from congrArg (AV.int .i64) (by omega)) rfl rfl rfl ?_
      refine z_p ?_
      refine sq (v_build rfl rfl rfl rfl rfl rfl rfl) (rfl : _ = AV.agg [_, _, _, _, _, _]) rfl rfl rfl ?_
      refine sq (v_buildRow rfl rfl rfl rfl rfl rfl rfl (Nat.le_of_ble_eq_true rfl) (Nat.le_of_ble_eq_true rfl) rfl rfl rfl rfl) (rfl : _ = AV.row [_, _, _, _, _, _] 1) rfl rfl rfl ?_
      refine sn (v_gr (n := i) (ds := (mkEn z i).cells) 0 rfl rfl rfl rfl hlen rfl rfl rfl rfl rfl rfl rfl rfl (by decide) rfl (by show (i + 1) * 56 ≤ _; omega) (by omega)) (rfl : _ = gV 0 (i + 1)) (show _ = [gO 34 6 (ensAV (mkL z (i + 1))) (i + 1), rawO z, dtO (mkAt z (i + 1)), _] by rw [happ]; rfl) rfl rfl rfl ?_
      refine z_p ?_
      refine WL.nil ?_
      refine W.region ?_
      refine z_p ?_
      refine sq (v_i64 rfl rfl rfl rfl (by omega) (by omega)) (show _ = AV.int .i64 ((i + 1 : Nat) : Int) from rfl) rfl rfl rfl ?_
      refine z_p ?_
      refine WL.nil ?_
      exact ⟨mkN z - (i + 1), _, _, by omega, ⟨i + 1, by omega, rfl, rfl⟩, (by cases i <;> exact (by refine ⟨?_, ?_, rfl, Nat.le_of_ble_eq_true rfl⟩ <;> repeat (first | exact trivial | exact rfl | refine ⟨rfl, ?_⟩ | refine ⟨.inr ⟨rfl, ?_⟩, ?_⟩ | refine ⟨.inl rfl, ?_⟩)))⟩
  · have hie : i = mkN z := by omega
    subst hie
    by_cases hnd' : z.dys.length ≤ 30
    · have hmn : mkN z = z.dys.length := by unfold mkN; omega
      refine W.seq (W.seq (W.region ?_))
      refine z_p ?_
      first | refine z_f ?_ | refine z_g ?_
      first | refine z_l ?_ | refine z_r ?_
      first | refine z_n ?_ | refine z_m ?_ | refine z_k ?_
      refine z_F (show ¬ ((mkN z : Nat) : Int) < (z.dys.length : Nat) by omega) ?_
      refine z_p ?_
      refine z_o ?_
      refine z_o ?_
      refine z_p ?_
      refine WL.nil ?_
      refine W.cond_false rfl (W.exit ?_)
      refine W.seq (W.region ?_)
      refine z_p ?_
      refine z_p ?_
      refine WL.nil ?_
      exact W.ret ⟨rfl, rfl, rfl⟩
    · have hmn : mkN z = 30 := by unfold mkN; omega
      refine W.seq (W.seq (W.region ?_))
      refine z_p ?_
      first | refine z_f ?_ | refine z_g ?_
      first | refine z_l ?_ | refine z_r ?_
      first | refine z_n ?_ | refine z_m ?_ | refine z_k ?_
      refine z_T (show ((mkN z : Nat) : Int) < (z.dys.length : Nat) by omega) ?_
      refine z_p ?_
      refine z_p ?_
      refine z_F (show ¬ ((mkN z : Nat) : Int) < 30 by omega) ?_
      refine z_p ?_
      refine WL.nil ?_
      refine W.cond_false rfl (W.exit ?_)
      refine W.seq (W.region ?_)
      refine z_p ?_
      refine z_p ?_
      refine WL.nil ?_
      exact W.ret ⟨rfl, rfl, rfl⟩
/-- what Make hands back, to be read only -/
def mkR (z : RawE) : AV := match mkN z with | 0 => .nils | n + 1 => .row (ensAV (mkL z (n + 1))) (n + 1)
theorem mkR_sub (z : RawE) : Sub (mkR z) (.row (ensAV (mkL z (mkN z))) (mkN z)) := by
  unfold mkR
  cases mkN z with
  | zero => exact Sub.nils
  | succ n => exact Sub.refl _
theorem mkR_plain (z : RawE) : (mkR z).plain = true := by
  unfold mkR
  cases mkN z <;> rfl
theorem make20_spec (z : RawE) (hz : RawOK z) : Does Tryz.prog 8 [rawAV z] (mkR z) := by
  refine does tab_ok Tryz.func8 rfl rfl rfl rfl rfl fun w0 H0 hk hj => (make20_W z hz _ rfl).mono fun e st h => ?_
  obtain ⟨he, h1, h2⟩ := h
  obtain ⟨env, objs⟩ := st
  subst he
  have hlen := ensAV_length (mkL z (mkN z))
  rw [mkL_length] at hlen
  have hr : resAV tab ⟨env, objs⟩ [.tmp 2] = some [gV 0 (mkN z)] := by simp only [resAV]; simp only at h1; rw [h1]
  unfold mkR
  cases hn : mkN z with
  | zero => rw [hn] at hr; exact fin hr (.shut (.plain rfl) .nil) rfl
  | succ n =>
    rw [hn] at hr h2 hlen
    refine fin hr (.shut (.sl h2 (by rw [hlen]; omega) (by simp)) .nil) ?_
    show AV.row (((ensAV (mkL z (n + 1))).drop 0).take ((n + 1) * 6)) (n + 1) = _
    rw [List.drop_zero, List.take_of_length_le (by rw [hlen]; exact Nat.le_refl _)]
end Go.Proofs.YtehoobhbginahaaGreatDoor

set_option linter.unusedVariables false
set_option linter.unusedSimpArgs false
namespace Go.Lens
open Go Go.RowKit
/-- the types that may be compared field by field -/
def okEq (P : Program) (l : List TypeId) : Bool := l.all fun t => !P.stoodInHeld t && (P.fieldsOf t).toList.all (fun f => f.name != "_") && !P.eqGuardType P.depth t
def eqFs (T : Tab) (rec : TypeId → AV → AV → Option Bool) : List (Nat × TypeId) → List AV → List AV → Option Bool
  | [], _, _ => some true
  | (off, ft) :: r, xs, ys => match T.at ft with
    | none => none
    | some yt => match loadc yt xs off, loadc yt ys off with
      | some a, some b => match rec ft a b, eqFs T rec r xs ys with
        | some p, some q => some (p && q)
        | _, _ => none
      | _, _ => none
def eqT (T : Tab) (ok : List TypeId) : Nat → TypeId → AV → AV → Option Bool
  | 0, _, _, _ => none
  | d + 1, t, c, c' => match T.at t with
    | none => none
    | some y => match y.k with
      | .int _ => match c, c' with | .int k a, .int k' b => if k = k' then some (a == b) else none | _, _ => none
      | .string => match c, c' with | .str a, .str b => some (a == b) | _, _ => none
      | .bool => match c, c' with | .bool a, .bool b => some (a == b) | _, _ => none
      | .struct fs => match c, c' with | .agg xs, .agg ys => if ok.contains t then eqFs T (eqT T ok d) fs xs ys else none | _, _ => none
      | _ => none
theorem run_part {C : Ctx} {t : TypeId} {y : Ty} {cs : List AV} {off : Nat} {av : AV} (hy : C.T.at t = some y) (hl : loadc y cs off = some av) {w : World} {H : View} {vs : List Value} (hr : RelL w cs H vs) :
    ∃ v, (part t vs.toArray off).run C.P w = .ok v w ∧ RelV w av H v := by
  unfold loadc at hl
  cases hag : y.k.agg with
  | true =>
    simp only [hag, if_true] at hl
    split at hl
    · rename_i hle
      injection hl with hl; subst hl
      refine ⟨.agg ((vs.drop off).take y.size).toArray, ?_, _, rfl, (hr.drop _).take _⟩
      simp only [part, run_isAgg hy, hag, run_sizeOf hy, Sem.run_bind, Result.andThen_ok, Sem.run_pure, if_true]
      rw [extract_toArray]
    · cases hl
  | false =>
    simp only [hag, Bool.false_eq_true, if_false] at hl
    obtain ⟨v, hv, hrv⟩ := hr.get _ av hl
    refine ⟨v, ?_, hrv⟩
    simp [part, run_isAgg hy, hag, hv]
theorem run_eq {C : Ctx} {ok : List TypeId} (hok : okEq C.P ok = true) : ∀ (d : Nat),
    (∀ (t : TypeId) (c c' : AV) (b : Bool), eqT C.T ok d t c c' = some b → ∀ (w : World) (H : View) (v v' : Value), RelV w c H v → RelV w c' H v' → ∀ D, d ≤ D → (Op.equalIn D t v v').run C.P w = .ok b w) ∧
    (∀ (fs : List (Nat × TypeId)) (xs ys : List AV) (b : Bool), eqFs C.T (eqT C.T ok d) fs xs ys = some b → ∀ (w : World) (H : View) (vs us : List Value), RelL w xs H vs → RelL w ys H us → ∀ (D : Nat) (fl : List Field), d ≤ D → fl.map (fun f => (f.offset, f.type)) = fs → (∀ f ∈ fl, f.name ≠ "_") → (Op.eqFields D vs.toArray us.toArray fl).run C.P w = .ok b w) := by
  intro d
  have hfs : ∀ (d : Nat), (∀ (t : TypeId) (c c' : AV) (b : Bool), eqT C.T ok d t c c' = some b → ∀ (w : World) (H : View) (v v' : Value), RelV w c H v → RelV w c' H v' → ∀ D, d ≤ D → (Op.equalIn D t v v').run C.P w = .ok b w) →
      ∀ (fs : List (Nat × TypeId)) (xs ys : List AV) (b : Bool), eqFs C.T (eqT C.T ok d) fs xs ys = some b → ∀ (w : World) (H : View) (vs us : List Value), RelL w xs H vs → RelL w ys H us → ∀ (D : Nat) (fl : List Field), d ≤ D → fl.map (fun f => (f.offset, f.type)) = fs → (∀ f ∈ fl, f.name ≠ "_") → (Op.eqFields D vs.toArray us.toArray fl).run C.P w = .ok b w := by
    intro d hT fs
    induction fs with
    | nil =>
      intro xs ys b hb w H vs us h1 h2 D fl hD hfl hn
      simp only [eqFs, Option.some.injEq] at hb
      subst hb
      rw [List.map_eq_nil_iff] at hfl
      subst hfl
      simp [Op.eqFields]
    | cons p r ih =>
      intro xs ys b hb w H vs us h1 h2 D fl hD hfl hn
      obtain ⟨off, ft⟩ := p
      cases fl with
      | nil => cases hfl
      | cons f fl =>
        simp only [List.map_cons, List.cons.injEq, Prod.mk.injEq] at hfl
        obtain ⟨⟨rfl, rfl⟩, hfl⟩ := hfl
        simp only [eqFs] at hb
        split at hb
        · cases hb
        rename_i yt hyt
        split at hb
        · rename_i a a' ha ha'
          split at hb
          · rename_i p q hp hq
            injection hb with hb
            obtain ⟨v, g1, g2⟩ := run_part hyt ha h1
            obtain ⟨v', g1', g2'⟩ := run_part hyt ha' h2
            have g3 := hT f.type a a' p hp w H v v' g2 g2' D hD
            have g4 := ih xs ys q hq w H vs us h1 h2 D fl hD hfl (fun f hf => hn f (.tail _ hf))
            simp only [Op.eqFields, if_pos (hn f (.head _)), Sem.run_bind, g1, g1', g3, Result.andThen_ok]
            cases p with
            | true => simp only [Bool.not_true, Bool.false_eq_true, if_false]; rw [g4, ← hb]; rfl
            | false => simp only [Bool.not_false, if_true, Sem.run_pure]; rw [← hb]; rfl
          · cases hb
        · cases hb
  induction d with
  | zero => exact ⟨fun t c c' b hb => by simp [eqT] at hb, hfs 0 fun t c c' b hb => by simp [eqT] at hb⟩
  | succ d ih =>
    have key : ∀ (t : TypeId) (c c' : AV) (b : Bool), eqT C.T ok (d + 1) t c c' = some b → ∀ (w : World) (H : View) (v v' : Value), RelV w c H v → RelV w c' H v' → ∀ D, d + 1 ≤ D → (Op.equalIn D t v v').run C.P w = .ok b w := by
      intro t c c' b hb w H v v' h1 h2 D hD
      obtain ⟨D, rfl⟩ : ∃ D', D = D' + 1 := ⟨D - 1, by omega⟩
      simp only [eqT] at hb
      split at hb
      · cases hb
      rename_i y hy
      obtain ⟨dd, inf, hdd, _, hkd, _⟩ := C.ty hy
      split at hb
      · rename_i k hk
        rw [hk] at hkd
        split at hb
        · rename_i k1 a k2 a'
          split at hb
          · rename_i he
            injection hb with hb; subst hb; subst he
            simp only [RelV] at h1 h2
            subst h1; subst h2
            exact run_equalIn_int w D t k1 k a a' (by rw [hdd]; cases dd <;> simp [kOf] at hkd; subst hkd; rfl)
          · cases hb
        · cases hb
      · rename_i hk
        rw [hk] at hkd
        split at hb
        · rename_i a a'
          injection hb with hb; subst hb
          simp only [RelV] at h1 h2
          subst h1; subst h2
          rw [run_equalIn_string w D t _ _ (by rw [hdd, kOf_string hkd]), toList_mk, toList_mk]
        · cases hb
      · rename_i hk
        rw [hk] at hkd
        split at hb
        · rename_i a a'
          injection hb with hb; subst hb
          simp only [RelV] at h1 h2
          subst h1; subst h2
          exact run_equalIn_bool' w D t _ _ (by rw [hdd, kOf_bool hkd])
        · cases hb
      · rename_i fs hk
        rw [hk] at hkd
        split at hb
        · rename_i xs ys
          split at hb
          · rename_i hin
            obtain ⟨vs, rfl, g1⟩ := h1
            obtain ⟨us, rfl, g2⟩ := h2
            have hck : (!C.P.stoodInHeld t && (C.P.fieldsOf t).toList.all (fun f => f.name != "_") && !C.P.eqGuardType C.P.depth t) = true := by
              rw [okEq, List.all_eq_true] at hok
              exact hok t (by simpa [List.contains_eq_mem] using hin)
            simp only [Bool.and_eq_true, Bool.not_eq_true', List.all_eq_true, bne_iff_ne] at hck
            obtain ⟨⟨q1, q2⟩, q3⟩ := hck
            obtain ⟨fl, rfl⟩ : ∃ fl, dd = .struct fl := by cases dd <;> simp [kOf] at hkd; exact ⟨_, rfl⟩
            have hfl : C.P.fieldsOf t = fl := by simp only [Program.fieldsOf, hdd]
            rw [run_equalIn_struct w D t _ _ (by rw [hfl, hdd]) q1]
            simp only [kOf, TyK.struct.injEq] at hkd
            exact ih.2 fs xs ys b hb w H vs us g1 g2 D _ (by omega) (by rw [hfl]; exact hkd.symm) (fun f hf => q2 f hf)
          · cases hb
        · cases hb
      · cases hb
    exact ⟨key, hfs (d + 1) key⟩
theorem v_neq_struct {C : Ctx} {o : Oper} {st : St} {t t' : TypeId} {x x' : Operand} {xs ys : List AV} {b : Bool} {ok : List TypeId} (d : Nat) (hok : okEq C.P ok = true) (hd : Nat.ble d 10000 = true) (hop : o.op = .binOp .neq t x x' t') (hx : ev st x = some (.agg xs)) (hx' : ev st x' = some (.agg ys))
    (he : eqT C.T ok d t (.agg xs) (.agg ys) = some b) : VStep C o st (.bool (!b)) st.objs := by
  refine VStep.of_pure fun H a w hi => ?_
  have h1 := ev_rel hi hx
  have h2 := ev_rel hi hx'
  have hrun := (run_eq hok d).1 t _ _ b he w H _ _ h1 h2 10000 (Nat.le_of_ble_eq_true hd)
  obtain ⟨vs, e1, _⟩ := h1
  obtain ⟨us, e2, _⟩ := h2
  have hin : ok.contains t = true := by
    cases d with
    | zero => simp [eqT] at he
    | succ d =>
      simp only [eqT] at he
      split at he
      · cases he
      · split at he <;> first | (cases he; done) | skip
        split at he
        · rename_i h; exact h
        · cases he
  have hck : (!C.P.stoodInHeld t && (C.P.fieldsOf t).toList.all (fun f => f.name != "_") && !C.P.eqGuardType C.P.depth t) = true := by
    rw [okEq, List.all_eq_true] at hok
    exact hok t (by simpa [List.contains_eq_mem] using hin)
  simp only [Bool.and_eq_true, Bool.not_eq_true'] at hck
  refine ⟨.bool (!b), ?_, rfl⟩
  rw [e1, e2] at hrun
  simp only [execOp, hop, e1, e2, Sem.run_bind, eqGuard, Bool.not_false, Bool.not_true, Bool.false_eq_true, if_false, run_program, Result.andThen_ok, hck.2, if_true, Sem.run_pure, binOp, Op.equal]
  rw [show Op.maxDepth = 10000 from rfl, hrun]
  rfl
end Go.Lens
