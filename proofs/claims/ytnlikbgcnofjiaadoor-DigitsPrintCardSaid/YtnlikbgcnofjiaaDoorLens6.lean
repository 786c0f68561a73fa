/- Lens, part 6: code. -/
import Derived.Test.YtnlikbgcnofjiaaDoorLens5
import Derived.Scope
set_option linter.unusedVariables false
set_option linter.unusedSimpArgs false
namespace Go.Lens
open Go Go.RowKit

/-- what stands behind a piece of code -/
def Post (C : Ctx) (Q : Exit → St → Prop) : Exit → Act → World → Prop := fun e a w => ∃ st, Q e st ∧ Rel C st a w

/-- from every frame and world that the state tells, the code comes to an exit and a state of which Q holds -/
def W (C : Ctx) (c : Code) (st : St) (Q : Exit → St → Prop) : Prop := ∀ a w, Rel C st a w → c.wp C.P (Post C Q) a w

theorem W.mono {C : Ctx} {c : Code} {st : St} {Q Q' : Exit → St → Prop} (h : W C c st Q) (hq : ∀ e st, Q e st → Q' e st) : W C c st Q' :=
  fun a w hr => wp_mono (h a w hr) fun e a' w' ⟨st', h1, h2⟩ => ⟨st', hq _ _ h1, h2⟩

/-- less is known: of the frame these slots, of the store the first objects -/
def EnvLe : List (Nat × AV) → List (Nat × AV) → Prop
  | [], _ => True
  | (t, v) :: r, env => look env t = some v ∧ EnvLe r env
theorem EnvLe.look {env0 env : List (Nat × AV)} (h : EnvLe env0 env) {t : Nat} {v : AV} (ht : look env0 t = some v) : Lens.look env t = some v := by
  induction env0 with
  | nil => cases ht
  | cons p r ih =>
    obtain ⟨k, u⟩ := p
    simp only [Lens.look] at ht
    split at ht
    · rename_i hk
      have : k = t := by simpa using hk
      subst this
      injection ht with ht; subst ht
      exact h.1
    · exact ih h.2 ht

mutual
def AV.inside (k : Nat) : AV → Bool
  | .ptr o _ _ => decide (o < k)
  | .sl o _ _ _ _ => decide (o < k)
  | .mp o _ => decide (o < k)
  | .agg cs => scopedL k cs
  | .tup cs => scopedL k cs
  | .func _ x y => scopedL k x && scopedL k y
  | _ => true
def scopedL (k : Nat) : List AV → Bool
  | [] => true
  | c :: cs => c.inside k && scopedL k cs
end
mutual
theorem RelV.inside {w : World} {H : View} {k : Nat} : ∀ (c : AV) {v : Value}, c.inside k = true → RelV w c H v → RelV w c { H with n := k } v
  | .any, _, _, _ => trivial
  | .int .., _, _, h => h
  | .bool .., _, _, h => h
  | .str .., _, _, h => h
  | .nilp, _, _, h => h
  | .nils, _, _, h => h
  | .nilFunc, _, _, h => h
  | .nilm, _, _, h => h
  | .row .., _, _, h => h
  | .radr .., _, _, h => h
  | .ptr .., _, hp, ⟨_, h2, h3⟩ => ⟨by simpa [AV.inside] using hp, h2, h3⟩
  | .sl .., _, hp, ⟨_, h2, h3⟩ => ⟨by simpa [AV.inside] using hp, h2, h3⟩
  | .mp .., _, hp, ⟨_, h2, h3⟩ => ⟨by simpa [AV.inside] using hp, h2, h3⟩
  | .agg cs, _, hp, ⟨vs, e, h⟩ => ⟨vs, e, RelL.inside cs (by simpa [AV.inside] using hp) h⟩
  | .tup cs, _, hp, ⟨vs, e, h⟩ => ⟨vs, e, RelL.inside cs (by simpa [AV.inside] using hp) h⟩
  | .func _ x y, _, hp, ⟨xs, ys, e, h, h'⟩ => by
    simp only [AV.inside, Bool.and_eq_true] at hp
    exact ⟨xs, ys, e, RelL.inside x hp.1 h, RelL.inside y hp.2 h'⟩
theorem RelL.inside {w : World} {H : View} {k : Nat} : ∀ (cs : List AV) {vs : List Value}, scopedL k cs = true → RelL w cs H vs → RelL w cs { H with n := k } vs
  | [], _, _, h => h
  | c :: cs, _, hp, ⟨v, vs, e, h, h'⟩ => by
    simp only [scopedL, Bool.and_eq_true] at hp
    exact ⟨v, vs, e, RelV.inside c hp.1 h, RelL.inside cs hp.2 h'⟩
end

def envScoped (k : Nat) : List (Nat × AV) → Bool
  | [] => true
  | p :: r => p.2.inside k && envScoped k r
theorem envScoped_look {k : Nat} {env : List (Nat × AV)} (h : envScoped k env = true) {t : Nat} {v : AV} (ht : look env t = some v) : v.inside k = true := by
  induction env with
  | nil => cases ht
  | cons p r ih =>
    obtain ⟨j, u⟩ := p
    simp only [envScoped, Bool.and_eq_true] at h
    simp only [Lens.look] at ht
    split at ht
    · injection ht with ht; subst ht; exact h.1
    · exact ih h.2 ht
/-- `objs0`: of the first objects, each as it is, or given up -/
def ObjsLe (k : Nat) : List AObj → List AObj → Prop
  | [], _ => True
  | o0 :: r0, o :: r => (o0 = .dead ∨ (o0 = o ∧ (match o0 with | .cells cs _ _ false _ => scopedL k cs = true | _ => True))) ∧ ObjsLe k r0 r
  | _ :: _, [] => False
theorem ObjsLe.get {k : Nat} : ∀ {objs0 objs : List AObj}, ObjsLe k objs0 objs → ∀ {o : Nat} {ob : AObj}, objs0[o]? = some ob → ob = .dead ∨ (objs[o]? = some ob ∧ (match ob with | .cells cs _ _ false _ => scopedL k cs = true | _ => True))
  | o0 :: r0, o1 :: r, h, 0, ob, hi => by
    simp at hi; subst hi
    rcases h.1 with h1 | ⟨h1, h2⟩
    · exact .inl h1
    · subst h1; exact .inr ⟨rfl, h2⟩
  | o0 :: r0, o1 :: r, h, o + 1, ob, hi => by
    simpa using ObjsLe.get h.2 (o := o) (by simpa using hi)
  | [], _, _, _, _, hi => by simp at hi
  | _ :: _, [], h, _, _, _ => h.elim

theorem Rel.weak {C : Ctx} {st : St} {a : Act} {w : World} {env0 : List (Nat × AV)} {objs0 : List AObj} (h : Rel C st a w) (he : EnvLe env0 st.env)
    (ho : ObjsLe objs0.length objs0 st.objs) (hs : envScoped objs0.length env0 = true) (hk : C.k ≤ objs0.length) (hsv : C.sv = []) : Rel C ⟨env0, objs0⟩ a w := by
  obtain ⟨H, h⟩ := h
  refine ⟨{ H with n := objs0.length }, h.size, h.defers, ?_, ⟨rfl, ?_, ?_, h.objs.lt⟩, h.wr0, hk, h.byref, ?_, h.out, ?_, h.frame, h.le, h.os, h.tape, h.output, fun p hp => by rw [hsv] at hp; cases hp⟩
  · intro t av ht
    exact (h.env t av (he.look ht)).inside av (envScoped_look hs ht)
  · intro o ob hi
    rcases ho.get hi with rfl | ⟨h1, h2⟩
    · trivial
    · have := h.objs.rel o ob h1
      cases ob with
      | dead => trivial
      | slot => exact this
      | iter => exact this
      | cells cs ver esz flat own =>
        obtain ⟨g1, g2, vs, c, e, g3, g4, g5, g6⟩ := this
        refine ⟨g1, g2, vs, c, e, g3, ?_, g5, g6⟩
        cases flat
        · exact RelL.inside cs h2 g4
        · exact g4
  · intro o o' ob ob' hi hi' hl hl' hb
    rcases ho.get hi with rfl | ⟨h1, _⟩
    · cases hl
    rcases ho.get hi' with rfl | ⟨h2, _⟩
    · cases hl'
    exact h.objs.inj o o' ob ob' h1 h2 hl hl' hb
  · intro o cs ver esz flat own hlt hi
    rcases ho.get hi with h1 | ⟨h1, _⟩
    · cases h1
    · exact h.lens o cs ver esz flat own hlt h1
  · intro o ob hi hl
    rcases ho.get hi with rfl | ⟨h1, _⟩
    · cases hl
    exact h.own o ob h1 hl

theorem W.weak {C : Ctx} {c : Code} {st : St} {Q : Exit → St → Prop} (env0 : List (Nat × AV)) (objs0 : List AObj) (he : EnvLe env0 st.env)
    (ho : ObjsLe objs0.length objs0 st.objs) (hs : envScoped objs0.length env0 = true) (hk : C.k ≤ objs0.length) (hsv : C.sv = []) (h : W C c ⟨env0, objs0⟩ Q) : W C c st Q :=
  fun a w hr => h a w (hr.weak he ho hs hk hsv)

/-! ### the forms of code -/
theorem W.skip {C : Ctx} {st : St} {Q : Exit → St → Prop} (h : Q .normal st) : W C .skip st Q := fun _ _ hr => wp_skip ⟨st, h, hr⟩
theorem W.ret {C : Ctx} {st : St} {Q : Exit → St → Prop} (h : Q .ret st) : W C .ret st Q := fun _ _ hr => wp_ret ⟨st, h, hr⟩
theorem W.exit {C : Ctx} {st : St} {Q : Exit → St → Prop} {id : Nat} (h : Q (.exit id) st) : W C (.exit id) st Q := fun _ _ hr => wp_exit ⟨st, h, hr⟩
theorem W.label {C : Ctx} {st : St} {Q : Exit → St → Prop} {l : Nat} (h : Q .normal st) : W C (.label l) st Q := fun _ _ hr => wp_label ⟨st, h, hr⟩

def QThen (next : St → Prop) (Q : Exit → St → Prop) : Exit → St → Prop
  | .normal, st => next st
  | e, st => Q e st
theorem W.seq {C : Ctx} {x y : Code} {st : St} {Q : Exit → St → Prop} (h : W C x st (QThen (fun st' => W C y st' Q) Q)) : W C (.seq x y) st Q := by
  intro a w hr
  refine wp_seq (wp_mono (h a w hr) fun e a' w' ⟨st', h1, h2⟩ => ?_)
  cases e <;> first | exact h1 a' w' h2 | exact ⟨st', h1, h2⟩

def QBlock (id : Nat) (Q : Exit → St → Prop) : Exit → St → Prop
  | .exit id', st => if id' = id then Q .normal st else Q (.exit id') st
  | e, st => Q e st
theorem W.block {C : Ctx} {id : Nat} {c : Code} {st : St} {Q : Exit → St → Prop} (h : W C c st (QBlock id Q)) : W C (.block id c) st Q := by
  intro a w hr
  refine wp_block (wp_mono (h a w hr) fun e a' w' ⟨st', h1, h2⟩ => ?_)
  cases e with
  | exit id' =>
    simp only [Exit.inBlock]
    simp only [QBlock] at h1
    split at h1
    · rename_i he; rw [if_pos he]; exact ⟨st', h1, h2⟩
    · rename_i he; rw [if_neg he]; exact ⟨st', h1, h2⟩
  | _ => exact ⟨st', h1, h2⟩

theorem W.cond {C : Ctx} {x : Operand} {c d : Code} {st : St} {Q : Exit → St → Prop} {b : Bool} (hx : ev st x = some (.bool b)) (h1 : b = true → W C c st Q) (h2 : b = false → W C d st Q) : W C (.cond x c d) st Q := by
  intro a w hr
  obtain ⟨H, hi⟩ := hr
  have := ev_rel hi hx
  simp only [RelV] at this
  exact wp_cond_split this (fun e => h1 e a w ⟨H, hi⟩) (fun e => h2 e a w ⟨H, hi⟩)
theorem W.cond_true {C : Ctx} {x : Operand} {c d : Code} {st : St} {Q : Exit → St → Prop} (hx : ev st x = some (.bool true)) (h1 : W C c st Q) : W C (.cond x c d) st Q := W.cond hx (fun _ => h1) (fun h => by cases h)
theorem W.cond_false {C : Ctx} {x : Operand} {c d : Code} {st : St} {Q : Exit → St → Prop} (hx : ev st x = some (.bool false)) (h1 : W C d st Q) : W C (.cond x c d) st Q := W.cond hx (fun h => by cases h) (fun _ => h1)

theorem least {p : Nat → Prop} (h : ∃ n, p n) : ∃ n, p n ∧ ∀ m, p m → n ≤ m := by
  obtain ⟨n, hn⟩ := h
  induction n using Nat.strongRecOn with
  | _ n ih =>
    by_cases hx : ∃ m, m < n ∧ p m
    · obtain ⟨m, h1, h2⟩ := hx; exact ih m h1 h2
    · exact ⟨n, hn, fun m hm => Nat.le_of_not_lt fun hlt => hx ⟨m, hlt, hm⟩⟩

open Classical in
theorem W.loop {C : Ctx} {c : Code} {st : St} {Q : Exit → St → Prop} (I : Nat → St → Prop) (n : Nat) (h0 : I n st)
    (hr : ∀ n st, I n st → W C c st (QThen (fun st' => ∃ m, m < n ∧ ∃ env0 objs0, I m ⟨env0, objs0⟩ ∧ EnvLe env0 st'.env ∧ ObjsLe objs0.length objs0 st'.objs ∧ envScoped objs0.length env0 = true ∧ C.k ≤ objs0.length) Q)) (hsv : C.sv = []) : W C (.loop c) st Q := by
  intro a w hrel
  let J : Act → World → Nat → Prop := fun a w n => ∃ st, I n st ∧ Rel C st a w
  refine wp_loop (fun a w => ∃ n, J a w n) (fun a w => if h : ∃ n, J a w n then Classical.choose (least h) else 0) ⟨n, st, h0, hrel⟩ ?_
  intro a w hJ
  have hsp := Classical.choose_spec (least hJ)
  obtain ⟨⟨st1, hI, hR⟩, hmin⟩ := hsp
  refine wp_mono (hr _ st1 hI a w hR) fun e a' w' ⟨st', h1, h2⟩ => ?_
  cases e with
  | normal =>
    obtain ⟨m, hm, env0, objs0, hI0, he, ho, hs, hk⟩ := h1
    have hJ' : J a' w' m := ⟨⟨env0, objs0⟩, hI0, h2.weak he ho hs hk hsv⟩
    have hex : ∃ n, J a' w' n := ⟨m, hJ'⟩
    refine ⟨hex, ?_⟩
    simp only [dif_pos hJ, dif_pos hex]
    exact Nat.lt_of_le_of_lt ((Classical.choose_spec (least hex)).2 m hJ') hm
  | _ => exact ⟨st', h1, h2⟩

theorem W.scope {C : Ctx} {c : Code} {st : St} {Q : Exit → St → Prop} (h : W C c st (fun e st' => match e with | .goto _ => False | e => Q e st')) : W C (.scope c) st Q := by
  intro a w hr
  refine wp_scope_straight (wp_mono (h a w hr) fun e a' w' ⟨st', h1, h2⟩ => ?_)
  cases e <;> first | exact h1.elim | exact ⟨st', h1, h2⟩

/-! ### regions -/
/-- the operations that are left of a region -/
def WL (C : Ctx) (ops : Array Oper) (l : List Oper) (st : St) (Q : Exit → St → Prop) : Prop := ∀ a w, Rel C st a w → wpList C.P ops (Post C Q) l a w

theorem W.region {C : Ctx} {id : Nat} {ops : Array Oper} {st : St} {Q : Exit → St → Prop} (h : WL C ops ops.toList st Q) : W C (.region id ops false) st Q :=
  fun a w hr => wp_region_list (h a w hr)

theorem WL.nil {C : Ctx} {ops : Array Oper} {st : St} {Q : Exit → St → Prop} (h : Q .normal st) : WL C ops [] st Q := fun _ _ hr => wpList_nil ⟨st, h, hr⟩

/-- is the operation wanted? -/
def gd (ops : Array Oper) (st : St) (o : Oper) : Option Bool :=
  match o.guard with
  | none => some true
  | some (g, want) => match (ops[g]?).bind (·.dst) with
    | some t => match look st.env t with
      | some (.bool b) => some (b == want)
      | some (.tup _) => some false
      | _ => none
    | none => none

theorem gd_rel {C : Ctx} {H : View} {ops : Array Oper} {st : St} {a : Act} {w : World} {o : Oper} {b : Bool} (h : gd ops st o = some b) (hi : Inv C H st a w) : Region.wanted o (yielded ops a.tmps) = b := by
  unfold gd at h
  unfold Region.wanted
  cases hg : o.guard with
  | none => rw [hg] at h; injection h
  | some gw =>
    obtain ⟨g, want⟩ := gw
    rw [hg] at h
    dsimp only at h ⊢
    split at h
    · rename_i t ht
      split at h
      · rename_i b' hb
        have hv := hi.env t _ hb
        simp only [RelV] at hv
        have hy : yielded ops a.tmps g = some b' := by
          unfold yielded
          have hv' : a.tmps[t]?.getD undef = .bool b' := by simpa using hv
          cases hq : a.tmps[t]? with
          | none => rw [hq] at hv'; cases hv'
          | some v => rw [hq] at hv'; simp at hv'; subst hv'; rw [ht]; simp [hq]
        rw [hy]
        exact Option.some.inj h
      · rename_i cs hb
        obtain ⟨vs, hv, _⟩ := hi.env t _ hb
        have hy : yielded ops a.tmps g = none := by
          unfold yielded
          have hv' : a.tmps[t]?.getD undef = .tuple vs.toArray := by simpa using hv
          rw [ht]
          simp only [Option.bind_some]
          cases hq : a.tmps[t]? with
          | none => rfl
          | some v => rw [hq] at hv'; simp at hv'; subst hv'; rfl
        rw [hy]
        exact Option.some.inj h
      · cases h
    · cases h

theorem WL.val {C : Ctx} {ops : Array Oper} {o : Oper} {rest : List Oper} {st : St} {Q : Exit → St → Prop} {av : AV} {objs' : List AObj} (hs : VStep C o st av objs') (hg : gd ops st o = some true)
    (hd : ∀ t, o.dst = some t → t < C.nt) (h : WL C ops rest (({ st with objs := objs' } : St).put o.dst av) Q) : WL C ops (o :: rest) st Q := by
  intro a w ⟨H, hi⟩
  obtain ⟨v, w', H', hr, hi', hv⟩ := hs H a w hi
  unfold wpList
  rw [gd_rel hg hi, if_pos rfl]
  refine .inl ?_
  unfold Oper.wp
  rw [hr]
  exact h _ _ ⟨H', hi'.put o.dst hd hv⟩

theorem WL.st {C : Ctx} {ops : Array Oper} {o : Oper} {rest : List Oper} {st : St} {Q : Exit → St → Prop} {objs' : List AObj} (hs : SStep C o st objs') (hg : gd ops st o = some true)
    (hd : o.dst = none) (h : WL C ops rest { st with objs := objs' } Q) : WL C ops (o :: rest) st Q := by
  intro a w ⟨H, hi⟩
  obtain ⟨w', H', hr, hi'⟩ := hs H a w hi
  unfold wpList
  rw [gd_rel hg hi, if_pos rfl]
  refine .inl ?_
  unfold Oper.wp
  rw [hr]
  simp only [Oper.upon, hd]
  exact h _ _ ⟨H', hi'⟩

theorem WL.off {C : Ctx} {ops : Array Oper} {o : Oper} {rest : List Oper} {st : St} {Q : Exit → St → Prop} (hg : gd ops st o = some false)
    (hd : ∀ t, o.dst = some t → t < C.nt) (h : WL C ops rest (st.put o.dst (.tup [])) Q) : WL C ops (o :: rest) st Q := by
  intro a w ⟨H, hi⟩
  unfold wpList
  rw [gd_rel hg hi, if_neg (by simp)]
  exact h _ _ ⟨H, hi.put o.dst hd ⟨[], rfl, rfl⟩⟩

end Go.Lens
