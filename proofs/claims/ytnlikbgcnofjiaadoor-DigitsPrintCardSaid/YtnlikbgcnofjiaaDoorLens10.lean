/- Lens, part 10: the rules for calls. -/
import Derived.Test.YtnlikbgcnofjiaaDoorLens9
set_option linter.unusedVariables false
set_option linter.unusedSimpArgs false
namespace Go.Lens
open Go Go.RowKit

def evL (st : St) : List Operand → Option (List AV)
  | [] => some []
  | x :: xs => match ev st x, evL st xs with | some c, some cs => some (c :: cs) | _, _ => none
theorem evL_rel {C : Ctx} {H : View} {st : St} {a : Act} {w : World} (h : Inv C H st a w) : ∀ {xs : List Operand} {cs : List AV}, evL st xs = some cs → RelL w cs H (xs.map a.eval)
  | [], _, hx => by simp only [evL, Option.some.injEq] at hx; subst hx; rfl
  | x :: xs, cs, hx => by
    simp only [evL] at hx
    split at hx
    · rename_i c cs' h1 h2
      injection hx with hx; subst hx
      exact RelL_cons (ev_rel h h1) (evL_rel h h2)
    · cases hx

mutual
theorem AV.up_plain (k m : Nat) : ∀ (c : AV), c.plain = true → c.up k m = c
  | .any, _ => rfl
  | .int .., _ => rfl
  | .bool .., _ => rfl
  | .str .., _ => rfl
  | .nilp, _ => rfl
  | .nils, _ => rfl
  | .nilFunc, _ => rfl
  | .nilm, _ => rfl
  | .row .., _ => rfl
  | .radr .., _ => rfl
  | .ptr .., h => by cases h
  | .sl .., h => by cases h
  | .mp .., h => by cases h
  | .agg cs, h => by simp only [AV.up, upL_plain k m cs (by simpa [AV.plain] using h)]
  | .tup cs, h => by simp only [AV.up, upL_plain k m cs (by simpa [AV.plain] using h)]
  | .func _ x y, h => by
    simp only [AV.plain, Bool.and_eq_true] at h
    simp only [AV.up, upL_plain k m x h.1, upL_plain k m y h.2]
theorem upL_plain (k m : Nat) : ∀ (cs : List AV), plainL cs = true → upL k m cs = cs
  | [], _ => rfl
  | c :: cs, h => by
    simp only [plainL, Bool.and_eq_true] at h
    simp only [upL, AV.up_plain k m c h.1, upL_plain k m cs h.2]
end
mutual
theorem AV.ge_plain (k : Nat) : ∀ (c : AV), c.plain = true → c.ge k = true
  | .any, _ => rfl
  | .int .., _ => rfl
  | .bool .., _ => rfl
  | .str .., _ => rfl
  | .nilp, _ => rfl
  | .nils, _ => rfl
  | .nilFunc, _ => rfl
  | .nilm, _ => rfl
  | .row .., _ => rfl
  | .radr .., _ => rfl
  | .ptr .., h => by cases h
  | .sl .., h => by cases h
  | .mp .., h => by cases h
  | .agg cs, h => by simpa [AV.ge] using geL_plain k cs (by simpa [AV.plain] using h)
  | .tup cs, h => by simpa [AV.ge] using geL_plain k cs (by simpa [AV.plain] using h)
  | .func _ x y, h => by
    simp only [AV.plain, Bool.and_eq_true] at h
    simp only [AV.ge, geL_plain k x h.1, geL_plain k y h.2, Bool.and_self]
theorem geL_plain (k : Nat) : ∀ (cs : List AV), plainL cs = true → geL k cs = true
  | [], _ => rfl
  | c :: cs, h => by
    simp only [plainL, Bool.and_eq_true] at h
    simp only [geL, AV.ge_plain k c h.1, geL_plain k cs h.2, Bool.and_self]
end
theorem plainL_append {cs ds : List AV} : plainL (cs ++ ds) = (plainL cs && plainL ds) := by
  induction cs with
  | nil => rfl
  | cons c cs ih => simp [plainL, ih, Bool.and_assoc]

theorem Callable.run {P : Program} {f : FuncId} (h : Callable P f) (args : Array Value) (w : World) : (callFunc f args).run P w = .ok (.enter f args) w := by
  obtain ⟨fn, h1, h2, h3⟩ := h
  have h3' : ¬ (fn.name == "runtime.NumGoroutine") = true := by rw [h3]; simp
  unfold callFunc
  simp only [Sem.run_bind, run_program, Result.andThen_ok, h1, h2, if_neg h3', Bool.false_eq_true, if_false, Sem.run_pure]

theorem run_call {C : Ctx} {H : View} {st : St} {a : Act} {w : World} (hi : Inv C H st a w) {o : Oper} {x : Operand} {xs : Array Operand} {ts : Array TypeId} {f : FuncId} {fs cs avs : List AV}
    (hop : o.op = .call { callee := .value x, args := xs, argTypes := ts }) (hx : ev st x = some (.func (.func f) fs cs)) (hxs : evL st xs.toList = some avs) (hf : Callable C.P f) :
    ∃ vs, (execOp a.eval o).run C.P w = .ok (.enter f (List.toArray vs)) w ∧ RelL w (fs ++ avs ++ cs) H vs := by
  obtain ⟨us, us', e, h1, h2⟩ := ev_rel hi hx
  have h3 := evL_rel hi hxs
  refine ⟨us ++ xs.toList.map a.eval ++ us', ?_, (h1.append h3).append h2⟩
  simp only [execOp, hop, resolve, e, Deferred.ofValue, invoke, Sem.run_bind, Sem.run_pure, Result.andThen_ok]
  rw [hf.run]
  congr 2
  apply Array.ext'
  simp

theorem WL.call {C : Ctx} {ops : Array Oper} {o : Oper} {rest : List Oper} {st : St} {Q : Exit → St → Prop} {x : Operand} {xs : Array Operand} {ts : Array TypeId} {f : FuncId} {fs cs avs args : List AV}
    {L : List Nat} {B : List (Nat × Nat)} {O : List AObj} {Q' : AV → List AObj → Prop} (kl : Bool)
    (hs : Spec C.P f args O Q')
    (hop : o.op = .call { callee := .value x, args := xs, argTypes := ts }) (hx : ev st x = some (.func (.func f) fs cs)) (hxs : evL st xs.toList = some avs)
    (hp : PassL st.objs 0 (fs ++ avs ++ cs) args L B O) (hnd : (B.map (·.1)).Nodup) (hdis : ∀ o, o ∈ L → o ∉ B.map (·.1))
    (hmine : kl = true → ∀ o, o ∈ L → ∃ (ds : List AV) (ver esz : Nat) (e : TypeId), st.objs[o]? = some (AObj.cells ds ver esz true (some e)))
    (hg : gd ops st o = some true) (hd : ∀ t, o.dst = some t → t < C.nt)
    (h : ∀ r O', Q' r O' → Same O O' ∧ r.ge B.length = true ∧ (∀ i ob, B.length ≤ i → O'[i]? = some ob → ob.ge B.length = true) ∧ (kl = true ∨ (r.noRow = true ∧ ∀ ob ∈ O', ob.noRow = true)) ∧
      WL C ops rest ((⟨st.env, wb (if kl then killL st.objs L else st.objs) B O' ++ (O'.drop B.length).map (AObj.up B.length st.objs.length)⟩ : St).put o.dst (r.up B.length st.objs.length)) Q) :
    WL C ops (o :: rest) st Q := by
  intro a w ⟨H, hi⟩
  obtain ⟨vs, hrun, hrel⟩ := run_call hi hop hx hxs hs.1
  unfold wpList
  rw [gd_rel hg hi, if_pos rfl]
  refine .inl ?_
  unfold Oper.wp
  rw [hrun]
  simp only [Oper.upon]
  have hO := hi.objs.callee hp hnd hdis
  have hra : RelL w args (H.callee L B) vs := by
    refine hp.rel (Hc := H.callee L B) hi.objs (fun b _ hb => hb.1) [] rfl rfl (fun o ho hw => hw.2 o ho rfl) (fun i o off hio => ?_) hrel
    simp only [List.nil_append] at hio
    have hgd : B.getD i (0, 0) = (o, off) := by simp [hio]
    simp only [View.callee, hgd, and_self]
  refine (hs.2 _ w vs hO hra).mono fun e w' ⟨r, O', H', v, he, hq, hrv, hl⟩ => ?_
  subst he
  obtain ⟨g1, g2, g3, g4, g5⟩ := h r O' hq
  obtain ⟨J, k1, k2⟩ := after_call hi hp hnd hdis hmine hl g1 hrv g2 g3 g4
  exact g5 _ _ ⟨J, k1.put o.dst hd k2⟩

/-- a call whose body is walked where it stands, over the caller's own objects -/
theorem WL.inl {C : Ctx} {ops : Array Oper} {o : Oper} {rest : List Oper} {env : List (Nat × AV)} {objs : List AObj} {Q : Exit → St → Prop} {x : Operand} {xs : Array Operand} {ts : Array TypeId} {f : FuncId} {fs cs avs args : List AV} {fn : Func} {c : Code}
    (hf : C.P.funcs[f]? = some fn) (hb : fn.body = some c) (hname : (fn.name == "runtime.NumGoroutine") = false) {nt : Nat} (hnt : fn.ntmps = nt) {rs : List ResultVar} (hrs : fn.results.toList = rs)
    (hop : o.op = .call { callee := .value x, args := xs, argTypes := ts }) (hx : ev ⟨env, objs⟩ x = some (.func (.func f) fs cs)) (hxs : evL ⟨env, objs⟩ xs.toList = some avs) (ha : fs ++ avs ++ cs = args) (hlen : Nat.ble args.length nt = true)
    (hg : gd ops ⟨env, objs⟩ o = some true) (hd : ∀ t, o.dst = some t → t < C.nt)
    (h : ∀ tm, W { C with nt := nt, sv := (tm, env) :: C.sv } c ⟨envOf 0 args, objs⟩ (fun e st' => (e = .ret ∨ e = .normal) ∧ ∃ cs', resAV C.T st' rs = some cs' ∧ WL C ops rest ((⟨env, st'.objs⟩ : St).put o.dst (tupAV cs')) Q)) :
    WL C ops (o :: rest) ⟨env, objs⟩ Q := by
  subst hnt; subst hrs; subst ha
  intro a w ⟨H, hi⟩
  obtain ⟨vs, hrun, hrel⟩ := run_call hi hop hx hxs ⟨fn, hf, by simp [hb], hname⟩
  unfold wpList
  rw [gd_rel hg hi, if_pos rfl]
  refine .inl ?_
  unfold Oper.wp
  rw [hrun]
  simp only [Oper.upon]
  have hl := hrel.length
  have hlen' := Nat.le_of_ble_eq_true hlen
  have hinv : Inv { C with nt := fn.ntmps, sv := (a.tmps, env) :: C.sv } H ⟨envOf 0 (fs ++ avs ++ cs), objs⟩ { tmps := vs.toArray ++ Array.replicate (fn.ntmps - vs.toArray.size) undef, defers := [] } w := by
    refine ⟨?_, rfl, ?_, hi.objs, hi.wr0, hi.klen, hi.byref, hi.lens, hi.out, hi.own, hi.frame, hi.le, hi.os, hi.tape, hi.output, ?_⟩
    · simp; omega
    · intro t av ht
      obtain ⟨_, h2⟩ := look_envOf ht
      obtain ⟨v, hv, hrv⟩ := hrel.get t av (by simpa using h2)
      have hlt : t < vs.length := (List.getElem?_eq_some_iff.1 hv).1
      have : (vs.toArray ++ Array.replicate (fn.ntmps - vs.toArray.size) undef).getD t undef = v := by
        rw [Array.getD_eq_getD_getElem?, Array.getElem?_append_left (by simpa using hlt)]
        simp [hv]
      show RelV w av H ((vs.toArray ++ Array.replicate (fn.ntmps - vs.toArray.size) undef).getD t undef)
      rw [this]; exact hrv
    · intro p hp t av ht
      rcases List.mem_cons.1 hp with rfl | hp
      · exact hi.env t av ht
      · exact hi.saved p hp t av ht
  refine (calls_of_wp hf hb (R := fun e w' => ∃ (st' : St) (H' : View) (cs' : List AV) (v : Value), e = .returned v ∧ RelV w' (tupAV cs') H' v ∧ Inv C H' ⟨env, st'.objs⟩ a w' ∧ WL C ops rest ((⟨env, st'.objs⟩ : St).put o.dst (tupAV cs')) Q) ?_).mono fun e w' ⟨st', H', cs', v, he, hv, hi', hw⟩ => ?_
  · refine wp_mono (h a.tmps _ w ⟨H, hinv⟩) fun e a' w' ⟨st, ⟨he, cs', h1, h2⟩, H1, hi1⟩ => ?_
    obtain ⟨v, us, r1, r2, r3⟩ := results_run hi1 h1
    have hback : Inv C H1 ⟨env, st.objs⟩ a w' :=
      ⟨hi.size, hi.defers, fun t av ht => hi1.saved (a.tmps, env) (List.mem_cons_self ..) t av ht, hi1.objs, hi1.wr0, hi1.klen, hi1.byref, hi1.lens, hi1.out, hi1.own, hi1.frame, hi1.le, hi1.os, hi1.tape, hi1.output, fun p hp t av ht => hi1.saved p (List.mem_cons_of_mem _ hp) t av ht⟩
    have key : a'.defers = [] ∧ ∃ v, (results fn a'.tmps).run C.P w' = .ok v w' ∧ (∃ (st' : St) (H' : View) (cs' : List AV) (v' : Value), (Ending.returned v) = .returned v' ∧ RelV w' (tupAV cs') H' v' ∧ Inv C H' ⟨env, st'.objs⟩ a w' ∧ WL C ops rest ((⟨env, st'.objs⟩ : St).put o.dst (tupAV cs')) Q) :=
      ⟨hi1.defers, v, r1, st, H1, cs', v, rfl, by rw [r3]; exact tup_rel r2, hback, h2⟩
    rcases he with rfl | rfl
    · exact key
    · exact key
  · subst he
    exact hw _ _ ⟨H', hi'.put o.dst hd hv⟩

/-- a function of plain values that hands back a plain value -/
def Does (P : Program) (f : FuncId) (args : List AV) (r : AV) : Prop := Spec P f args [] fun r' os => r' = r ∧ os = []

theorem PassL.of_plain {objs : List AObj} : ∀ {cs : List AV}, plainL cs = true → PassL objs 0 cs cs [] [] []
  | [], _ => .nil
  | c :: cs, h => by
    simp only [plainL, Bool.and_eq_true] at h
    exact .plain h.1 (PassL.of_plain h.2)

theorem WL.fn {C : Ctx} {ops : Array Oper} {o : Oper} {rest : List Oper} {st : St} {Q : Exit → St → Prop} {x : Operand} {xs : Array Operand} {ts : Array TypeId} {f : FuncId} {fs cs avs : List AV} {r : AV}
    (hs : Does C.P f (fs ++ avs ++ cs) r)
    (hop : o.op = .call { callee := .value x, args := xs, argTypes := ts }) (hx : ev st x = some (.func (.func f) fs cs)) (hxs : evL st xs.toList = some avs)
    (hp : plainL (fs ++ avs ++ cs) = true) (hr : r.plain = true)
    (hg : gd ops st o = some true) (hd : ∀ t, o.dst = some t → t < C.nt)
    (h : WL C ops rest (st.put o.dst r) Q) : WL C ops (o :: rest) st Q := by
  refine WL.call true hs hop hx hxs (PassL.of_plain hp) (by simp) (by simp) (by simp) hg hd ?_
  rintro r' O' ⟨rfl, rfl⟩
  refine ⟨fun i _ _ _ _ _ hi => by simp at hi, AV.ge_plain _ _ hr, fun i ob _ hi => by simp at hi, .inl rfl, ?_⟩
  simp only [wb, killL, if_true, List.drop_nil, List.map_nil, List.append_nil, AV.up_plain _ _ _ hr]
  exact h

/-- the same, a predicate in the place of the value -/
theorem WL.fnP {C : Ctx} {ops : Array Oper} {o : Oper} {rest : List Oper} {st : St} {Q : Exit → St → Prop} {x : Operand} {xs : Array Operand} {ts : Array TypeId} {f : FuncId} {fs cs avs : List AV} {R : AV → Prop}
    (hs : Spec C.P f (fs ++ avs ++ cs) [] fun r os => R r ∧ os = [])
    (hop : o.op = .call { callee := .value x, args := xs, argTypes := ts }) (hx : ev st x = some (.func (.func f) fs cs)) (hxs : evL st xs.toList = some avs)
    (hp : plainL (fs ++ avs ++ cs) = true)
    (hg : gd ops st o = some true) (hd : ∀ t, o.dst = some t → t < C.nt)
    (h : ∀ r, R r → r.plain = true ∧ WL C ops rest (st.put o.dst r) Q) : WL C ops (o :: rest) st Q := by
  refine WL.call true hs hop hx hxs (PassL.of_plain hp) (by simp) (by simp) (by simp) hg hd ?_
  rintro r' O' ⟨hR, rfl⟩
  obtain ⟨hr, hW⟩ := h r' hR
  refine ⟨fun i _ _ _ _ _ hi => by simp at hi, AV.ge_plain _ _ hr, fun i ob _ hi => by simp at hi, .inl rfl, ?_⟩
  simp only [wb, killL, if_true, List.drop_nil, List.map_nil, List.append_nil, AV.up_plain _ _ _ hr]
  exact hW

/-- arguments that are lent: they stay as they are, if what comes back cannot lead to them -/
theorem WL.fnL {C : Ctx} {ops : Array Oper} {o : Oper} {rest : List Oper} {st : St} {Q : Exit → St → Prop} {x : Operand} {xs : Array Operand} {ts : Array TypeId} {f : FuncId} {fs cs avs args : List AV} {r : AV} {L : List Nat}
    (hs : Does C.P f args r)
    (hop : o.op = .call { callee := .value x, args := xs, argTypes := ts }) (hx : ev st x = some (.func (.func f) fs cs)) (hxs : evL st xs.toList = some avs)
    (hp : PassL st.objs 0 (fs ++ avs ++ cs) args L [] []) (hr : r.plain = true) (hr' : r.noRow = true)
    (hg : gd ops st o = some true) (hd : ∀ t, o.dst = some t → t < C.nt)
    (h : WL C ops rest (st.put o.dst r) Q) : WL C ops (o :: rest) st Q := by
  refine WL.call false hs hop hx hxs hp (by simp) (by simp) (by simp) hg hd ?_
  rintro r' O' ⟨rfl, rfl⟩
  refine ⟨fun i _ _ _ _ _ hi => by simp at hi, AV.ge_plain _ _ hr, fun i ob _ hi => by simp at hi, .inr ⟨hr', by simp⟩, ?_⟩
  simp only [wb, Bool.false_eq_true, if_false, List.drop_nil, List.map_nil, List.append_nil, AV.up_plain _ _ _ hr]
  exact h

/-- arguments that are lent: they are given up -/
theorem WL.fnK {C : Ctx} {ops : Array Oper} {o : Oper} {rest : List Oper} {st : St} {Q : Exit → St → Prop} {x : Operand} {xs : Array Operand} {ts : Array TypeId} {f : FuncId} {fs cs avs args : List AV} {r : AV} {L : List Nat}
    (hs : Does C.P f args r)
    (hop : o.op = .call { callee := .value x, args := xs, argTypes := ts }) (hx : ev st x = some (.func (.func f) fs cs)) (hxs : evL st xs.toList = some avs)
    (hp : PassL st.objs 0 (fs ++ avs ++ cs) args L [] []) (hr : r.plain = true)
    (hmine : ∀ o, o ∈ L → ∃ (ds : List AV) (ver esz : Nat) (e : TypeId), st.objs[o]? = some (AObj.cells ds ver esz true (some e)))
    (hg : gd ops st o = some true) (hd : ∀ t, o.dst = some t → t < C.nt)
    (h : WL C ops rest ((⟨st.env, killL st.objs L⟩ : St).put o.dst r) Q) : WL C ops (o :: rest) st Q := by
  refine WL.call true hs hop hx hxs hp (by simp) (by simp) (fun _ => hmine) hg hd ?_
  rintro r' O' ⟨rfl, rfl⟩
  refine ⟨fun i _ _ _ _ _ hi => by simp at hi, AV.ge_plain _ _ hr, fun i ob _ hi => by simp at hi, .inl rfl, ?_⟩
  simp only [wb, if_true, List.drop_nil, List.map_nil, List.append_nil, AV.up_plain _ _ _ hr]
  exact h

end Go.Lens
