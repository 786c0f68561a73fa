/- Lens, part 14: the steps as they are used by walks. -/
import Derived.Test.YtnlikbgcnofjiaaDoorLens13
import Derived.Laws.BitsLemmas
import Derived.Laws.Bits64
import Derived.Laws.Closers25
set_option linter.unusedVariables false
set_option linter.unusedSimpArgs false
namespace Go.Lens
open Go Go.RowKit

/-- a step that leaves the objects -/
theorem sp {C : Ctx} {ops : Array Oper} {o : Oper} {rest : List Oper} {env : List (Nat × AV)} {objs : List AObj} {Q : Exit → St → Prop} {av : AV} {d : Nat} (hs : VStep C o ⟨env, objs⟩ av objs) (hg : gd ops ⟨env, objs⟩ o = some true)
    (hd : o.dst = some d) (hlt : Nat.blt d C.nt = true) (h : WL C ops rest ⟨(d, av) :: env, objs⟩ Q) : WL C ops (o :: rest) ⟨env, objs⟩ Q :=
  WL.val hs hg (fun t ht => by rw [hd] at ht; injection ht with ht; subst ht; exact Nat.le_of_ble_eq_true hlt) (by rw [hd]; exact h)
/-- the same, the value told otherwise -/
theorem sq {C : Ctx} {ops : Array Oper} {o : Oper} {rest : List Oper} {env : List (Nat × AV)} {objs : List AObj} {Q : Exit → St → Prop} {av av' : AV} {d : Nat} (hs : VStep C o ⟨env, objs⟩ av objs) (ha : av = av') (hg : gd ops ⟨env, objs⟩ o = some true)
    (hd : o.dst = some d) (hlt : Nat.blt d C.nt = true) (h : WL C ops rest ⟨(d, av') :: env, objs⟩ Q) : WL C ops (o :: rest) ⟨env, objs⟩ Q := by
  subst ha; exact sp hs hg hd hlt h
/-- a step that turns the objects -/
theorem sn {C : Ctx} {ops : Array Oper} {o : Oper} {rest : List Oper} {env : List (Nat × AV)} {objs objs' objs'' : List AObj} {Q : Exit → St → Prop} {av av' : AV} {d : Nat} (hs : VStep C o ⟨env, objs⟩ av objs') (ha : av = av') (he : objs' = objs'') (hg : gd ops ⟨env, objs⟩ o = some true)
    (hd : o.dst = some d) (hlt : Nat.blt d C.nt = true) (h : WL C ops rest ⟨(d, av') :: env, objs''⟩ Q) : WL C ops (o :: rest) ⟨env, objs⟩ Q := by
  subst ha; subst he
  exact WL.val hs hg (fun t ht => by rw [hd] at ht; injection ht with ht; subst ht; exact Nat.le_of_ble_eq_true hlt) (by rw [hd]; exact h)
theorem so {C : Ctx} {ops : Array Oper} {o : Oper} {rest : List Oper} {env : List (Nat × AV)} {objs : List AObj} {Q : Exit → St → Prop} {d : Nat} (hg : gd ops ⟨env, objs⟩ o = some false)
    (hd : o.dst = some d) (hlt : Nat.blt d C.nt = true) (h : WL C ops rest ⟨(d, .tup []) :: env, objs⟩ Q) : WL C ops (o :: rest) ⟨env, objs⟩ Q :=
  WL.off hg (fun t ht => by rw [hd] at ht; injection ht with ht; subst ht; exact Nat.le_of_ble_eq_true hlt) (by rw [hd]; exact h)
theorem ss {C : Ctx} {ops : Array Oper} {o : Oper} {rest : List Oper} {env : List (Nat × AV)} {objs objs' objs'' : List AObj} {Q : Exit → St → Prop} (hs : SStep C o ⟨env, objs⟩ objs') (he : objs' = objs'') (hg : gd ops ⟨env, objs⟩ o = some true)
    (hd : o.dst = none) (h : WL C ops rest ⟨env, objs''⟩ Q) : WL C ops (o :: rest) ⟨env, objs⟩ Q := by
  subst he; exact WL.st hs hg hd h
theorem a_alloc {C : Ctx} {o : Oper} {env : List (Nat × AV)} {objs : List AObj} {t : TypeId} {y : Ty} {z : List Value} {ds : List AV} (hop : o.op = .alloc t) (hy : C.T.at t = some y) (hz : y.zero = some z) (hd : ofVals z = some ds) :
    VStep C o ⟨env, objs⟩ (.ptr objs.length 0 0) (objs ++ [.cells ds 0 1 false none]) := v_alloc hop hy hz hd
theorem a_box {C : Ctx} {o : Oper} {env : List (Nat × AV)} {objs : List AObj} {t : TypeId} {x : Operand} {av : AV} {ds : List AV} (hop : o.op = .box t x) (hx : ev ⟨env, objs⟩ x = some av) (hd : Cells objs av ds) :
    VStep C o ⟨env, objs⟩ (.ptr objs.length 0 0) (objs ++ [.cells ds 0 1 false none]) := v_box hop hx hd
theorem a_store {C : Ctx} {o : Oper} {env : List (Nat × AV)} {objs : List AObj} {t : TypeId} {x v : Operand} {ob ver i esz : Nat} {cs ds : List AV} {flat : Bool} {own : Option TypeId} {y : Ty} {av : AV} (hop : o.op = .store t x v)
    (hx : ev ⟨env, objs⟩ x = some (.ptr ob ver i)) (hob : objs[ob]? = some (.cells cs ver esz flat own)) (hv : ev ⟨env, objs⟩ v = some av) (hd : Cells objs av ds) (hone : ∀ d ∈ ds, One objs d) (hp : flat = true → plainL ds = true)
    (hy : C.T.at t = some y) (hsz : y.size = ds.length) (hpos : 0 < ds.length) (hle : i + ds.length ≤ cs.length) : SStep C o ⟨env, objs⟩ (objs.set ob (.cells (splice cs i ds) ver esz flat own)) := s_store hop hx hob hv hd hone hp hy hsz hpos hle
theorem a_storeA {C : Ctx} {o : Oper} {env : List (Nat × AV)} {objs : List AObj} {t : TypeId} {x v : Operand} {ob ver i esz : Nat} {cs ds : List AV} {flat : Bool} {own : Option TypeId} {y : Ty} (hop : o.op = .store t x v)
    (hx : ev ⟨env, objs⟩ x = some (.ptr ob ver i)) (hob : objs[ob]? = some (.cells cs ver esz flat own)) (hv : ev ⟨env, objs⟩ v = some (.agg ds)) (hone : ds.all AV.oneB = true) (hp : flat = true → plainL ds = true)
    (hy : C.T.at t = some y) (hsz : y.size = ds.length) (hpos : Nat.blt 0 ds.length = true) (hle : i + ds.length ≤ cs.length) : SStep C o ⟨env, objs⟩ (objs.set ob (.cells (splice cs i ds) ver esz flat own)) :=
  s_store hop hx hob hv (.inl rfl) (fun d hd => One.of_oneB (by rw [List.all_eq_true] at hone; exact hone d hd)) hp hy hsz (Nat.le_of_ble_eq_true hpos) hle
theorem a_store1 {C : Ctx} {o : Oper} {env : List (Nat × AV)} {objs : List AObj} {t : TypeId} {x v : Operand} {ob ver i esz : Nat} {cs : List AV} {flat : Bool} {own : Option TypeId} {y : Ty} {av : AV} (hop : o.op = .store t x v)
    (hx : ev ⟨env, objs⟩ x = some (.ptr ob ver i)) (hob : objs[ob]? = some (.cells cs ver esz flat own)) (hv : ev ⟨env, objs⟩ v = some av) (hone : One objs av) (hp : flat = true → av.plain = true)
    (hy : C.T.at t = some y) (hsz : y.size = 1) (hle : i < cs.length) : SStep C o ⟨env, objs⟩ (objs.set ob (.cells (cs.set i av) ver esz flat own)) := s_store1 hop hx hob hv hone hp hy hsz hle

theorem wrap_i64_id {n : Int} (h0 : -9223372036854775808 ≤ n) (h1 : n ≤ 9223372036854775807) : IntKind.i64.wrap n = n := by rw [IntKind.wrap_i64]; omega
theorem wrap_u64_id {n : Int} (h0 : 0 ≤ n) (h1 : n ≤ 18446744073709551615) : IntKind.u64.wrap n = n := by rw [IntKind.wrap_u64]; omega

theorem v_i64 {C : Ctx} {o : Oper} {st : St} {op : BinOp} {x y : Operand} {t t' : TypeId} {k' : IntKind} {a b r : Int} (hop : o.op = .binOp op t x y t') (hx : ev st x = some (.int .i64 a)) (hy : ev st y = some (.int k' b))
    (hr : binAV op (.int .i64 a) (.int k' b) = some (.int .i64 (IntKind.i64.wrap r))) (h0 : -9223372036854775808 ≤ r) (h1 : r ≤ 9223372036854775807) : VStep C o st (.int .i64 r) st.objs := by
  refine v_pure ?_
  simp only [pureAV, hop, hx, hy, hr, wrap_i64_id h0 h1]
theorem v_u64 {C : Ctx} {o : Oper} {st : St} {op : BinOp} {x y : Operand} {t t' : TypeId} {k' : IntKind} {a b r : Int} (hop : o.op = .binOp op t x y t') (hx : ev st x = some (.int .u64 a)) (hy : ev st y = some (.int k' b))
    (hr : binAV op (.int .u64 a) (.int k' b) = some (.int .u64 (IntKind.u64.wrap r))) (h0 : 0 ≤ r) (h1 : r ≤ 18446744073709551615) : VStep C o st (.int .u64 r) st.objs := by
  refine v_pure ?_
  simp only [pureAV, hop, hx, hy, hr, wrap_u64_id h0 h1]
/-- the same, the value told otherwise -/
theorem v_bin {C : Ctx} {o : Oper} {st : St} {op : BinOp} {x y : Operand} {t t' : TypeId} {a b r : AV} (hop : o.op = .binOp op t x y t') (hx : ev st x = some a) (hy : ev st y = some b)
    (hr : binAV op a b = some r) : VStep C o st r st.objs := by
  refine v_pure ?_
  simp only [pureAV, hop, hx, hy, hr]

theorem rem_nn {k : IntKind} {a b : Int} (h0 : 0 ≤ a) (h1 : 0 < b) : binAV .rem (.int k a) (.int k b) = some (.int k (a % b)) := by
  simp only [binAV, isShift, intAV, Bool.false_eq_true, if_false, if_true, if_neg (show ¬ b = 0 by omega), Int.tmod_eq_emod_of_nonneg h0]
theorem quo_i64 {a b : Int} (h0 : 0 ≤ a) (ha : a ≤ 9223372036854775807) (h1 : 0 < b) : binAV .quo (.int .i64 a) (.int .i64 b) = some (.int .i64 (a / b)) := by
  simp only [binAV, isShift, intAV, Bool.false_eq_true, if_false, if_true, if_neg (show ¬ b = 0 by omega), Int.tdiv_eq_ediv_of_nonneg h0]
  rw [wrap_i64_ediv a b (by omega) ha (by omega)]
theorem quo_u64 {a b : Int} (h0 : 0 ≤ a) (ha : a ≤ 18446744073709551615) (h1 : 0 < b) : binAV .quo (.int .u64 a) (.int .u64 b) = some (.int .u64 (a / b)) := by
  simp only [binAV, isShift, intAV, Bool.false_eq_true, if_false, if_true, if_neg (show ¬ b = 0 by omega), Int.tdiv_eq_ediv_of_nonneg h0]
  rw [wrap_u64_id (Int.ediv_nonneg h0 (by omega)) (Int.le_trans (Int.ediv_le_self _ h0) ha)]

/-- a comparison whose answer is known -/
theorem v_is {C : Ctx} {o : Oper} {st : St} {op : BinOp} {x y : Operand} {t t' : TypeId} {a b : AV} {p : Bool} (q : Bool) (hop : o.op = .binOp op t x y t') (hx : ev st x = some a) (hy : ev st y = some b)
    (hr : binAV op a b = some (.bool p)) (hp : p = q) : VStep C o st (.bool q) st.objs := by
  subst hp; exact v_bin hop hx hy hr

theorem v_cvt {C : Ctx} {o : Oper} {st : St} {x : Operand} {s d : TypeId} {ys yd : Ty} {k k' : IntKind} {n : Int} (hop : o.op = .convert s d x)
    (hx : ev st x = some (.int k n)) (hs : C.T.at s = some ys) (hd : C.T.at d = some yd) (hk : yd.k = .int k') (hw : k'.wrap n = n) : VStep C o st (.int k' n) st.objs := by
  have := v_conv_int hop hx hs hd hk
  rw [hw] at this; exact this

theorem sc {C : Ctx} {ops : Array Oper} {o : Oper} {rest : List Oper} {env : List (Nat × AV)} {objs : List AObj} {Q : Exit → St → Prop} {x : Operand} {xs : Array Operand} {ts : Array TypeId} {f : FuncId} {fs cs avs avs' : List AV} {r : AV} {d : Nat}
    (hs : Does C.P f avs' r)
    (hop : o.op = .call { callee := .value x, args := xs, argTypes := ts }) (hx : ev ⟨env, objs⟩ x = some (.func (.func f) fs cs)) (hxs : evL ⟨env, objs⟩ xs.toList = some avs) (ha : fs ++ avs ++ cs = avs')
    (hp : plainL avs' = true) (hr : r.plain = true)
    (hg : gd ops ⟨env, objs⟩ o = some true) (hd : o.dst = some d) (hlt : Nat.blt d C.nt = true)
    (h : WL C ops rest ⟨(d, r) :: env, objs⟩ Q) : WL C ops (o :: rest) ⟨env, objs⟩ Q := by
  subst ha
  exact WL.fn hs hop hx hxs hp hr hg (fun t ht => by rw [hd] at ht; injection ht with ht; subst ht; exact Nat.le_of_ble_eq_true hlt) (by rw [hd]; exact h)

/-- the end of a function that hands back plain values -/
theorem fin {T : Tab} {rs : List ResultVar} {st : St} {cs cs' : List AV} {r : AV} (h : resAV T st rs = some cs) (hp : PackL st.objs 0 [] 0 cs cs' []) (hr : tupAV cs' = r) : Fin T rs 0 (fun r' os => r' = r ∧ os = []) .ret st :=
  ⟨.inl rfl, cs, cs', [], h, hp, List.nodup_nil, fun ob hob => by simp at hob, hr, by simp⟩

theorem does {P : Program} {T : Tab} (ok : TabOK P T) {f : FuncId} {fn : Func} {c : Code} (hf : P.funcs[f]? = some fn) (hb : fn.body = some c) (hname : (fn.name == "runtime.NumGoroutine") = false)
    {nt : Nat} (hnt : fn.ntmps = nt) {rs : List ResultVar} (hrs : fn.results.toList = rs) {args : List AV} (hlen : Nat.ble args.length nt = true) {r : AV}
    (h : ∀ w0 H0 hk hj, W ⟨P, T, ok, nt, w0, 0, H0, lnOf [], hk, hj, []⟩ c ⟨envOf 0 args, []⟩ (Fin T rs 0 fun r' os => r' = r ∧ os = [])) : Does P f args r :=
  Spec.of_W ok hf hb hname hnt hrs (Nat.le_of_ble_eq_true hlen) (fun _ h => by cases h) h

def Fits (k : Nat) (env0 : List (Nat × AV)) (objs0 : List AObj) (st : St) : Prop := EnvLe env0 st.env ∧ ObjsLe objs0.length objs0 st.objs ∧ envScoped objs0.length env0 = true ∧ k ≤ objs0.length

theorem W.while {C : Ctx} {c : Code} {st : St} {Q : Exit → St → Prop} (I : Nat → St → Prop) (n : Nat) {env0 : List (Nat × AV)} {objs0 : List AObj} (h0 : I n ⟨env0, objs0⟩) (hf : Fits C.k env0 objs0 st)
    (hr : ∀ n st, I n st → W C c st (QThen (fun st' => ∃ m env0 objs0, m < n ∧ I m ⟨env0, objs0⟩ ∧ Fits C.k env0 objs0 st') Q)) (hsv : C.sv = [] := by rfl) : W C (.loop c) st Q := by
  refine W.weak env0 objs0 hf.1 hf.2.1 hf.2.2.1 hf.2.2.2 hsv (W.loop I n h0 (fun n st hI => (hr n st hI).mono fun e st' h => ?_) hsv)
  cases e with
  | normal =>
    obtain ⟨m, env0, objs0, h1, h2, h3⟩ := h
    exact ⟨m, h1, env0, objs0, h2, h3.1, h3.2.1, h3.2.2.1, h3.2.2.2⟩
  | _ => exact h
theorem W.fits {C : Ctx} {c : Code} {st : St} {Q : Exit → St → Prop} {env0 : List (Nat × AV)} {objs0 : List AObj} (hf : Fits C.k env0 objs0 st) (h : W C c ⟨env0, objs0⟩ Q) (hsv : C.sv = [] := by rfl) : W C c st Q :=
  W.weak env0 objs0 hf.1 hf.2.1 hf.2.2.1 hf.2.2.2 hsv h

theorem loadc_at {y : Ty} {cs : List AV} {i j : Nat} {av : AV} (hk : y.k.agg = false) (hj : j = i) (h : cs[i]? = some av) : loadc y (cs.drop j) 0 = some av := by
  subst hj
  simp [loadc, hk, List.getElem?_drop, h]

theorem Ext.of {P : Program} {f : FuncId} {fn : Func} {e : Array Value → Sem Value} (hf : P.funcs[f]? = some fn) (hb : fn.body.isNone = true) (hn : (fn.name == "runtime.NumGoroutine") = false) (hx : Extern.findNext fn = none) (he : Extern.find fn = some e)
    {args : List AV} {r : AV} (h : ∀ (H : View) (w : World) (vs : List Value), RelL w args H vs → ∃ v, (e vs.toArray).run P w = .ok v w ∧ RelV w r H v) : Ext P f args r := by
  intro H w vs hr
  obtain ⟨v, h1, h2⟩ := h H w vs hr
  refine ⟨v, ?_, h2⟩
  have hn' : ¬ (fn.name == "runtime.NumGoroutine") = true := by rw [hn]; simp
  unfold callFunc
  simp only [Sem.run_bind, run_program, Result.andThen_ok, hf, if_neg hn', hb, if_true, run_mark, hx, he, Sem.run_pure, h1]

theorem add64_row {P : Program} (x y c : Nat) (hc : c ≤ 1) (H : View) (w : World) (vs : List Value) (h : RelL w [.int .u64 x, .int .u64 y, .int .u64 c] H vs) :
    ∃ v, ((Extern.MathBitsCarry.rows[0]'(by decide)).2 vs.toArray).run P w = .ok v w ∧ RelV w (.tup [.int .u64 ((x + y + c) % 18446744073709551616 : Nat), .int .u64 ((x + y + c) / 18446744073709551616 : Nat)]) H v := by
  obtain ⟨v1, _, rfl, h1, v2, _, rfl, h2, v3, _, rfl, h3, rfl⟩ := h
  simp only [RelV] at h1 h2 h3
  subst h1; subst h2; subst h3
  have hc' : ¬ c > 1 := by omega
  refine ⟨.tuple #[.int .u64 ((x + y + c) % 18446744073709551616 : Nat), .int .u64 ((x + y + c) / 18446744073709551616 : Nat)], ?_, ⟨_, rfl, RelL_cons rfl (RelL_cons rfl RelL_nil)⟩⟩
  rcases (show c = 0 ∨ c = 1 by omega) with rfl | rfl <;> rfl
theorem sub64_row {P : Program} (x y c : Nat) (hc : c ≤ 1) (H : View) (w : World) (vs : List Value) (h : RelL w [.int .u64 x, .int .u64 y, .int .u64 c] H vs) :
    ∃ v, ((Extern.MathBitsCarry.rows[1]'(by decide)).2 vs.toArray).run P w = .ok v w ∧ RelV w (.tup [.int .u64 ((x + 18446744073709551616 - y - c) % 18446744073709551616 : Nat), .int .u64 (if x < y + c then 1 else 0 : Nat)]) H v := by
  obtain ⟨v1, _, rfl, h1, v2, _, rfl, h2, v3, _, rfl, h3, rfl⟩ := h
  simp only [RelV] at h1 h2 h3
  subst h1; subst h2; subst h3
  have hc' : ¬ c > 1 := by omega
  refine ⟨.tuple #[.int .u64 ((x + 18446744073709551616 - y - c) % 18446744073709551616 : Nat), .int .u64 (if x < y + c then 1 else 0 : Nat)], ?_, ⟨_, rfl, RelL_cons rfl (RelL_cons rfl RelL_nil)⟩⟩
  rcases (show c = 0 ∨ c = 1 by omega) with rfl | rfl <;> rfl

/-- a slice against nil, in a walk -/
theorem snil {C : Ctx} {ops : Array Oper} {o : Oper} {rest : List Oper} {env : List (Nat × AV)} {objs : List AObj} {Q : Exit → St → Prop} {t t' e : TypeId} {x : Operand} {y : Ty} {cs : List AV} {n d : Nat} (hop : o.op = .binOp .eql t x (.const (.slice none 0 0)) t')
    (hx : ev ⟨env, objs⟩ x = some (.row cs n)) (hy : C.T.at t = some y) (hk : y.k = .slice e) (hg : gd ops ⟨env, objs⟩ o = some true) (hd : o.dst = some d) (hlt : Nat.blt d C.nt = true)
    (h : ∀ b, (b = true → cs = []) → WL C ops rest ⟨(d, .bool b) :: env, objs⟩ Q) : WL C ops (o :: rest) ⟨env, objs⟩ Q :=
  WL.eqnil hop hx hy hk hg (fun t ht => by rw [hd] at ht; injection ht with ht; subst ht; exact Nat.le_of_ble_eq_true hlt) fun b hb => by rw [hd]; exact h b hb

/-- a call that is lent slices, which are given up -/
theorem sk {C : Ctx} {ops : Array Oper} {o : Oper} {rest : List Oper} {env : List (Nat × AV)} {objs objs' : List AObj} {Q : Exit → St → Prop} {x : Operand} {xs : Array Operand} {ts : Array TypeId} {f : FuncId} {fs cs avs avs' args args' : List AV} {r : AV} {L : List Nat} {d : Nat}
    (hs : Does C.P f args' r)
    (hop : o.op = .call { callee := .value x, args := xs, argTypes := ts }) (hx : ev ⟨env, objs⟩ x = some (.func (.func f) fs cs)) (hxs : evL ⟨env, objs⟩ xs.toList = some avs) (ha : fs ++ avs ++ cs = avs')
    (hp : PassL objs 0 avs' args L [] []) (he : args = args') (hr : r.plain = true)
    (hmine : ∀ o, o ∈ L → ∃ (ds : List AV) (ver esz : Nat) (e : TypeId), objs[o]? = some (AObj.cells ds ver esz true (some e))) (hkl : killL objs L = objs')
    (hg : gd ops ⟨env, objs⟩ o = some true) (hd : o.dst = some d) (hlt : Nat.blt d C.nt = true)
    (h : WL C ops rest ⟨(d, r) :: env, objs'⟩ Q) : WL C ops (o :: rest) ⟨env, objs⟩ Q := by
  subst ha; subst he; subst hkl
  exact WL.fnK hs hop hx hxs hp hr hmine hg (fun t ht => by rw [hd] at ht; injection ht with ht; subst ht; exact Nat.le_of_ble_eq_true hlt) (by rw [hd]; exact h)
/-- a call that is lent slices, which are kept -/
theorem sl {C : Ctx} {ops : Array Oper} {o : Oper} {rest : List Oper} {env : List (Nat × AV)} {objs : List AObj} {Q : Exit → St → Prop} {x : Operand} {xs : Array Operand} {ts : Array TypeId} {f : FuncId} {fs cs avs avs' args args' : List AV} {r : AV} {L : List Nat} {d : Nat}
    (hs : Does C.P f args' r)
    (hop : o.op = .call { callee := .value x, args := xs, argTypes := ts }) (hx : ev ⟨env, objs⟩ x = some (.func (.func f) fs cs)) (hxs : evL ⟨env, objs⟩ xs.toList = some avs) (ha : fs ++ avs ++ cs = avs')
    (hp : PassL objs 0 avs' args L [] []) (he : args = args') (hr : r.plain = true) (hr' : r.noRow = true)
    (hg : gd ops ⟨env, objs⟩ o = some true) (hd : o.dst = some d) (hlt : Nat.blt d C.nt = true)
    (h : WL C ops rest ⟨(d, r) :: env, objs⟩ Q) : WL C ops (o :: rest) ⟨env, objs⟩ Q := by
  subst ha; subst he
  exact WL.fnL hs hop hx hxs hp hr hr' hg (fun t ht => by rw [hd] at ht; injection ht with ht; subst ht; exact Nat.le_of_ble_eq_true hlt) (by rw [hd]; exact h)
theorem one_mine {objs : List AObj} {o : Nat} {ds : List AV} {ver esz : Nat} {e : TypeId} (h : objs[o]? = some (AObj.cells ds ver esz true (some e))) : ∀ o', o' ∈ [o] → ∃ (ds : List AV) (ver esz : Nat) (e : TypeId), objs[o']? = some (AObj.cells ds ver esz true (some e)) := by
  intro o' ho'
  simp only [List.mem_singleton] at ho'
  subst ho'
  exact ⟨_, _, _, _, h⟩

/-! ### numbers from 0 on -/
theorem v_addN {C : Ctx} {o : Oper} {st : St} {x y : Operand} {t t' : TypeId} {a b : Nat} (hop : o.op = .binOp .add t x y t') (hx : ev st x = some (.int .u64 (a : Int))) (hy : ev st y = some (.int .u64 (b : Int)))
    (h : a + b ≤ 18446744073709551615) : VStep C o st (.int .u64 ((a + b : Nat) : Int)) st.objs := by
  refine v_bin hop hx hy ?_
  simp only [binAV, isShift, intAV, Bool.false_eq_true, if_false, if_true]
  rw [wrap_u64_id (by omega) (by omega), Int.natCast_add]
theorem v_mulN {C : Ctx} {o : Oper} {st : St} {x y : Operand} {t t' : TypeId} {a b : Nat} (hop : o.op = .binOp .mul t x y t') (hx : ev st x = some (.int .u64 (a : Int))) (hy : ev st y = some (.int .u64 (b : Int)))
    (h : a * b ≤ 18446744073709551615) : VStep C o st (.int .u64 ((a * b : Nat) : Int)) st.objs := by
  refine v_bin hop hx hy ?_
  simp only [binAV, isShift, intAV, Bool.false_eq_true, if_false, if_true]
  rw [← Int.natCast_mul, wrap_u64_id (by omega) (by omega)]
theorem v_mulW {C : Ctx} {o : Oper} {st : St} {x y : Operand} {t t' : TypeId} {a b : Nat} (hop : o.op = .binOp .mul t x y t') (hx : ev st x = some (.int .u64 (a : Int))) (hy : ev st y = some (.int .u64 (b : Int))) :
    VStep C o st (.int .u64 ((a * b % 18446744073709551616 : Nat) : Int)) st.objs := by
  refine v_bin hop hx hy ?_
  simp only [binAV, isShift, intAV, Bool.false_eq_true, if_false, if_true]
  rw [← Int.natCast_mul, IntKind.wrap_u64, Int.natCast_emod]
  rfl
theorem v_subN {C : Ctx} {o : Oper} {st : St} {x y : Operand} {t t' : TypeId} {a b : Nat} (hop : o.op = .binOp .sub t x y t') (hx : ev st x = some (.int .u64 (a : Int))) (hy : ev st y = some (.int .u64 (b : Int)))
    (ha : a ≤ 18446744073709551615) (h : b ≤ a) : VStep C o st (.int .u64 ((a - b : Nat) : Int)) st.objs := by
  refine v_bin hop hx hy ?_
  simp only [binAV, isShift, intAV, Bool.false_eq_true, if_false, if_true]
  rw [wrap_u64_id (by omega) (by omega), Int.natCast_sub h]
theorem v_shrN {C : Ctx} {o : Oper} {st : St} {x y : Operand} {t t' : TypeId} {k' : IntKind} {a : Nat} (b : Nat) (hop : o.op = .binOp .shr t x y t') (hx : ev st x = some (.int .u64 (a : Int))) (hy : ev st y = some (.int k' (b : Int)))
    (hb : b ≤ 64) : VStep C o st (.int .u64 ((a / 2 ^ b : Nat) : Int)) st.objs := by
  refine v_bin hop hx hy ?_
  simp only [binAV, isShift, shAV, if_true]
  rw [if_neg (by omega)]
  have : min (b : Int).toNat IntKind.u64.bits = b := by simp [IntKind.bits]; omega
  rw [this, Int.fdiv_eq_ediv_of_nonneg _ (by exact_mod_cast Nat.zero_le _)]
  congr 2
theorem v_maskN {C : Ctx} {o : Oper} {st : St} {x y : Operand} {t t' : TypeId} {a : Nat} {m : Int} (i : Nat) (hop : o.op = .binOp .and t x y t') (hx : ev st x = some (.int .u64 (a : Int))) (hy : ev st y = some (.int .u64 m))
    (ha : a ≤ 18446744073709551615) (hi : i ≤ 64) (hm : m = 2 ^ i - 1) : VStep C o st (.int .u64 ((a % 2 ^ i : Nat) : Int)) st.objs := by
  refine v_bin hop hx hy ?_
  subst hm
  simp only [binAV, isShift, intAV, Bool.false_eq_true, if_false, if_true]
  rw [bits_mask .u64 64 (by decide) (fun n h0 h1 => wrap_u64_id h0 (by omega)) i hi a (by omega) (by omega)]
  congr 2

/-! ### functions that write what they are handed -/
theorem doesR {P : Program} {T : Tab} (ok : TabOK P T) {f : FuncId} {fn : Func} {c : Code} (hf : P.funcs[f]? = some fn) (hb : fn.body = some c) (hname : (fn.name == "runtime.NumGoroutine") = false)
    {nt : Nat} (hnt : fn.ntmps = nt) {rs : List ResultVar} (hrs : fn.results.toList = rs) {args : List AV} (hlen : Nat.ble args.length nt = true) {objs : List AObj} (hm : objs.all (fun ob => !ob.mine && ob.live) = true) {Q : AV → List AObj → Prop}
    (h : ∀ w0 H0 hk hj, W ⟨P, T, ok, nt, w0, objs.length, H0, lnOf objs, hk, hj, []⟩ c ⟨envOf 0 args, objs⟩ (Fin T rs objs.length Q)) : Spec P f args objs Q :=
  Spec.of_W ok hf hb hname hnt hrs (Nat.le_of_ble_eq_true hlen) (fun ob hob => by
    rw [List.all_eq_true] at hm
    have := hm ob hob
    simpa using this) h

theorem sr {C : Ctx} {ops : Array Oper} {o : Oper} {rest : List Oper} {env : List (Nat × AV)} {objs : List AObj} {Q : Exit → St → Prop} {x : Operand} {xs : Array Operand} {ts : Array TypeId} {f : FuncId} {fs cs avs avs' args args' : List AV} {r : AV} {d ob off esz ver : Nat}
    {ds0 ds1 ds : List AV} {R : List AV → Prop} {flat : Bool} {own : Option TypeId} {esz' : Nat}
    (hs : Spec C.P f args' [.cells ds0 0 esz true none] (fun r' os => r' = r ∧ ∃ ds', R ds' ∧ os = [.cells ds' 0 esz true none]))
    (hop : o.op = .call { callee := .value x, args := xs, argTypes := ts }) (hx : ev ⟨env, objs⟩ x = some (.func (.func f) fs cs)) (hxs : evL ⟨env, objs⟩ xs.toList = some avs) (ha : fs ++ avs ++ cs = avs')
    (hp : PassL objs 0 avs' args [] [(ob, off)] [.cells ds1 0 esz true none]) (he : args = args') (he1 : ds1 = ds0) (hob : objs[ob]? = some (.cells ds ver esz' flat own)) (hr : r.plain = true) (hr' : r.noRow = true) (hR : ∀ ds', R ds' → noRowL ds' = true)
    (hg : gd ops ⟨env, objs⟩ o = some true) (hd : o.dst = some d) (hlt : Nat.blt d C.nt = true)
    (h : ∀ ds', R ds' → ∃ cs2 objs2, splice ds off ds' = cs2 ∧ objs.set ob (.cells cs2 ver esz' flat own) = objs2 ∧ WL C ops rest ⟨(d, r) :: env, objs2⟩ Q) : WL C ops (o :: rest) ⟨env, objs⟩ Q := by
  subst ha; subst he; subst he1
  refine WL.call false hs hop hx hxs hp (by simp) (by simp) (by simp) hg (fun t ht => by rw [hd] at ht; injection ht with ht; subst ht; exact Nat.le_of_ble_eq_true hlt) ?_
  rintro r' O' ⟨rfl, ds', hds, rfl⟩
  refine ⟨fun i _ _ _ _ _ hi => ?_, AV.ge_plain _ _ hr, fun i ob' hi hi' => ?_, .inr ⟨hr', by simpa [AObj.noRow] using hR ds' hds⟩, ?_⟩
  · cases i with
    | zero => simp at hi; obtain ⟨rfl, rfl, rfl, rfl, rfl⟩ := hi; exact ⟨ds', 0, _, none, rfl, fun h => by cases h⟩
    | succ i => simp at hi
  · have : i = 0 ∨ 1 ≤ i := by omega
    rcases this with rfl | h
    · simp at hi
    · rw [List.getElem?_eq_none (by simpa using h)] at hi'; cases hi'
  · obtain ⟨_, _, rfl, rfl, this⟩ := h ds' hds
    simp only [wb, Bool.false_eq_true, if_false, AV.up_plain _ _ _ hr, hd, St.put, List.length_cons, List.length_nil, List.drop_succ_cons, List.drop_nil, List.map_nil, List.append_nil, List.getD, hob, Option.getD_some, mergeO]
    exact this

/-- a truth value, each way -/
theorem spb {C : Ctx} {ops : Array Oper} {o : Oper} {rest : List Oper} {env : List (Nat × AV)} {objs : List AObj} {Q : Exit → St → Prop} {p : Bool} {d : Nat} (hs : VStep C o ⟨env, objs⟩ (.bool p) objs) (hg : gd ops ⟨env, objs⟩ o = some true)
    (hd : o.dst = some d) (hlt : Nat.blt d C.nt = true) (h1 : p = true → WL C ops rest ⟨(d, .bool true) :: env, objs⟩ Q) (h2 : p = false → WL C ops rest ⟨(d, .bool false) :: env, objs⟩ Q) : WL C ops (o :: rest) ⟨env, objs⟩ Q := by
  cases p with
  | true => exact sp hs hg hd hlt (h1 rfl)
  | false => exact sp hs hg hd hlt (h2 rfl)
theorem scb {C : Ctx} {ops : Array Oper} {o : Oper} {rest : List Oper} {env : List (Nat × AV)} {objs : List AObj} {Q : Exit → St → Prop} {x : Operand} {xs : Array Operand} {ts : Array TypeId} {f : FuncId} {fs cs avs avs' : List AV} {p : Bool} {d : Nat}
    (hs : Does C.P f avs' (.bool p))
    (hop : o.op = .call { callee := .value x, args := xs, argTypes := ts }) (hx : ev ⟨env, objs⟩ x = some (.func (.func f) fs cs)) (hxs : evL ⟨env, objs⟩ xs.toList = some avs) (ha : fs ++ avs ++ cs = avs')
    (hp : plainL avs' = true)
    (hg : gd ops ⟨env, objs⟩ o = some true) (hd : o.dst = some d) (hlt : Nat.blt d C.nt = true)
    (h1 : p = true → WL C ops rest ⟨(d, .bool true) :: env, objs⟩ Q) (h2 : p = false → WL C ops rest ⟨(d, .bool false) :: env, objs⟩ Q) : WL C ops (o :: rest) ⟨env, objs⟩ Q := by
  refine sc hs hop hx hxs ha hp rfl hg hd hlt ?_
  cases p with
  | true => exact h1 rfl
  | false => exact h2 rfl
theorem DrawFrom.stepB {C : Ctx} {ops : Array Oper} {ds : List Nat} {env : List (Nat × AV)} {objs : List AObj} {Q : Exit → St → Prop} {o : Oper} {os : List Oper} {d : Nat} {dr : List Nat} {E : List AV} {p : Bool}
    (h : DrawStep C ops o (depEnv ds E (depsOf o) ++ clean ds env) objs (.bool p)) (h1 : p = true → DrawFrom C ops ds env objs Q os dr (E ++ [.bool true])) (h2 : p = false → DrawFrom C ops ds env objs Q os dr (E ++ [.bool false])) : DrawFrom C ops ds env objs Q (o :: os) (d :: dr) E := by
  cases p with
  | true => exact .step h (h1 rfl)
  | false => exact .step h (h2 rfl)

/-- the same, what is known told in a form that is worked off at once -/
theorem W.drawnR {C : Ctx} {id : Nat} {ops : Array Oper} {env : List (Nat × AV)} {objs : List AObj} {Q : Exit → St → Prop} (hmix : C.P.follows .mixedOrders = true) (ds : List Nat) (hchk : drawOK ops ds = true)
    (h : DrawFrom C ops ds env objs Q ops.toList ds (List.reverse [])) : W C (.region id ops true) ⟨env, objs⟩ Q := W.drawn hmix ds hchk h
theorem DrawFrom.stepR {C : Ctx} {ops : Array Oper} {ds : List Nat} {env : List (Nat × AV)} {objs : List AObj} {Q : Exit → St → Prop} {o : Oper} {os : List Oper} {d : Nat} {dr : List Nat} {R : List AV} {c : AV}
    (h : DrawStep C ops o (depEnv ds R.reverse (depsOf o) ++ clean ds env) objs c) (h' : DrawFrom C ops ds env objs Q os dr (c :: R).reverse) : DrawFrom C ops ds env objs Q (o :: os) (d :: dr) R.reverse :=
  .step h (by simpa using h')
theorem DrawFrom.stepRB {C : Ctx} {ops : Array Oper} {ds : List Nat} {env : List (Nat × AV)} {objs : List AObj} {Q : Exit → St → Prop} {o : Oper} {os : List Oper} {d : Nat} {dr : List Nat} {R : List AV} {p : Bool}
    (h : DrawStep C ops o (depEnv ds R.reverse (depsOf o) ++ clean ds env) objs (.bool p)) (h1 : p = true → DrawFrom C ops ds env objs Q os dr (.bool true :: R).reverse) (h2 : p = false → DrawFrom C ops ds env objs Q os dr (.bool false :: R).reverse) :
    DrawFrom C ops ds env objs Q (o :: os) (d :: dr) R.reverse :=
  .stepB h (fun e => by simpa using h1 e) (fun e => by simpa using h2 e)
theorem DrawFrom.doneR {C : Ctx} {ops : Array Oper} {ds : List Nat} {env env' : List (Nat × AV)} {objs : List AObj} {Q : Exit → St → Prop} {l : List Oper} {R : List AV} (he : ds.zip R.reverse ++ env = env')
    (h : WL C ops l ⟨env', objs⟩ Q) : DrawFrom C ops ds env objs Q l [] R.reverse := .done (he ▸ h)

theorem v_nilCheck {C : Ctx} {o : Oper} {env : List (Nat × AV)} {objs : List AObj} {x : Operand} {ob ver i esz : Nat} {cs : List AV} {flat : Bool} {own : Option TypeId} (hop : o.op = .nilCheck x) (hx : ev ⟨env, objs⟩ x = some (.ptr ob ver i)) (hob : objs[ob]? = some (.cells cs ver esz flat own)) :
    VStep C o ⟨env, objs⟩ (.ptr ob ver i) objs := by
  refine VStep.of_pure (st := ⟨env, objs⟩) fun H a w hi => ?_
  have hr := ev_rel hi hx
  obtain ⟨h1, h2, h3⟩ := hr
  have h4 := h3 (hi.objs.rel ob _ hob).1
  refine ⟨_, ?_, h1, h2, h3⟩
  rw [h4]
  simp [execOp, hop, h4]

theorem splice_self {α : Type} (ds : List α) : splice ds 0 ds = ds := by simp [splice]
/-- a call that is handed an object, which it leaves as it is -/
theorem srp {C : Ctx} {ops : Array Oper} {o : Oper} {rest : List Oper} {env : List (Nat × AV)} {objs : List AObj} {Q : Exit → St → Prop} {x : Operand} {xs : Array Operand} {ts : Array TypeId} {f : FuncId} {fs cs avs avs' args args' : List AV} {r : AV} {d ob ver esz' : Nat}
    {ds0 ds1 : List AV} {flat : Bool} {own : Option TypeId}
    (hs : Spec C.P f args' [.cells ds0 0 1 flat none] (fun r' os => r' = r ∧ os = [.cells ds0 0 1 flat none]))
    (hop : o.op = .call { callee := .value x, args := xs, argTypes := ts }) (hx : ev ⟨env, objs⟩ x = some (.func (.func f) fs cs)) (hxs : evL ⟨env, objs⟩ xs.toList = some avs) (ha : fs ++ avs ++ cs = avs')
    (hob : objs[ob]? = some (.cells ds0 ver esz' flat own)) (hp : PassL objs 0 avs' args [] [(ob, 0)] [.cells ds1 0 1 flat none]) (he : args = args') (he1 : ds1 = ds0) (hr : r.plain = true) (hr' : r.noRow = true) (hR : noRowL ds0 = true) (hpl : plainL ds0 = true)
    (hg : gd ops ⟨env, objs⟩ o = some true) (hd : o.dst = some d) (hlt : Nat.blt d C.nt = true)
    (h : WL C ops rest ⟨(d, r) :: env, objs⟩ Q) : WL C ops (o :: rest) ⟨env, objs⟩ Q := by
  subst ha; subst he; subst he1
  refine WL.call false hs hop hx hxs hp (by simp) (by simp) (by simp) hg (fun t ht => by rw [hd] at ht; injection ht with ht; subst ht; exact Nat.le_of_ble_eq_true hlt) ?_
  rintro r' O' ⟨rfl, rfl⟩
  refine ⟨fun i _ _ _ _ _ hi => ?_, AV.ge_plain _ _ hr, fun i ob' hi hi' => ?_, .inr ⟨hr', by simpa [AObj.noRow] using hR⟩, ?_⟩
  · cases i with
    | zero => simp at hi; obtain ⟨rfl, rfl, rfl, rfl, rfl⟩ := hi; exact ⟨ds1, 0, _, none, rfl, fun h => hpl⟩
    | succ i => simp at hi
  · have : i = 0 ∨ 1 ≤ i := by omega
    rcases this with rfl | h
    · simp at hi
    · rw [List.getElem?_eq_none (by simpa using h)] at hi'; cases hi'
  · have hset : objs.set ob (.cells ds1 ver esz' flat own) = objs := by
      apply List.ext_getElem?
      intro j
      by_cases e : ob = j
      · subst e
        rw [List.getElem?_set_self (List.getElem?_eq_some_iff.1 hob).1, hob]
      · rw [List.getElem?_set_ne e]
    simp only [wb, Bool.false_eq_true, if_false, AV.up_plain _ _ _ hr, hd, St.put, List.length_cons, List.length_nil, List.drop_succ_cons, List.drop_nil, List.map_nil, List.append_nil, List.getD, hob, Option.getD_some, mergeO, splice_self, hset]
    exact h
/-- the end of a function that hands back plain values, and leaves what it was handed -/
theorem finR {T : Tab} {rs : List ResultVar} {st : St} {cs cs' : List AV} {r : AV} {objs : List AObj} (h : resAV T st rs = some cs) (hp : PackL st.objs objs.length [] 0 cs cs' []) (ho : st.objs.take objs.length = objs)
    (hpl : ∀ ob, ob ∈ objs → match ob with | .cells ds _ _ false _ => plainL ds = true | _ => True) (hr : tupAV cs' = r) : Fin T rs objs.length (fun r' os => r' = r ∧ os = objs) .ret st :=
  ⟨.inl rfl, cs, cs', [], h, hp, List.nodup_nil, fun ob hob => hpl ob (by rwa [ho] at hob), hr, by simp [ho]⟩

theorem resAV_cell {T : Tab} {st : St} {a : Nat} {t : TypeId} {r : List ResultVar} {cs ds : List AV} {o ver i esz : Nat} {flat : Bool} {own : Option TypeId} {y : Ty} {c : AV} (h1 : look st.env a = some (.ptr o ver i)) (h2 : st.objs[o]? = some (.cells ds ver esz flat own))
    (h3 : T.at t = some y) (h4 : loadc y ds i = some c) (h5 : resAV T st r = some cs) : resAV T st (.cell a t :: r) = some (c :: cs) := by
  simp [resAV, h1, h2, h3, h4, h5]

/-- a place at which all ways meet again -/
theorem W.cut {C : Ctx} {c : Code} {st : St} {Q : Exit → St → Prop} (env1 : List (Nat × AV)) (objs1 : List AObj) (h : W C c st (fun e s => e = .normal ∧ Fits C.k env1 objs1 s)) (h2 : Q .normal ⟨env1, objs1⟩) (hsv : C.sv = [] := by rfl) : W C c st Q := by
  intro a w hr
  refine wp_mono (h a w hr) fun e a' w' hp => ?_
  obtain ⟨s, ⟨he, hf⟩, hr'⟩ := hp
  subst he
  exact ⟨_, h2, hr'.weak hf.1 hf.2.1 hf.2.2.1 hf.2.2.2 hsv⟩

end Go.Lens
