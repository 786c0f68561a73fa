/- Lens, part 21: jumps back to a label; calls that tell a predicate of their result, and calls that hand back a slice of their own. chattelref20.Make. law 20: BookSums. law 20: BookUpto. law 20: BookApart. -/
import Derived.Test.YtehoobhbginahaaGreatDoorKBP10
import Derived.ScopeJumps

set_option linter.unusedVariables false
set_option linter.unusedSimpArgs false
namespace Go.Lens
open Go Go.RowKit
/-! ### jumps -/
/-! ### calls -/
/-- a function that hands back a slice of its own -/
def Owns (P : Program) (f : FuncId) (args : List AV) (cs : List AV) (n : Nat) (full : Bool) (esz : Nat) (e : TypeId) : Prop :=
  Spec P f args [] (fun r os => r = .sl 0 0 0 n full ∧ os = [.cells cs 0 esz true (some e)])
theorem finO {T : Tab} {rs : List ResultVar} {st : St} {o ver esz n : Nat} {full : Bool} {cs : List AV} {e : TypeId} (h : resAV T st rs = some [.sl o ver 0 n full]) (hob : st.objs[o]? = some (.cells cs ver esz true (some e))) :
  Fin T rs 0 (fun r' os => r' = .sl 0 0 0 n full ∧ os = [.cells cs 0 esz true (some e)]) .ret st := by
 refine ⟨.inl rfl, _, _, [o], h, .own hob .nil, by simp, fun ob hob => by simp at hob, rfl, ?_⟩
 simp [List.getD, hob, AObj.fresh]
theorem doesX {P : Program} {T : Tab} (ok : TabOK P T) {f : FuncId} {fn : Func} {c : Code} (hf : P.funcs[f]? = some fn) (hb : fn.body = some c) (hname : (fn.name == "runtime.NumGoroutine") = false)
  {nt : Nat} (hnt : fn.ntmps = nt) {rs : List ResultVar} (hrs : fn.results.toList = rs) {args : List AV} (hlen : Nat.ble args.length nt = true) {Q : AV → List AObj → Prop}
  (h : ∀ w0 H0 hk hj, W ⟨P, T, ok, nt, w0, 0, H0, lnOf [], hk, hj, []⟩ c ⟨envOf 0 args, []⟩ (Fin T rs 0 Q)) : Spec P f args [] Q :=
 Spec.of_W ok hf hb hname hnt hrs (Nat.le_of_ble_eq_true hlen) (fun _ h => by cases h) h
/-- the same, into a place that is kept free -/
theorem soS {C : Ctx} {ops : Array Oper} {o : Oper} {rest : List Oper} {env : List (Nat × AV)} {objs : List AObj} {Q : Exit → St → Prop} {x : Operand} {xs : Array Operand} {ts : Array TypeId} {f : FuncId} {fs cs avs avs' : List AV} {d n esz j : Nat} {full : Bool} {e : TypeId} {ds : List AV}
  (hs : Owns C.P f avs' ds n full esz e) (hjs : objs[j]? = some .slot) (hjk : C.k ≤ j)
  (hop : o.op = .call { callee := .value x, args := xs, argTypes := ts }) (hx : ev ⟨env, objs⟩ x = some (.func (.func f) fs cs)) (hxs : evL ⟨env, objs⟩ xs.toList = some avs) (ha : fs ++ avs ++ cs = avs')
  (hp : plainL avs' = true)
  (hg : gd ops ⟨env, objs⟩ o = some true) (hd : o.dst = some d) (hlt : Nat.blt d C.nt = true)
  (h : WL C ops rest ⟨(d, .sl j 1 0 n full) :: env, objs.set j (.cells ds 1 esz true (some e))⟩ Q) : WL C ops (o :: rest) ⟨env, objs⟩ Q := by
 subst ha
 intro a w ⟨H, hi⟩
 obtain ⟨vs, hrun, hrel⟩ := run_call hi hop hx hxs hs.1
 unfold wpList
 rw [gd_rel hg hi, if_pos rfl]
 refine .inl ?_
 unfold Oper.wp
 rw [hrun]
 simp only [Oper.upon]
 have hpl : PassL objs 0 (fs ++ avs ++ cs) (fs ++ avs ++ cs) [] [] [] := PassL.of_plain hp
 have hO := hi.objs.callee hpl (by simp) (by simp)
 have hra : RelL w (fs ++ avs ++ cs) (H.callee [] []) vs := by
  refine hpl.rel (Hc := H.callee [] []) hi.objs (fun b _ hb => hb.1) [] rfl rfl (fun o ho hw => hw.2 o ho rfl) (fun i o off hio => by simp at hio) hrel
 refine (hs.2 _ w vs hO hra).mono fun e' w' ⟨r, O', H', v, he, ⟨hr, hos⟩, hrv, hl⟩ => ?_
 subst he; subst hr; subst hos
 have hn : H.n = objs.length := hi.objs.n
 have hjl : j < objs.length := (List.getElem?_eq_some_iff.1 hjs).1
 have hv0 : H.ver j = 0 := hi.objs.rel j _ hjs
 have hwc : ∀ b, b < w.heap.size → (H'.wr b ↔ H.wr b) := fun b hb => (hl.wr b hb).trans ⟨fun h => h.1, fun h => ⟨h, fun o ho => by cases ho⟩⟩
 have hz0 := hl.ok.rel 0 (.cells ds 0 esz true (some e)) rfl
 have hnew : w.heap.size ≤ H'.blk 0 := hl.new 0 _ (by simp) rfl rfl
 let J : View := { n := H.n, blk := fun o => if o = j then H'.blk 0 else H.blk o, off := fun o => if o = j then H'.off 0 else H.off o, cap := fun o => if o = j then H'.cap 0 else H.cap o, ver := fun o => if o = j then 1 else H.ver o, wr := H'.wr }
 have hfrm : ∀ b, b < w.heap.size → w'.heap[b]? = w.heap[b]? := fun b hb => hl.frame b hb fun o ob ho => by simp at ho
 have hK : Keeps w H w' J := by
  refine ⟨fun ad u hcell hx => ?_, fun b hb h => (hwc b hb).1 h, Nat.le_refl _, fun o' ho' => ?_, fun o' ho' hvv => ?_⟩
  ·rw [World.cell?_of_block (w := w) (hfrm _ (World.block_lt_of_cell? w ad hcell))]; exact hcell
  ·by_cases e : o' = j
   ·subst e; simp [J, hv0]
   ·simp [J, e]
  ·by_cases e : o' = j
   ·subst e; simp [J, hv0] at hvv
   ·simp [J, e]
 have hget : ∀ i ob, (objs.set j (.cells ds 1 esz true (some e)))[i]? = some ob → (i = j ∧ ob = .cells ds 1 esz true (some e)) ∨ (i ≠ j ∧ objs[i]? = some ob) := by
  intro i ob hob
  by_cases e : i = j
  ·subst e
   rw [List.getElem?_set_self hjl] at hob
   injection hob with hob
   exact .inl ⟨rfl, hob.symm⟩
  ·rw [List.getElem?_set_ne (Ne.symm e)] at hob
   exact .inr ⟨e, hob⟩
 have hlive : ∀ i ob, objs[i]? = some ob → ob.live = true → H.blk i < w.heap.size := fun i ob h1 h2 => hi.objs.lt _ (hi.objs.wr_blk h1 h2)
 have hinv : Inv C J ⟨env, objs.set j (.cells ds 1 esz true (some e))⟩ a w' := by
  refine hi.move (objs' := objs.set j (.cells ds 1 esz true (some e))) hK ⟨by simp [J, hn], fun i ob hob => ?_, fun i i' ob ob' h1 h2 l1 l2 hb => ?_, fun b hb => hl.ok.lt b hb⟩ (fun b hb => hwc b (Nat.lt_of_lt_of_le hb hi.le)) (by have := hi.klen; simp at this ⊢; omega) (fun x hx => by simp [J, show x ≠ j by omega]) (fun x cs ver esz flat own hx hob => ?_) (fun x hx => Outside.of_eq (hfrm _ (Nat.lt_of_lt_of_le (C.hk x hx) hi.le)) _ _) (fun i ob hob hl' => ?_) (fun b hb _ => hfrm b (Nat.lt_of_lt_of_le hb hi.le)) hl.size hl.os hl.tape hl.output
  ·rcases hget i ob hob with ⟨rfl, rfl⟩ | ⟨hne, hob⟩
   ·obtain ⟨_, q1, vs0, c0, e0, q2, q3, q4, q5⟩ := hz0
    refine ⟨by simp [J], by simpa [J] using q1, vs0, c0, e0, by simpa [J] using q2, ?_, by simpa [J] using q4, by simpa [J] using q5⟩
    exact RelL.keeps (w := w') (H := H'.flatIf true) (H' := J.flatIf true) _ ⟨fun _ _ h _ => h, fun b _ h => h, Nat.le_refl _, fun o ho => absurd ho (Nat.not_lt_zero _), fun o ho => absurd ho (Nat.not_lt_zero _)⟩ q3
   ·by_cases hlv : ob.live = true
    ·exact (hi.objs.rel i ob hob).keeps hK (by simp [J, hne]) (by simp [J, hne]) (by simp [J, hne]) (by simp [J, hne]) (fun h => (hwc _ (hlive i ob hob hlv)).2 h) (hfrm _ (hlive i ob hob hlv))
    ·cases ob <;> first | trivial | (simp [AObj.live] at hlv; done) | (have := hi.objs.rel i _ hob; simpa [RelO, J, hne] using this)
  ·rcases hget i ob h1 with ⟨e1, rfl⟩ | ⟨n1, g1⟩ <;> rcases hget i' ob' h2 with ⟨e2, rfl⟩ | ⟨n2, g2⟩
   ·rw [e1, e2]
   ·simp only [J, if_pos e1, if_neg n2] at hb
    have := hlive _ _ g2 l2; omega
   ·simp only [J, if_pos e2, if_neg n1] at hb
    have := hlive _ _ g1 l1; omega
   ·simp only [J, if_neg n1, if_neg n2] at hb
    exact hi.objs.inj _ _ _ _ g1 g2 l1 l2 hb
  ·rcases hget x _ hob with ⟨rfl, _⟩ | ⟨_, hob⟩
   ·omega
   ·exact hi.lens x cs ver esz flat own hx hob
  ·rcases hget i ob hob with ⟨rfl, _⟩ | ⟨hne, hob⟩
   ·exact .inr (by simp only [J, if_true]; have := hi.le; omega)
   ·simp only [J, if_neg hne]; exact hi.own i ob hob hl'
 have hval : RelV w' (.sl j 1 0 n full) J v := by
  obtain ⟨_, _, q3⟩ := hrv
  obtain ⟨ad, c, q4, q5, q6, q7⟩ := q3 hz0.1
  refine ⟨by simp [J, hn]; omega, by simp [J], fun _ => ⟨ad, c, q4, q5, ?_, ?_⟩⟩
  ·simpa [J] using q6
  ·simpa [J] using q7
 have := hinv.put o.dst (fun t ht => by rw [hd] at ht; injection ht with ht; subst ht; exact Nat.le_of_ble_eq_true hlt) hval
 rw [hd] at this
 refine h _ _ ⟨J, ?_⟩
 rw [hd]
 exact this
end Go.Lens

set_option linter.unusedVariables false
set_option linter.unusedSimpArgs false
namespace Go.Proofs.YtehoobhbginahaaGreatDoor
open Go Go.Lens
theorem u8s_get {l : List Nat} {i : Nat} (h : i < l.length) : (u8s l).drop i = .int .u8 ((l.getD i 0 : Nat) : Int) :: u8s (l.drop (i + 1)) := by
 have h1 : (u8s l).drop i = u8s (l.drop i) := by simp [u8s, List.map_drop]
 rw [h1, List.drop_eq_getElem_cons h, List.getD_eq_getElem?_getD, List.getElem?_eq_getElem h]
 rfl
theorem u32s_get {l : List Nat} {i : Nat} (h : i < l.length) : (u32s l).drop i = .int .u32 ((l.getD i 0 : Nat) : Int) :: u32s (l.drop (i + 1)) := by
 have h1 : (u32s l).drop i = u32s (l.drop i) := by simp [u32s, List.map_drop]
 rw [h1, List.drop_eq_getElem_cons h, List.getD_eq_getElem?_getD, List.getElem?_eq_getElem h]
 rfl
theorem u8s_ne {l : List Nat} (h : 0 < l.length) : u8s l ≠ [] := fun e => by
 have : (u8s l).length = 0 := by rw [e]; rfl
 simp [u8s] at this
 subst this
 simp at h
theorem u32s_ne {l : List Nat} (h : 0 < l.length) : u32s l ≠ [] := fun e => by
 have : (u32s l).length = 0 := by rw [e]; rfl
 simp [u32s] at this
 subst this
 simp at h
theorem getD_lt {l : List Nat} {i B : Nat} (h : i < l.length) (hB : ∀ x ∈ l, x < B) : l.getD i 0 < B :=
 hB _ (by rw [List.getD_eq_getElem?_getD, List.getElem?_eq_getElem h]; exact List.getElem_mem h)
def dtO (x : Dt) : AObj := .cells [.int .i64 x.1, .int .i64 x.2.1, .int .i64 x.2.2] 0 1 false none
def rawO (z : RawE) : AObj := .cells [.int .i64 z.a, .int .i64 z.b, .int .i64 z.c, .row (u8s z.dys) z.dys.length, .row (u8s z.acs) z.acs.length, .row (u32s z.ams) z.ams.length] 0 1 false none
theorem itT_ok {x : Dt} (h : rightT x) (n : Nat) (hn : ordT x + 4 * n < 9999 * 372) : (1 ≤ (itT n x).1 ∧ (itT n x).1 ≤ 9999) ∧ (1 ≤ (itT n x).2.1 ∧ (itT n x).2.1 ≤ 12) ∧ 1 ≤ (itT n x).2.2 ∧ (itT n x).2.2 ≤ 31 := by
 have h1 := (itT_right h n hn).1
 have h2 := rightT_days h1
 exact ⟨h1.1, h1.2.1, h1.2.2.1, by have := h1.2.2.2; omega⟩
/-- what is kept when Make comes to its end -/
def MakeEnd (z : RawE) : Exit → St → Prop := fun e st => e = .ret ∧ Lens.look st.env 2 = some (gV 0 (mkN z)) ∧ st.objs[0]? = some (gO 34 6 (ensAV (mkL z (mkN z))) (mkN z))
theorem make20_W {w0 : World} {H0 : View} {hk : ∀ o, o < 0 → H0.blk o < w0.heap.size} {hj : ∀ x o, x < 0 → o < 0 → H0.blk x = H0.blk o → x = o} (z : RawE) (hz : RawOK z) :
  ∀ c, Tryz.f8.body = some c → W ⟨Tryz.prog, tab, tab_ok, Tryz.f8.ntmps, w0, 0, H0, lnOf [], hk, hj, []⟩ c ⟨envOf 0 [rawAV z], []⟩ (MakeEnd z) := by
 intro c hc
 obtain rfl := Option.some.inj hc
 have hmk := make9990_spec z.a z.b z.c
 refine W.slots 1 (show W _ _ ⟨_, [.slot]⟩ _ from ?_)
 refine W.seq (W.region ?_)
 first | refine z_B 1 [_, _] ?_ | refine sn (a_box rfl rfl (.inr ⟨trivial, rfl⟩)) (rfl : _ = AV.ptr 1 0 0) (rfl : _ = [_, _]) rfl rfl rfl ?_
 refine z_p ?_
 refine WL.nil ?_
 refine W.seq (W.region ?_)
 refine z_p ?_
 refine WL.nil ?_
 refine W.seq (W.region ?_)
 first | refine z_f ?_ | refine z_g ?_
 refine sq (v_load rfl rfl rfl rfl rfl) (show _ = AV.agg [.int .i64 z.a, .int .i64 z.b, .int .i64 z.c] from rfl) rfl rfl rfl ?_
 refine z_c (hmk) ?_
 refine z_a 2 [_, _, _] ?_
 refine z_s [_, _, _] ?_
 refine WL.nil ?_
 refine W.seq (W.seq (W.region ?_))
 refine z_p ?_
 refine WL.nil ?_
 refine W.block ?_
 refine W.while (fun n st => ∃ i, i ≤ mkN z ∧ n = mkN z - i ∧ st = ⟨[(1, .ptr 1 0 0), (3, gV 0 i), (4, .ptr 2 0 0), (5, .int .i64 (i : Nat))], [gO 34 6 (ensAV (mkL z i)) i, rawO z, dtO (mkAt z i)]⟩) (mkN z)
  ⟨0, Nat.zero_le _, rfl, rfl⟩ (by refine ⟨?_, ?_, rfl, Nat.le_of_ble_eq_true rfl⟩ <;> repeat (first | exact trivial | exact rfl | refine ⟨rfl, ?_⟩ | refine ⟨.inr ⟨rfl, ?_⟩, ?_⟩ | refine ⟨.inl rfl, ?_⟩)) ?_
 rintro _ _ ⟨i, hi, rfl, rfl⟩
 have hnd := hz.nd
 have hna := hz.na
 have hnm := hz.nm
 by_cases hil : i < mkN z
 ·have hi1 : i < z.dys.length := by unfold mkN at hil; omega
  have hi2 : i < 30 := by unfold mkN at hil; omega
  have hdv := getD_lt hi1 hz.d
  have hord := mkAt_right z i (by omega)
  have hlt4 : z.dys.getD i 0 % 4 < 4 := Nat.mod_lt _ (by omega)
  refine W.seq (W.seq (W.region ?_))
  refine z_p ?_
  first | refine z_f ?_ | refine z_g ?_
  first | refine z_l ?_ | refine z_r ?_
  first | refine z_n ?_ | refine z_m ?_ | refine z_k ?_
  refine z_T (show ((i : Nat) : Int) < (z.dys.length : Nat) by omega) ?_
  refine z_p ?_
  refine z_p ?_
  refine z_T (show ((i : Nat) : Int) < 30 by omega) ?_
  refine z_p ?_
  refine WL.nil ?_
  refine W.cond_true rfl (W.skip ?_)
  refine W.seq (W.block ?_)
  refine W.seq (W.seq (W.region ?_))
  refine z_p ?_
  refine WL.nil ?_
  refine W.block ?_
  refine W.while (fun n st => ∃ k, k ≤ z.dys.getD i 0 % 4 ∧ n = z.dys.getD i 0 % 4 - k ∧ st = ⟨[(1, .ptr 1 0 0), (3, gV 0 i), (4, .ptr 2 0 0), (5, .int .i64 (i : Nat)), (6, .int .i64 (k : Nat))], [gO 34 6 (ensAV (mkL z i)) i, rawO z, dtO (itT k (mkAt z i))]⟩) (z.dys.getD i 0 % 4)
   ⟨0, Nat.zero_le _, rfl, rfl⟩ (by cases i <;> exact (by refine ⟨?_, ?_, rfl, Nat.le_of_ble_eq_true rfl⟩ <;> repeat (first | exact trivial | exact rfl | refine ⟨rfl, ?_⟩ | refine ⟨.inr ⟨rfl, ?_⟩, ?_⟩ | refine ⟨.inl rfl, ?_⟩))) ?_
  rintro _ _ ⟨k, hk1, rfl, rfl⟩
  by_cases hkl : k < z.dys.getD i 0 % 4
  ·obtain ⟨o1, o2, o3, o4⟩ := itT_ok hord.1 k (by omega)
   obtain ⟨b, hnx⟩ := rNext_spec (itT k (mkAt z i)) o1 o2 ⟨o3, o4⟩
   refine W.seq (W.seq (W.region ?_))
   refine z_p ?_
   first | refine z_f ?_ | refine z_g ?_
   first | refine z_l ?_ | refine z_r ?_
   refine z_p ?_
   refine sq (v_indexAddr_row rfl rfl rfl rfl rfl rfl (by omega) (by omega) (u8s_ne (by omega))) (show _ = AV.radr (.int .u8 ((z.dys.getD i 0 : Nat) : Int) :: u8s (z.dys.drop (i + 1))) from congrArg AV.radr (by rw [show (((i : Nat) : Int)).toNat * 1 = i by omega]; exact u8s_get hi1)) rfl rfl rfl ?_
   first | refine z_l ?_ | refine z_r ?_
   refine sq (v_cvt rfl rfl rfl rfl rfl (by first | rfl | (rw [IntKind.wrap_i64]; omega) | (rw [IntKind.wrap_u64]; omega) | (rw [IntKind.wrap_u8]; omega) | (rw [IntKind.wrap_i32]; omega))) (show _ = AV.int .i64 ((z.dys.getD i 0 : Nat) : Int) from rfl) rfl rfl rfl ?_
   refine sq (v_bin rfl rfl rfl (rem_nn (by omega) (by omega))) (show _ = AV.int .i64 ((z.dys.getD i 0 % 4 : Nat) : Int) from rfl) rfl rfl rfl ?_
   refine z_T (show ((k : Nat) : Int) < ((z.dys.getD i 0 % 4 : Nat) : Int) by omega) ?_
   refine WL.nil ?_
   refine W.cond_true rfl (W.skip ?_)
   refine W.seq (W.block ?_)
   refine W.region ?_
   first | refine z_l3 ?_ | refine z_r3 ?_
   refine z_c (hnx) ?_
   refine z_p ?_
   refine z_p ?_
   refine z_p ?_
   refine z_s [_, _, _] ?_
   refine WL.nil ?_
   refine W.region ?_
   refine z_p ?_
   refine sq (v_i64 rfl rfl rfl rfl (by omega) (by omega)) (show _ = AV.int .i64 ((k + 1 : Nat) : Int) from rfl) rfl rfl rfl ?_
   refine z_p ?_
   refine WL.nil ?_
   exact ⟨z.dys.getD i 0 % 4 - (k + 1), _, _, by omega, ⟨k + 1, by omega, rfl, rfl⟩, (by cases i <;> exact (by refine ⟨?_, ?_, rfl, Nat.le_of_ble_eq_true rfl⟩ <;> repeat (first | exact trivial | exact rfl | refine ⟨rfl, ?_⟩ | refine ⟨.inr ⟨rfl, ?_⟩, ?_⟩ | refine ⟨.inl rfl, ?_⟩)))⟩
  ·have hke : k = z.dys.getD i 0 % 4 := by omega
   subst hke
   have hat : itT (z.dys.getD i 0 % 4) (mkAt z i) = mkAt z (i + 1) := rfl
   rw [hat]
   refine W.seq (W.seq (W.region ?_))
   refine z_p ?_
   first | refine z_f ?_ | refine z_g ?_
   first | refine z_l ?_ | refine z_r ?_
   refine z_p ?_
   refine sq (v_indexAddr_row rfl rfl rfl rfl rfl rfl (by omega) (by omega) (u8s_ne (by omega))) (show _ = AV.radr (.int .u8 ((z.dys.getD i 0 : Nat) : Int) :: u8s (z.dys.drop (i + 1))) from congrArg AV.radr (by rw [show (((i : Nat) : Int)).toNat * 1 = i by omega]; exact u8s_get hi1)) rfl rfl rfl ?_
   first | refine z_l ?_ | refine z_r ?_
   refine sq (v_cvt rfl rfl rfl rfl rfl (by first | rfl | (rw [IntKind.wrap_i64]; omega) | (rw [IntKind.wrap_u64]; omega) | (rw [IntKind.wrap_u8]; omega) | (rw [IntKind.wrap_i32]; omega))) (show _ = AV.int .i64 ((z.dys.getD i 0 : Nat) : Int) from rfl) rfl rfl rfl ?_
   refine sq (v_bin rfl rfl rfl (rem_nn (by omega) (by omega))) (show _ = AV.int .i64 ((z.dys.getD i 0 % 4 : Nat) : Int) from rfl) rfl rfl rfl ?_
   refine z_F (show ¬ ((z.dys.getD i 0 % 4 : Nat) : Int) < ((z.dys.getD i 0 % 4 : Nat) : Int) by omega) ?_
   refine WL.nil ?_
   refine W.cond_false rfl (W.exit ?_)
   have hmA : mkA z i ≤ 300 := by
    unfold mkA
    split
    ·rename_i h; have := getD_lt h hz.a; omega
    ·omega
   have hmM : mkM z i ≤ 4294967296 := by
    unfold mkM
    split
    ·rename_i h; have := getD_lt h hz.m; omega
    ·omega
   refine W.seq (W.region ?_)
   refine z_p ?_
   refine z_p ?_
   refine WL.nil ?_
   refine W.seq (W.cut [(1, .ptr 1 0 0), (3, gV 0 i), (4, .ptr 2 0 0), (5, .int .i64 (i : Nat)), (7, .int .i64 (mkA z i : Nat))] [gO 34 6 (ensAV (mkL z i)) i, rawO z, dtO (mkAt z (i + 1))] ?_ ?_)
   ·by_cases hia : i < z.acs.length
    ·have hav := getD_lt hia hz.a
     refine W.seq (W.region ?_)
     refine z_p ?_
     first | refine z_f ?_ | refine z_g ?_
     first | refine z_l ?_ | refine z_r ?_
     first | refine z_n ?_ | refine z_m ?_ | refine z_k ?_
     refine z_T (show ((i : Nat) : Int) < (z.acs.length : Nat) by omega) ?_
     refine WL.nil ?_
     refine W.cond_true rfl ?_
     refine W.region ?_
     first | refine z_f ?_ | refine z_g ?_
     first | refine z_l ?_ | refine z_r ?_
     refine z_p ?_
     refine sq (v_indexAddr_row rfl rfl rfl rfl rfl rfl (by omega) (by omega) (u8s_ne (by omega))) (show _ = AV.radr (.int .u8 ((z.acs.getD i 0 : Nat) : Int) :: u8s (z.acs.drop (i + 1))) from congrArg AV.radr (by rw [show (((i : Nat) : Int)).toNat * 1 = i by omega]; exact u8s_get hia)) rfl rfl rfl ?_
     first | refine z_l ?_ | refine z_r ?_
     refine sq (v_cvt rfl rfl rfl rfl rfl (by first | rfl | (rw [IntKind.wrap_i64]; omega) | (rw [IntKind.wrap_u64]; omega) | (rw [IntKind.wrap_u8]; omega) | (rw [IntKind.wrap_i32]; omega))) (show _ = AV.int .i64 ((mkA z i : Nat) : Int) from (by rw [mkA, if_pos hia])) rfl rfl rfl ?_
     refine z_p ?_
     refine WL.nil ?_
     exact ⟨rfl, by cases i <;> exact (by refine ⟨?_, ?_, rfl, Nat.le_of_ble_eq_true rfl⟩ <;> repeat (first | exact trivial | exact rfl | refine ⟨rfl, ?_⟩ | refine ⟨.inr ⟨rfl, ?_⟩, ?_⟩ | refine ⟨.inl rfl, ?_⟩))⟩
    ·have hmi : mkA z i = i := by rw [mkA, if_neg hia]
     rw [hmi]
     refine W.seq (W.region ?_)
     refine z_p ?_
     first | refine z_f ?_ | refine z_g ?_
     first | refine z_l ?_ | refine z_r ?_
     first | refine z_n ?_ | refine z_m ?_ | refine z_k ?_
     refine z_F (show ¬ ((i : Nat) : Int) < (z.acs.length : Nat) by omega) ?_
     refine WL.nil ?_
     refine W.cond_false rfl (W.skip ?_)
     exact ⟨rfl, by cases i <;> exact (by refine ⟨?_, ?_, rfl, Nat.le_of_ble_eq_true rfl⟩ <;> repeat (first | exact trivial | exact rfl | refine ⟨rfl, ?_⟩ | refine ⟨.inr ⟨rfl, ?_⟩, ?_⟩ | refine ⟨.inl rfl, ?_⟩))⟩
   refine W.seq (W.region ?_)
   refine z_p ?_
   refine sq (v_i64 rfl rfl rfl rfl (by omega) (by omega)) (show _ = AV.int .i64 ((i + 1 : Nat) : Int) from rfl) rfl rfl rfl ?_
   refine z_p ?_
   refine WL.nil ?_
   refine W.seq (W.cut [(1, .ptr 1 0 0), (3, gV 0 i), (4, .ptr 2 0 0), (5, .int .i64 (i : Nat)), (7, .int .i64 (mkA z i : Nat)), (8, .int .i64 (mkM z i : Nat))] [gO 34 6 (ensAV (mkL z i)) i, rawO z, dtO (mkAt z (i + 1))] ?_ ?_)
   ·by_cases him : i < z.ams.length
    ·have hmv := getD_lt him hz.m
     refine W.seq (W.region ?_)
     refine z_p ?_
     first | refine z_f ?_ | refine z_g ?_
     first | refine z_l ?_ | refine z_r ?_
     first | refine z_n ?_ | refine z_m ?_ | refine z_k ?_
     refine z_T (show ((i : Nat) : Int) < (z.ams.length : Nat) by omega) ?_
     refine WL.nil ?_
     refine W.cond_true rfl ?_
     refine W.region ?_
     first | refine z_f ?_ | refine z_g ?_
     first | refine z_l ?_ | refine z_r ?_
     refine z_p ?_
     refine sq (v_indexAddr_row rfl rfl rfl rfl rfl rfl (by omega) (by omega) (u32s_ne (by omega))) (show _ = AV.radr (.int .u32 ((z.ams.getD i 0 : Nat) : Int) :: u32s (z.ams.drop (i + 1))) from congrArg AV.radr (by rw [show (((i : Nat) : Int)).toNat * 1 = i by omega]; exact u32s_get him)) rfl rfl rfl ?_
     first | refine z_l ?_ | refine z_r ?_
     refine sq (v_cvt rfl rfl rfl rfl rfl (by first | rfl | (rw [IntKind.wrap_i64]; omega) | (rw [IntKind.wrap_u64]; omega) | (rw [IntKind.wrap_u8]; omega) | (rw [IntKind.wrap_i32]; omega))) (show _ = AV.int .i64 ((z.ams.getD i 0 : Nat) : Int) from rfl) rfl rfl rfl ?_
     refine sq (v_i64 rfl rfl rfl rfl (by omega) (by omega)) (show _ = AV.int .i64 ((mkM z i : Nat) : Int) from (by rw [mkM, if_pos him]; exact congrArg (AV.int .i64) (by omega))) rfl rfl rfl ?_
     refine z_p ?_
     refine WL.nil ?_
     exact ⟨rfl, by cases i <;> exact (by refine ⟨?_, ?_, rfl, Nat.le_of_ble_eq_true rfl⟩ <;> repeat (first | exact trivial | exact rfl | refine ⟨rfl, ?_⟩ | refine ⟨.inr ⟨rfl, ?_⟩, ?_⟩ | refine ⟨.inl rfl, ?_⟩))⟩
    ·have hmi : mkM z i = i + 1 := by rw [mkM, if_neg him]
     rw [hmi]
     refine W.seq (W.region ?_)
     refine z_p ?_
     first | refine z_f ?_ | refine z_g ?_
     first | refine z_l ?_ | refine z_r ?_
     first | refine z_n ?_ | refine z_m ?_ | refine z_k ?_
     refine z_F (show ¬ ((i : Nat) : Int) < (z.ams.length : Nat) by omega) ?_
     refine WL.nil ?_
     refine W.cond_false rfl (W.skip ?_)
     exact ⟨rfl, by cases i <;> exact (by refine ⟨?_, ?_, rfl, Nat.le_of_ble_eq_true rfl⟩ <;> repeat (first | exact trivial | exact rfl | refine ⟨rfl, ?_⟩ | refine ⟨.inr ⟨rfl, ?_⟩, ?_⟩ | refine ⟨.inl rfl, ?_⟩))⟩
   have hfr := rFrom_spec ((mkM z i : Nat) : Int) (by omega) (by omega)
   have hlm : RLim ((mkM z i : Nat) : Int).natAbs := RLim.of_lt (k := 100) (show mkM z i < DB ^ 100 by refine Nat.lt_of_le_of_lt hmM ?_; decide) (by decide)
   have hpr := rwPrint ((mkM z i : Nat) : Int) hlm (Lim.small (N := 1) (by
    show mkM z i ≤ 1 * bigA
    rw [Nat.one_mul]
    refine Nat.le_trans hmM ?_
    exact Nat.le_trans (show 4294967296 ≤ 10 ^ 10 by decide) (Nat.pow_le_pow_right (by decide) (by decide))) (by decide))
   rw [show wText ((mkM z i : Nat) : Int) = decText (mkM z i) by rw [wText, if_neg (by omega)]; rfl] at hpr
   have hene : (mkEn z i).cells = [.int .i64 (mkAt z (i + 1)).1, .int .i64 (mkAt z (i + 1)).2.1, .int .i64 (mkAt z (i + 1)).2.2, .int .i64 ((mkA z i % 5 : Nat) : Int), .int .i64 (((mkA z i % 5 + 1 + mkA z i / 5 % 4) % 5 : Nat) : Int), .str (decText (mkM z i))] := rfl
   have happ : ensAV (mkL z i) ++ (mkEn z i).cells = ensAV (mkL z (i + 1)) := by rw [mkL_succ, ensAV_snoc]
   have hlen := ensAV_length (mkL z i)
   rw [mkL_length] at hlen
   refine W.seq (W.region ?_)
   refine z_p ?_
   refine z_c (hfr) ?_
   refine z_a 3 [_, _, _, _] ?_
   refine z_s [_, _, _, _] ?_
   refine WL.nil ?_
   refine W.seq (W.region ?_)
   first | refine z_l2 ?_ | refine z_r2 ?_
   refine z_c (hpr) ?_
   refine z_p ?_
   refine WL.nil ?_
   refine W.region ?_
   refine z_p ?_
   first | refine z_l3 ?_ | refine z_r3 ?_
   refine z_p ?_
   refine sq (v_bin rfl rfl rfl (rem_nn (by omega) (by omega))) (show _ = AV.int .i64 ((mkA z i % 5 : Nat) : Int) from rfl) rfl rfl rfl ?_
   refine z_p ?_
   refine sq (v_bin rfl rfl rfl (rem_nn (by omega) (by omega))) (show _ = AV.int .i64 ((mkA z i % 5 : Nat) : Int) from rfl) rfl rfl rfl ?_
   refine z_i ?_
   refine z_p ?_
   refine sq (v_bin rfl rfl rfl (quo_i64 (by omega) (by omega) (by omega))) (show _ = AV.int .i64 ((mkA z i / 5 : Nat) : Int) from rfl) rfl rfl rfl ?_
   refine sq (v_bin rfl rfl rfl (rem_nn (by omega) (by omega))) (show _ = AV.int .i64 ((mkA z i / 5 % 4 : Nat) : Int) from rfl) rfl rfl rfl ?_
   refine z_i ?_
   refine sq (v_bin rfl rfl rfl (rem_nn (by omega) (by omega))) (show _ = AV.int .i64 (((mkA z i % 5 + 1 + mkA z i / 5 % 4) % 5 : Nat) : Int) from congrArg (AV.int .i64) (by omega)) rfl rfl rfl ?_
   refine z_p ?_
   refine sq (v_build rfl rfl rfl rfl rfl rfl rfl) (rfl : _ = AV.agg [_, _, _, _, _, _]) rfl rfl rfl ?_
   refine sq (v_buildRow rfl rfl rfl rfl rfl rfl rfl (Nat.le_of_ble_eq_true rfl) (Nat.le_of_ble_eq_true rfl) rfl rfl rfl rfl) (rfl : _ = AV.row [_, _, _, _, _, _] 1) rfl rfl rfl ?_
   refine sn (v_gr (n := i) (ds := (mkEn z i).cells) 0 rfl rfl rfl rfl hlen rfl rfl rfl rfl rfl rfl rfl rfl (by decide) rfl (by show (i + 1) * 56 ≤ _; omega) (by omega)) (rfl : _ = gV 0 (i + 1)) (show _ = [gO 34 6 (ensAV (mkL z (i + 1))) (i + 1), rawO z, dtO (mkAt z (i + 1)), _] by rw [happ]; rfl) rfl rfl rfl ?_
   refine z_p ?_
   refine WL.nil ?_
   refine W.region ?_
   refine z_p ?_
   refine sq (v_i64 rfl rfl rfl rfl (by omega) (by omega)) (show _ = AV.int .i64 ((i + 1 : Nat) : Int) from rfl) rfl rfl rfl ?_
   refine z_p ?_
   refine WL.nil ?_
   exact ⟨mkN z - (i + 1), _, _, by omega, ⟨i + 1, by omega, rfl, rfl⟩, (by cases i <;> exact (by refine ⟨?_, ?_, rfl, Nat.le_of_ble_eq_true rfl⟩ <;> repeat (first | exact trivial | exact rfl | refine ⟨rfl, ?_⟩ | refine ⟨.inr ⟨rfl, ?_⟩, ?_⟩ | refine ⟨.inl rfl, ?_⟩)))⟩
 ·have hie : i = mkN z := by omega
  subst hie
  by_cases hnd' : z.dys.length ≤ 30
  ·have hmn : mkN z = z.dys.length := by unfold mkN; omega
   refine W.seq (W.seq (W.region ?_))
   refine z_p ?_
   first | refine z_f ?_ | refine z_g ?_
   first | refine z_l ?_ | refine z_r ?_
   first | refine z_n ?_ | refine z_m ?_ | refine z_k ?_
   refine z_F (show ¬ ((mkN z : Nat) : Int) < (z.dys.length : Nat) by omega) ?_
   refine z_p ?_
   refine z_o ?_
   refine z_o ?_
   refine z_p ?_
   refine WL.nil ?_
   refine W.cond_false rfl (W.exit ?_)
   refine W.seq (W.region ?_)
   refine z_p ?_
   refine z_p ?_
   refine WL.nil ?_
   exact W.ret ⟨rfl, rfl, rfl⟩
  ·have hmn : mkN z = 30 := by unfold mkN; omega
   refine W.seq (W.seq (W.region ?_))
   refine z_p ?_
   first | refine z_f ?_ | refine z_g ?_
   first | refine z_l ?_ | refine z_r ?_
   first | refine z_n ?_ | refine z_m ?_ | refine z_k ?_
   refine z_T (show ((mkN z : Nat) : Int) < (z.dys.length : Nat) by omega) ?_
   refine z_p ?_
   refine z_p ?_
   refine z_F (show ¬ ((mkN z : Nat) : Int) < 30 by omega) ?_
   refine z_p ?_
   refine WL.nil ?_
   refine W.cond_false rfl (W.exit ?_)
   refine W.seq (W.region ?_)
   refine z_p ?_
   refine z_p ?_
   refine WL.nil ?_
   exact W.ret ⟨rfl, rfl, rfl⟩
/-- what Make hands back, to be read only -/
def mkR (z : RawE) : AV := match mkN z with | 0 => .nils | n + 1 => .row (ensAV (mkL z (n + 1))) (n + 1)
theorem make20_spec (z : RawE) (hz : RawOK z) : Does Tryz.prog 8 [rawAV z] (mkR z) := by
 refine does tab_ok Tryz.func8 rfl rfl rfl rfl rfl fun w0 H0 hk hj => (make20_W z hz _ rfl).mono fun e st h => ?_
 obtain ⟨he, h1, h2⟩ := h
 obtain ⟨env, objs⟩ := st
 subst he
 have hlen := ensAV_length (mkL z (mkN z))
 rw [mkL_length] at hlen
 have hr : resAV tab ⟨env, objs⟩ [.tmp 2] = some [gV 0 (mkN z)] := by simp only [resAV]; simp only at h1; rw [h1]
 unfold mkR
 cases hn : mkN z with
 | zero => rw [hn] at hr; exact fin hr (.shut (.plain rfl) .nil) rfl
 | succ n =>
  rw [hn] at hr h2 hlen
  refine fin hr (.shut (.sl h2 (by rw [hlen]; omega) (by simp)) .nil) ?_
  show AV.row (((ensAV (mkL z (n + 1))).drop 0).take ((n + 1) * 6)) (n + 1) = _
  rw [List.drop_zero, List.take_of_length_le (by rw [hlen]; exact Nat.le_refl _)]
theorem make20_owns (z : RawE) (hz : RawOK z) (hn : mkN z ≠ 0) : Owns Tryz.prog 8 [rawAV z] (ensAV (mkL z (mkN z))) (mkN z) true 6 34 := by
 refine doesX tab_ok Tryz.func8 rfl rfl rfl rfl rfl fun w0 H0 hk hj => (make20_W z hz _ rfl).mono fun e st h => ?_
 obtain ⟨he, h1, h2⟩ := h
 obtain ⟨env, objs⟩ := st
 subst he
 have hr : resAV tab ⟨env, objs⟩ [.tmp 2] = some [gV 0 (mkN z)] := by simp only [resAV]; simp only at h1; rw [h1]
 cases hn' : mkN z with
 | zero => exact absurd hn' hn
 | succ n =>
  rw [hn'] at hr h2
  exact finO hr h2
end Go.Proofs.YtehoobhbginahaaGreatDoor

set_option linter.unusedVariables false
set_option linter.unusedSimpArgs false
namespace Go.Proofs.YtehoobhbginahaaGreatDoor
open Go Go.Lens
/-! ### what comes in -/
theorem Sub.aggL {cs ds : List AV} (h : SubL cs ds) : Sub (.agg cs) (.agg ds) := by
 rintro w H v ⟨vs, rfl, hr⟩
 exact ⟨vs, rfl, h.rel w H vs hr⟩
theorem avOfL_nat {H : Type} {k : IntKind} {B : Nat} (hB : ∀ n : Int, (Lit.int k n).wf = true → 0 ≤ n ∧ n < B) : ∀ (ds : List (DataW H)), (∀ x ∈ ds, ∃ n, x = .lit (.int k n) ∧ (Lit.int k n).wf = true) →
  ∃ l : List Nat, l.length = ds.length ∧ avOfL ds = l.map (fun (n : Nat) => AV.int k (n : Int)) ∧ ∀ x ∈ l, x < B
 | [], _ => ⟨[], rfl, rfl, fun _ h => by cases h⟩
 | d :: ds, h => by
  obtain ⟨n, rfl, hn⟩ := h _ (.head _)
  obtain ⟨l, h1, h2, h3⟩ := avOfL_nat hB ds fun x hx => h x (.tail _ hx)
  have h4 := hB n hn
  refine ⟨n.toNat :: l, by simp [h1], ?_, fun x hx => ?_⟩
  ·simp only [avOfL, avOf, h2, List.map_cons, List.singleton_append, Int.toNat_of_nonneg h4.1]
  ·rcases List.mem_cons.1 hx with rfl | hx
   ·omega
   ·exact h3 x hx
theorem shape_nats {H : Type} {k : IntKind} {B : Nat} (hB : ∀ n : Int, (Lit.int k n).wf = true → 0 ≤ n ∧ n < B) {d : DataW H} (h : d = .nil ∨ ∃ ds rest, d = .slice ds rest ∧ ds.length ≤ maxLen ∧ ∀ x ∈ ds, ∃ n, x = .lit (.int k n) ∧ (Lit.int k n).wf = true) :
  ∃ l : List Nat, (∀ x ∈ l, x < B) ∧ l.length ≤ 9223372036854775807 ∧ ∃ c, avOf d = [c] ∧ Sub c (.row (l.map (fun (n : Nat) => AV.int k (n : Int))) l.length) := by
 rcases h with rfl | ⟨ds, rest, rfl, hl, hx⟩
 ·exact ⟨[], fun _ h => (by cases h), by simp, _, rfl, Sub.nils⟩
 ·obtain ⟨l, h1, h2, h3⟩ := avOfL_nat hB ds hx
  refine ⟨l, h3, by rw [h1]; simpa [maxLen] using hl, _, rfl, ?_⟩
  rw [h2, h1]
  exact Sub.refl _
theorem wf_u8 (n : Int) (h : (Lit.int .u8 n).wf = true) : 0 ≤ n ∧ n < ((256 : Nat) : Int) := by
 have : 0 ≤ n ∧ n ≤ 255 := by simpa [Lit.wf, IntKind.min, IntKind.max, IntKind.signed, IntKind.bits] using h
 omega
theorem wf_u32 (n : Int) (h : (Lit.int .u32 n).wf = true) : 0 ≤ n ∧ n < ((4294967296 : Nat) : Int) := by
 have : 0 ≤ n ∧ n ≤ 4294967295 := by simpa [Lit.wf, IntKind.min, IntKind.max, IntKind.signed, IntKind.bits] using h
 omega
end Go.Proofs.YtehoobhbginahaaGreatDoor

set_option linter.unusedVariables false
set_option linter.unusedSimpArgs false
namespace Go.Proofs.YtehoobhbginahaaGreatDoor
open Go Go.Lens
end Go.Proofs.YtehoobhbginahaaGreatDoor

set_option linter.unusedVariables false
set_option linter.unusedSimpArgs false
namespace Go.Proofs.YtehoobhbginahaaGreatDoor
open Go Go.Lens
theorem Bk.inX {m j n : Nat} {l : List En} {X Y Z : AObj} (h : Bk m j l X Y Z) (hm : m < n) (hj : j < n) : X.inB n = true := by
 have := fun cs ver esz own (e : X = .cells cs ver esz false own) => (e ▸ h : Bk m j l (.cells cs ver esz false own) Y Z).scoped hm hj
 obtain ⟨cv, es, rfl, _, _⟩ := h.bk
 exact this _ _ _ _ rfl
theorem Bk.inY {m j n : Nat} {l : List En} {X Y Z : AObj} (h : Bk m j l X Y Z) : Y.inB n = true := by cases h <;> rfl
theorem Bk.inZ {m j n : Nat} {l : List En} {X Y Z : AObj} (h : Bk m j l X Y Z) : Z.inB n = true := by cases h <;> rfl
theorem ens_take (l : List En) (k : Nat) (hk : k ≤ l.length) : AV.row (((ensAV l).drop (0 * 6)).take ((k - 0) * 6)) (k - 0) = .row (ensAV (l.take k)) (l.take k).length := by
 have h1 : ensAV l = ensAV (l.take k) ++ ensAV (l.drop k) := by
  conv => lhs; rw [← List.take_append_drop k l]
  simp only [ensAV, List.flatMap_append]
 have h2 := ensAV_length (l.take k)
 have h3 : (l.take k).length = k := by rw [List.length_take]; omega
 rw [h3] at h2
 rw [Nat.zero_mul, List.drop_zero, Nat.sub_zero, h3, h1, ← h2, List.take_left]
end Go.Proofs.YtehoobhbginahaaGreatDoor
