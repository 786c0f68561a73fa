/- book: New, Balance, amount. Lens, part 17: a law's row out of what the law answers. date.Cmp, by cmp.Or and cmp.Compare; the reference's. chart: words, Word, Of. chattellaw19: wakes. chattelref14.Whole, chattelref19.Check, chattelref09.Make, chattellaw19.ChartChecks. chattelref19.Check, chattelref09.Make, chattellaw19.ChartChecks. book: a book's entries and balances. book: Post. book: Post, of any book. Lens, part 31: slices of the call's own against nil; empty literals without room. -/
import Derived.Test.YtejpblopbdgkaaaGreatDoorKDR8
import Derived.Lay
import Derived.LaidOnce
import Derived.SevenTiedAt

set_option linter.unusedVariables false
set_option linter.unusedSimpArgs false
namespace Go.Proofs.YtejpblopbdgkaaaGreatDoor
open Go Go.Lens
/-- the number that a whole number's text is of, or 0 -/
def amZ (s : List UInt8) : Int := if wE s = 0 then (if signP s then -(decF (plainP s) : Int) else decF (plainP s)) else 0
theorem wholeParse_amZ (s : List UInt8) : wholeParse s = .tup [wAV (amZ s), .int .i64 (wE s)] := by
 rw [wholeParse_eq]
 simp only [amZ, wL, wB]
 by_cases h : wE s = 0
 ·simp only [if_pos h]
  by_cases hs : signP s = true
  ·rw [hs]
   simp only [if_true, Bool.true_and, wAV, Int.natAbs_neg, Int.natAbs_natCast]
   congr 3
   by_cases h0 : decF (plainP s) = 0
   ·simp [h0, digs_zero]
   ·have : digs LB (decF (plainP s)) ≠ [] := fun e => h0 ((digs_eq_nil (by decide) _).1 e)
    have h1 : (digs LB (decF (plainP s)) == []) = false := by simpa using this
    rw [h1]; simp; omega
  ·have hs : signP s = false := by simpa using hs
   rw [hs]
   simp only [Bool.false_and, wAV, Int.natAbs_natCast, if_neg (show ¬ (false = true) by decide)]
   congr 3
 ·simp only [if_neg h]
  rw [wAV_zero]; rfl
theorem bookAmount_spec (e : En) (hs : e.am.length ≤ 9223372036854775807) : Does Tryz.prog 87 [e.av] (wAV (amZ e.am)) := by
 have hw := wholeParse_spec e.am hs
 rw [wholeParse_amZ] at hw
 refine does tab_ok Tryz.func87 rfl rfl rfl rfl rfl fun w0 H0 hk hj => ?_
 refine W.seq (W.region ?_)
 first | refine z_B 0 [_] ?_ | refine sn (a_box rfl rfl (.inr ⟨trivial, rfl⟩)) (rfl : _ = AV.ptr 0 0 0) (rfl : _ = [_]) rfl rfl rfl ?_
 refine z_a 1 [_, _] ?_
 refine WL.nil ?_
 refine W.seq (W.region ?_)
 first | refine z_f ?_ | refine z_g ?_
 first | refine z_l ?_ | refine z_r ?_
 refine z_c (hw) ?_
 refine z_p ?_
 refine z_p ?_
 refine z_p ?_
 refine z_a 2 [_, _, _] ?_
 refine z_s [_, _, _] ?_
 refine z_p ?_
 refine WL.nil ?_
 refine W.seq (W.region ?_)
 first | refine z_l2 ?_ | refine z_r2 ?_
 refine z_s [_, _, _] ?_
 refine WL.nil ?_
 exact W.ret (fin (resAV_cell rfl rfl rfl rfl rfl) (.shut (.plain (wAV_plain _)) .nil) rfl)
section
variable {nt : Nat} {w0 : World} {k : Nat} {H0 : View} {ln : Nat → Nat} {hk : ∀ o, o < k → H0.blk o < w0.heap.size} {hj : ∀ x o, x < k → o < k → H0.blk x = H0.blk o → x = o} {sv : List (Array Value × List (Nat × AV))}
  {ops : Array Oper} {o : Oper} {rest : List Oper} {env : List (Nat × AV)} {objs : List AObj} {Q : Exit → St → Prop} {x : Operand} {xs : Array Operand} {ts : Array TypeId} {d b m : Nat}
theorem new_si (hop : o.op = .call { callee := .value x, args := xs, argTypes := ts }) (hx : ev ⟨env, objs⟩ x = some (.func (.func 49) [] [])) (hxs : evL ⟨env, objs⟩ xs.toList = some [])
  (hg : gd ops ⟨env, objs⟩ o = some true) (hd : o.dst = some d) (hlt : Nat.blt d nt = true)
  (h : WL ⟨Tryz.prog, tab, tab_ok, nt, w0, k, H0, ln, hk, hj, sv⟩ ops rest ⟨(d, .ptr (objs.length + 1) 0 0) :: env, objs ++ [.kv .i64 [], bkO (.clip [] 0) objs.length, .slot]⟩ Q) :
  WL ⟨Tryz.prog, tab, tab_ok, nt, w0, k, H0, ln, hk, hj, sv⟩ ops (o :: rest) ⟨env, objs⟩ Q := by
 refine si Tryz.func49 rfl rfl rfl rfl hop hx hxs rfl rfl hg hd hlt fun tm => W.base ?_
 generalize hN : objs.length = N at *
 refine W.seq (W.region ?_)
 refine z_p ?_
 refine WL.nil ?_
 refine W.seq (W.region ?_)
 refine sn (v_makeMapB .i64 hN rfl) (rfl : _ = AV.mp (N + 0) 0) rfl rfl rfl rfl ?_
 refine sq (v_build_mp rfl rfl (get_new hN rfl) rfl rfl rfl rfl rfl) (rfl : _ = AV.agg [_, _]) rfl rfl rfl ?_
 refine WL.sub 2 rfl (Sub.agg1 Sub.nils_clip) ?_
 refine sn (a_boxB hN rfl rfl (.inl rfl)) (rfl : _ = AV.ptr (N + 1) 0 0) rfl rfl rfl rfl ?_
 refine z_p ?_
 refine WL.nil ?_
 refine W.ret ⟨.inl rfl, _, rfl, WL.slot ?_⟩
 rw [List.append_assoc]
 exact h
end
end Go.Proofs.YtejpblopbdgkaaaGreatDoor

set_option linter.unusedVariables false
set_option linter.unusedSimpArgs false
namespace Go.Lens
open Go Go.RowKit Go.ChangeShapes Go.WideShapes Go.ChangeAt
/-- A LAW THAT ANSWERS TRUE: its row, lifted. -/
theorem law_lift {C : Checked} {T : Tab} (ok : TabOK C.prog T) {f : FuncId} {fn : Func} {s : ChangeSpec} {laid : List (String × DataW Unit)} (own : ownKnob C.prog.godebug = none) (laidOut : laidOutB C.prog = true)
  (noInit : C.prog.inits.idxOf? f = none) (hfn : C.prog.funcs[f]? = some fn) (hvars : s.vars = []) {ts : List TypeId} (hps : fn.params.toList = ts)
  (hgood : ts.all (goodT T 8) = true) (hread : ts.all (fun t => C.prog.readableRec t && decide (t < C.prog.types.size)) = true) {rt : TypeId} (hrt : fn.resultTypes = #[rt]) (hb : C.prog.underlying rt = some .bool)
  (hspec : ∀ (H : Type) (ds : List (DataW H)), ds.length = ts.length → s.fn H ds = { results := [.lit (.bool true)], args := ds })
  {os : Os} (started : os.Started) {H : Type} {enc : TypeId × Value → H}
  (hlaw : ∀ (ds : List (DataW H)), shapes (shapeT T 8) ts ds → (DataW.weightsEach C.prog (ts ++ s.plain.varTypes C.prog) ds).all (· ≤ reachBytes) = true → Does C.prog f (ds.map avArg) (.bool true))
  (witness : ∃ (w : World) (tape : Tape) (i : Input), w.os = os ∧ (w.forCall tape i).Shaped C.prog ∧ i.vars = [] ∧ Input.okWide C.prog (w.forCall tape i) .any w.heap.size f i ∧
   ((s.pre enc C.prog fn [] false (w.forCall tape i).memory i.args ∧ laidMetH C.prog laid (w.forCall tape i).memory) ∧ sizedMet enc C.prog fn (OpenSpec.ofChange s) false (w.forCall tape i).memory i.args) ∧ Assume.holds {} C.prog (lone (Frame.enter C.prog f i.args .normal) [] (w.forCall tape i))) :
  ReturnsInHanded {} C os f .any (fun w args => (s.pre enc C.prog fn [] false w args ∧ laidMetH C.prog laid w) ∧ sizedMet enc C.prog fn (OpenSpec.ofChange s) false w args)
   (s.post enc C.prog fn false true false false) := by
 refine returnsInHanded_of_change_and (C := C) (X := fun w _ => laidMetH C.prog laid w) (fun _ _ _ hh h => h.of_heap hh) own started noInit hfn witness ?_
 intro W base args ds gs before hval hW _ hsz _ _
 have hW' := hW
 obtain ⟨p, q, hA, hV, rfl, _, _⟩ := hW
 rw [hvars] at hV
 obtain ⟨rfl, rfl⟩ := trodVars_none hV
 rw [hps] at hA hsz
 simp only [List.append_nil] at hsz
 have hsh := args_shape (g := 8) ok hA
 have hr := args_rel (g := 8) ok (r := .any) (base := base) (w' := W) (fun j t v ht hv => hval j t v (by rw [← hps] at ht; simpa using ht) (by simpa using hv)) hA hgood
 have hd := hlaw ds hsh hsz
 refine (hd.calls hr).mono fun e W' ⟨v, H', he, hv, bel⟩ => ?_
 subst he
 simp only [RelV] at hv
 subst hv
 refine ⟨_, rfl, ds, [], _, [], p, [], hW', ?_, ?_, ?_, bel.frame _, fun h => by cases h⟩
 ·rw [List.append_nil, hspec H ds hsh.length, hrt]
  exact trodAll_mk1 (shut_bool hb _)
 ·rw [List.append_nil, hspec H ds hsh.length, hps]
  exact Below.trodAll laidOut bel hread hA
 ·rw [List.append_nil, hspec H ds hsh.length, hvars]
  rfl
end Go.Lens

set_option linter.unusedVariables false
set_option linter.unusedSimpArgs false
namespace Go.Proofs.YtejpblopbdgkaaaGreatDoor
open Go Go.Lens
def cmpI (a b : Int) : Int := if a < b then -1 else if a > b then 1 else 0
@[simp] theorem cmpI_self (a : Int) : cmpI a a = 0 := by simp [cmpI]
def or3 (a b c : Int) : Int := if a ≠ 0 then a else if b ≠ 0 then b else c
def cmpD (y m d y' m' d' : Int) : Int := or3 (cmpI y y') (cmpI m m') (cmpI d d')
theorem isNaN_spec (a : Int) : Does Tryz.prog 155 [.int .i64 a] (.bool false) := by
 refine does tab_ok Tryz.func155 rfl rfl rfl rfl rfl fun w0 H0 hk hj => ?_
 refine W.seq (W.region ?_)
 refine z_p ?_
 refine WL.nil ?_
 refine W.seq (W.region ?_)
 refine z_p ?_
 refine z_p ?_
 refine sq (v_pure rfl) (show _ = AV.bool false from by simp) rfl rfl rfl ?_
 refine z_p ?_
 refine WL.nil ?_
 exact W.ret (fin rfl (.shut (.plain rfl) .nil) rfl)
theorem compare_spec (a b : Int) : Does Tryz.prog 128 [.int .i64 a, .int .i64 b] (.int .i64 (cmpI a b)) := by
 refine does tab_ok Tryz.func128 rfl rfl rfl rfl rfl fun w0 H0 hk hj => ?_
 refine W.seq (W.region ?_)
 refine z_p ?_
 refine WL.nil ?_
 refine W.seq (W.region ?_)
 refine z_p ?_
 refine z_c (isNaN_spec a) ?_
 refine z_p ?_
 refine WL.nil ?_
 refine W.seq (W.region ?_)
 refine z_p ?_
 refine z_c (isNaN_spec b) ?_
 refine z_p ?_
 refine WL.nil ?_
 refine W.seq (W.seq (W.region ?_))
 refine z_p ?_
 refine WL.nil ?_
 refine W.cond rfl (fun hc11 => ?_) (fun hc11 => ?_)
 ·skip
  refine W.seq (W.seq (W.region ?_))
  refine z_p ?_
  refine WL.nil ?_
  refine W.cond rfl (fun hc12 => ?_) (fun hc12 => ?_)
  ·skip
   refine W.seq (W.region ?_)
   refine z_p ?_
   refine WL.nil ?_
   refine W.ret (fin rfl (.shut (.plain (by first | rfl | simp [plainL, AV.plain])) .nil) ?_)
   refine congrArg (AV.int .i64) ?_; clear hk hj; simp_all [cmpI] <;> omega
  ·skip
   refine W.skip ?_
   refine W.seq (W.region ?_)
   refine z_p ?_
   refine WL.nil ?_
   refine W.ret (fin rfl (.shut (.plain (by first | rfl | simp [plainL, AV.plain])) .nil) ?_)
   refine congrArg (AV.int .i64) ?_; clear hk hj; simp_all [cmpI] <;> omega
 ·skip
  refine W.skip ?_
  refine W.seq (W.seq (W.region ?_))
  refine z_p ?_
  refine WL.nil ?_
  refine W.cond rfl (fun hc13 => ?_) (fun hc13 => ?_)
  ·skip
   refine W.seq (W.region ?_)
   refine z_p ?_
   refine WL.nil ?_
   refine W.ret (fin rfl (.shut (.plain (by first | rfl | simp [plainL, AV.plain])) .nil) ?_)
   refine congrArg (AV.int .i64) ?_; clear hk hj; simp_all [cmpI] <;> omega
  ·skip
   refine W.skip ?_
   refine W.seq (W.seq (W.region ?_))
   refine z_p ?_
   refine z_p ?_
   refine z_p ?_
   refine WL.nil ?_
   refine W.cond rfl (fun hc16 => ?_) (fun hc16 => ?_)
   ·rw [decide_eq_true_eq] at hc16
    refine W.seq (W.region ?_)
    refine z_p ?_
    refine WL.nil ?_
    refine W.ret (fin rfl (.shut (.plain (by first | rfl | simp [plainL, AV.plain])) .nil) ?_)
    refine congrArg (AV.int .i64) ?_; clear hk hj; simp_all [cmpI] <;> omega
   ·rw [decide_eq_false_iff_not] at hc16
    refine W.skip ?_
    refine W.seq (W.seq (W.region ?_))
    refine z_p ?_
    refine z_p ?_
    refine z_p ?_
    refine WL.nil ?_
    refine W.cond rfl (fun hc19 => ?_) (fun hc19 => ?_)
    ·rw [decide_eq_true_eq] at hc19
     refine W.seq (W.region ?_)
     refine z_p ?_
     refine WL.nil ?_
     refine W.ret (fin rfl (.shut (.plain (by first | rfl | simp [plainL, AV.plain])) .nil) ?_)
     refine congrArg (AV.int .i64) ?_; clear hk hj; simp_all [cmpI] <;> omega
    ·rw [decide_eq_false_iff_not] at hc19
     refine W.skip ?_
     refine W.seq (W.region ?_)
     refine z_p ?_
     refine WL.nil ?_
     refine W.ret (fin rfl (.shut (.plain (by first | rfl | simp [plainL, AV.plain])) .nil) ?_)
     refine congrArg (AV.int .i64) ?_; clear hk hj; simp_all [cmpI] <;> omega
theorem or_spec (a b c : Int) : Does Tryz.prog 127 [.row [.int .i64 a, .int .i64 b, .int .i64 c] 3] (.int .i64 (or3 a b c)) := by
 refine does tab_ok Tryz.func127 rfl rfl rfl rfl rfl fun w0 H0 hk hj => ?_
 refine W.seq (W.region ?_)
 refine z_p ?_
 refine WL.nil ?_
 refine W.seq (W.region ?_)
 refine z_p ?_
 refine WL.nil ?_
 refine W.seq (W.seq (W.region ?_))
 refine z_p ?_
 first | refine z_n ?_ | refine z_m ?_ | refine z_k ?_
 refine z_p ?_
 refine WL.nil ?_
 refine W.block ?_
 refine W.while (fun n st => ∃ i : Nat, n = 3 - i ∧ i ≤ 3 ∧ (1 ≤ i → a = 0) ∧ (2 ≤ i → b = 0) ∧ (3 ≤ i → c = 0) ∧ st = ⟨[(3, .int .i64 0), (6, .row [.int .i64 a, .int .i64 b, .int .i64 c] 3), (7, .int .i64 3), (8, .int .i64 i)], []⟩) 3
  ⟨0, rfl, by omega, by omega, by omega, by omega, rfl⟩ (by refine ⟨?_, ?_, rfl, Nat.le_of_ble_eq_true rfl⟩ <;> repeat (first | exact trivial | exact rfl | refine ⟨rfl, ?_⟩ | refine ⟨.inr ⟨rfl, ?_⟩, ?_⟩ | refine ⟨.inl rfl, ?_⟩)) ?_
 rintro _ _ ⟨i, rfl, hi, h1, h2, h3, rfl⟩
 obtain rfl | rfl | rfl | rfl : i = 0 ∨ i = 1 ∨ i = 2 ∨ i = 3 := by omega
 ·skip
  refine W.seq (W.region ?_)
  refine z_p ?_
  refine WL.nil ?_
  refine W.seq (W.cond_true rfl (W.skip ?_))
  refine W.seq (W.block ?_)
  refine W.seq (W.region ?_)
  refine sp (v_indexAddr_row rfl rfl rfl rfl rfl rfl (by omega) (by omega) (List.cons_ne_nil _ _)) rfl rfl rfl ?_
  refine sq (v_load_radr rfl rfl rfl rfl) (show _ = AV.int .i64 a from rfl) rfl rfl rfl ?_
  refine z_p ?_
  refine WL.nil ?_
  refine W.seq (W.region ?_)
  refine z_p ?_
  refine z_p ?_
  refine z_p ?_
  refine WL.nil ?_
  refine W.cond rfl (fun hc => ?_) (fun hc => ?_)
  ·have hc0 : a ≠ 0 := by simpa using hc
   refine W.seq (W.region ?_)
   refine z_p ?_
   refine z_p ?_
   refine WL.nil ?_
   refine W.ret (fin rfl (.shut (.plain rfl) .nil) ?_)
   simp_all [or3, tupAV]
  ·have hc0 : a = 0 := by simpa using hc
   refine W.skip ?_
   refine W.region ?_
   refine z_i ?_
   refine z_p ?_
   refine WL.nil ?_
   exact ⟨2, _, _, by omega, ⟨1, by omega, by omega, by simp_all, by simp_all, by simp_all, rfl⟩, (by refine ⟨?_, ?_, rfl, Nat.le_of_ble_eq_true rfl⟩ <;> repeat (first | exact trivial | exact rfl | refine ⟨rfl, ?_⟩ | refine ⟨.inr ⟨rfl, ?_⟩, ?_⟩ | refine ⟨.inl rfl, ?_⟩))⟩
 ·skip
  refine W.seq (W.region ?_)
  refine z_p ?_
  refine WL.nil ?_
  refine W.seq (W.cond_true rfl (W.skip ?_))
  refine W.seq (W.block ?_)
  refine W.seq (W.region ?_)
  refine sp (v_indexAddr_row rfl rfl rfl rfl rfl rfl (by omega) (by omega) (List.cons_ne_nil _ _)) rfl rfl rfl ?_
  refine sq (v_load_radr rfl rfl rfl rfl) (show _ = AV.int .i64 b from rfl) rfl rfl rfl ?_
  refine z_p ?_
  refine WL.nil ?_
  refine W.seq (W.region ?_)
  refine z_p ?_
  refine z_p ?_
  refine z_p ?_
  refine WL.nil ?_
  refine W.cond rfl (fun hc => ?_) (fun hc => ?_)
  ·have hc0 : b ≠ 0 := by simpa using hc
   refine W.seq (W.region ?_)
   refine z_p ?_
   refine z_p ?_
   refine WL.nil ?_
   refine W.ret (fin rfl (.shut (.plain rfl) .nil) ?_)
   simp_all [or3, tupAV]
  ·have hc0 : b = 0 := by simpa using hc
   refine W.skip ?_
   refine W.region ?_
   refine z_i ?_
   refine z_p ?_
   refine WL.nil ?_
   exact ⟨1, _, _, by omega, ⟨2, by omega, by omega, by simp_all, by simp_all, by simp_all, rfl⟩, (by refine ⟨?_, ?_, rfl, Nat.le_of_ble_eq_true rfl⟩ <;> repeat (first | exact trivial | exact rfl | refine ⟨rfl, ?_⟩ | refine ⟨.inr ⟨rfl, ?_⟩, ?_⟩ | refine ⟨.inl rfl, ?_⟩))⟩
 ·skip
  refine W.seq (W.region ?_)
  refine z_p ?_
  refine WL.nil ?_
  refine W.seq (W.cond_true rfl (W.skip ?_))
  refine W.seq (W.block ?_)
  refine W.seq (W.region ?_)
  refine sp (v_indexAddr_row rfl rfl rfl rfl rfl rfl (by omega) (by omega) (List.cons_ne_nil _ _)) rfl rfl rfl ?_
  refine sq (v_load_radr rfl rfl rfl rfl) (show _ = AV.int .i64 c from rfl) rfl rfl rfl ?_
  refine z_p ?_
  refine WL.nil ?_
  refine W.seq (W.region ?_)
  refine z_p ?_
  refine z_p ?_
  refine z_p ?_
  refine WL.nil ?_
  refine W.cond rfl (fun hc => ?_) (fun hc => ?_)
  ·have hc0 : c ≠ 0 := by simpa using hc
   refine W.seq (W.region ?_)
   refine z_p ?_
   refine z_p ?_
   refine WL.nil ?_
   refine W.ret (fin rfl (.shut (.plain rfl) .nil) ?_)
   simp_all [or3, tupAV]
  ·have hc0 : c = 0 := by simpa using hc
   refine W.skip ?_
   refine W.region ?_
   refine z_i ?_
   refine z_p ?_
   refine WL.nil ?_
   exact ⟨0, _, _, by omega, ⟨3, by omega, by omega, by simp_all, by simp_all, by simp_all, rfl⟩, (by refine ⟨?_, ?_, rfl, Nat.le_of_ble_eq_true rfl⟩ <;> repeat (first | exact trivial | exact rfl | refine ⟨rfl, ?_⟩ | refine ⟨.inr ⟨rfl, ?_⟩, ?_⟩ | refine ⟨.inl rfl, ?_⟩))⟩
 ·skip
  refine W.seq (W.region ?_)
  refine z_p ?_
  refine WL.nil ?_
  refine W.seq (W.cond_false rfl (W.exit ?_))
  refine W.seq (W.region ?_)
  refine z_p ?_
  refine z_p ?_
  refine WL.nil ?_
  refine W.ret (fin rfl (.shut (.plain rfl) .nil) ?_)
  simp_all [or3, tupAV]
theorem dateCmp_spec (y m d y' m' d' : Int) : Does Tryz.prog 85 [dateAV y m d, dateAV y' m' d'] (.int .i64 (cmpD y m d y' m' d')) := by
 refine does tab_ok Tryz.func85 rfl rfl rfl rfl rfl fun w0 H0 hk hj => ?_
 refine W.seq (W.region ?_)
 first | refine z_B 0 [_] ?_ | refine sn (a_box rfl rfl (.inr ⟨trivial, rfl⟩)) (rfl : _ = AV.ptr 0 0 0) (rfl : _ = [_]) rfl rfl rfl ?_
 first | refine z_B 1 [_, _] ?_ | refine sn (a_box rfl rfl (.inr ⟨trivial, rfl⟩)) (rfl : _ = AV.ptr 1 0 0) (rfl : _ = [_, _]) rfl rfl rfl ?_
 refine z_p ?_
 refine WL.nil ?_
 refine W.seq (W.drawnR mixed [5, 6, 7, 8, 9, 10, 11, 12, 13, 14, 15, 16, 17, 18, 19, 20, 21, 4] (by kernel_rfl) ?_)
 apply DrawFrom.stepR
 ·intro more
  first | refine z_f ?_ | refine z_g ?_
  exact z_e
 apply DrawFrom.stepR
 ·intro more
  first | refine z_l ?_ | refine z_r ?_
  exact z_e
 apply DrawFrom.stepR
 ·intro more
  first | refine z_f ?_ | refine z_g ?_
  exact z_e
 apply DrawFrom.stepR
 ·intro more
  first | refine z_l ?_ | refine z_r ?_
  exact z_e
 apply DrawFrom.stepR
 ·intro more
  refine z_c (compare_spec y y') ?_
  exact z_e
 apply DrawFrom.stepR
 ·intro more
  first | refine z_f ?_ | refine z_g ?_
  exact z_e
 apply DrawFrom.stepR
 ·intro more
  first | refine z_l ?_ | refine z_r ?_
  exact z_e
 apply DrawFrom.stepR
 ·intro more
  first | refine z_f ?_ | refine z_g ?_
  exact z_e
 apply DrawFrom.stepR
 ·intro more
  first | refine z_l ?_ | refine z_r ?_
  exact z_e
 apply DrawFrom.stepR
 ·intro more
  refine z_c (compare_spec m m') ?_
  exact z_e
 apply DrawFrom.stepR
 ·intro more
  first | refine z_f ?_ | refine z_g ?_
  exact z_e
 apply DrawFrom.stepR
 ·intro more
  first | refine z_l ?_ | refine z_r ?_
  exact z_e
 apply DrawFrom.stepR
 ·intro more
  first | refine z_f ?_ | refine z_g ?_
  exact z_e
 apply DrawFrom.stepR
 ·intro more
  first | refine z_l ?_ | refine z_r ?_
  exact z_e
 apply DrawFrom.stepR
 ·intro more
  refine z_c (compare_spec d d') ?_
  exact z_e
 apply DrawFrom.stepR
 ·intro more
  refine sq (v_buildRow rfl rfl rfl rfl rfl rfl rfl (Nat.le_of_ble_eq_true rfl) (Nat.le_of_ble_eq_true rfl) rfl rfl rfl rfl) (rfl : _ = AV.row [_, _, _] 3) rfl rfl rfl ?_
  exact z_e
 apply DrawFrom.stepR
 ·intro more
  refine z_c (or_spec (cmpI y y') (cmpI m m') (cmpI d d')) ?_
  exact z_e
 apply DrawFrom.stepR
 ·intro more
  refine z_p ?_
  exact z_e
 refine DrawFrom.doneR (rfl : _ = (_, _) :: (_, _) :: (_, _) :: (_, _) :: (_, _) :: (_, _) :: (_, _) :: (_, _) :: (_, _) :: (_, _) :: (_, _) :: (_, _) :: (_, _) :: (_, _) :: (_, _) :: (_, _) :: (_, _) :: (_, _) :: _) ?_
 refine WL.nil ?_
 exact W.ret (fin rfl (.shut (.plain rfl) .nil) rfl)
theorem rDateCmp_spec (y m d y' m' d' : Int) : Does Tryz.prog 94 [dateAV y m d, dateAV y' m' d'] (.int .i64 (cmpD y m d y' m' d')) := by
 refine does tab_ok Tryz.func94 rfl rfl rfl rfl rfl fun w0 H0 hk hj => ?_
 refine W.seq (W.region ?_)
 first | refine z_B 0 [_] ?_ | refine sn (a_box rfl rfl (.inr ⟨trivial, rfl⟩)) (rfl : _ = AV.ptr 0 0 0) (rfl : _ = [_]) rfl rfl rfl ?_
 first | refine z_B 1 [_, _] ?_ | refine sn (a_box rfl rfl (.inr ⟨trivial, rfl⟩)) (rfl : _ = AV.ptr 1 0 0) (rfl : _ = [_, _]) rfl rfl rfl ?_
 refine z_p ?_
 refine WL.nil ?_
 refine W.seq (W.region ?_)
 first | refine z_f ?_ | refine z_g ?_
 first | refine z_l ?_ | refine z_r ?_
 first | refine z_f ?_ | refine z_g ?_
 first | refine z_l ?_ | refine z_r ?_
 first | refine z_f ?_ | refine z_g ?_
 first | refine z_l ?_ | refine z_r ?_
 refine sq (v_buildRow rfl rfl rfl rfl rfl rfl rfl (Nat.le_of_ble_eq_true rfl) (Nat.le_of_ble_eq_true rfl) rfl rfl rfl rfl) (rfl : _ = AV.row [_, _, _] 3) rfl rfl rfl ?_
 refine z_p ?_
 refine WL.nil ?_
 refine W.seq (W.region ?_)
 first | refine z_f ?_ | refine z_g ?_
 first | refine z_l ?_ | refine z_r ?_
 first | refine z_f ?_ | refine z_g ?_
 first | refine z_l ?_ | refine z_r ?_
 first | refine z_f ?_ | refine z_g ?_
 first | refine z_l ?_ | refine z_r ?_
 refine sq (v_buildRow rfl rfl rfl rfl rfl rfl rfl (Nat.le_of_ble_eq_true rfl) (Nat.le_of_ble_eq_true rfl) rfl rfl rfl rfl) (rfl : _ = AV.row [_, _, _] 3) rfl rfl rfl ?_
 refine z_p ?_
 refine WL.nil ?_
 refine W.seq (W.seq (W.region ?_))
 refine z_p ?_
 refine WL.nil ?_
 refine W.block ?_
 refine W.while (fun n st => ∃ i : Nat, n = 3 - i ∧ i ≤ 3 ∧ (1 ≤ i → y = y') ∧ (2 ≤ i → m = m') ∧ (3 ≤ i → d = d') ∧ st = ⟨[(5, .row [.int .i64 y, .int .i64 m, .int .i64 d] 3), (6, .row [.int .i64 y', .int .i64 m', .int .i64 d'] 3), (7, .int .i64 i)], []⟩) 3
  ⟨0, rfl, by omega, by omega, by omega, by omega, rfl⟩ (by refine ⟨?_, ?_, rfl, Nat.le_of_ble_eq_true rfl⟩ <;> repeat (first | exact trivial | exact rfl | refine ⟨rfl, ?_⟩ | refine ⟨.inr ⟨rfl, ?_⟩, ?_⟩ | refine ⟨.inl rfl, ?_⟩)) ?_
 rintro _ _ ⟨i, rfl, hi, h1, h2, h3, rfl⟩
 obtain rfl | rfl | rfl | rfl : i = 0 ∨ i = 1 ∨ i = 2 ∨ i = 3 := by omega
 ·skip
  refine W.seq (W.seq (W.region ?_))
  refine z_p ?_
  refine z_p ?_
  refine WL.nil ?_
  refine W.cond_true rfl (W.skip ?_)
  refine W.seq (W.block ?_)
  refine W.seq (W.seq (W.drawnR mixed [26, 27, 28, 29, 30, 31, 32, 33] (by kernel_rfl) ?_))
  apply DrawFrom.stepR
  ·intro more
   refine z_p ?_
   exact z_e
  apply DrawFrom.stepR
  ·intro more
   refine z_p ?_
   exact z_e
  apply DrawFrom.stepR
  ·intro more
   refine sp (v_indexAddr_row rfl rfl rfl rfl rfl rfl (by omega) (by omega) (List.cons_ne_nil _ _)) rfl rfl rfl ?_
   exact z_e
  apply DrawFrom.stepR
  ·intro more
   refine sq (v_load_radr rfl rfl rfl rfl) (show _ = AV.int .i64 y from rfl) rfl rfl rfl ?_
   exact z_e
  apply DrawFrom.stepR
  ·intro more
   refine z_p ?_
   exact z_e
  apply DrawFrom.stepR
  ·intro more
   refine z_p ?_
   exact z_e
  apply DrawFrom.stepR
  ·intro more
   refine sp (v_indexAddr_row rfl rfl rfl rfl rfl rfl (by omega) (by omega) (List.cons_ne_nil _ _)) rfl rfl rfl ?_
   exact z_e
  apply DrawFrom.stepR
  ·intro more
   refine sq (v_load_radr rfl rfl rfl rfl) (show _ = AV.int .i64 y' from rfl) rfl rfl rfl ?_
   exact z_e
  refine DrawFrom.doneR (rfl : _ = (_, _) :: (_, _) :: (_, _) :: (_, _) :: (_, _) :: (_, _) :: (_, _) :: (_, _) :: _) ?_
  refine z_p ?_
  refine WL.nil ?_
  refine W.cond rfl (fun hc => ?_) (fun hc => ?_)
  ·have hc0 : y < y' := by simpa using hc
   refine W.seq (W.region ?_)
   refine z_p ?_
   refine WL.nil ?_
   refine W.ret (fin rfl (.shut (.plain rfl) .nil) ?_)
   clear hk hj hc
   simp_all [cmpD, or3, cmpI, tupAV]
  ·have hc0 : ¬ y < y' := by simpa using hc
   refine W.skip ?_
   refine W.seq (W.drawnR mixed [35, 36, 37, 38, 39, 40, 41, 42] (by kernel_rfl) ?_)
   apply DrawFrom.stepR
   ·intro more
    refine z_p ?_
    exact z_e
   apply DrawFrom.stepR
   ·intro more
    refine z_p ?_
    exact z_e
   apply DrawFrom.stepR
   ·intro more
    refine sp (v_indexAddr_row rfl rfl rfl rfl rfl rfl (by omega) (by omega) (List.cons_ne_nil _ _)) rfl rfl rfl ?_
    exact z_e
   apply DrawFrom.stepR
   ·intro more
    refine sq (v_load_radr rfl rfl rfl rfl) (show _ = AV.int .i64 y from rfl) rfl rfl rfl ?_
    exact z_e
   apply DrawFrom.stepR
   ·intro more
    refine z_p ?_
    exact z_e
   apply DrawFrom.stepR
   ·intro more
    refine z_p ?_
    exact z_e
   apply DrawFrom.stepR
   ·intro more
    refine sp (v_indexAddr_row rfl rfl rfl rfl rfl rfl (by omega) (by omega) (List.cons_ne_nil _ _)) rfl rfl rfl ?_
    exact z_e
   apply DrawFrom.stepR
   ·intro more
    refine sq (v_load_radr rfl rfl rfl rfl) (show _ = AV.int .i64 y' from rfl) rfl rfl rfl ?_
    exact z_e
   refine DrawFrom.doneR (rfl : _ = (_, _) :: (_, _) :: (_, _) :: (_, _) :: (_, _) :: (_, _) :: (_, _) :: (_, _) :: _) ?_
   refine z_p ?_
   refine WL.nil ?_
   refine W.cond rfl (fun hd => ?_) (fun hd => ?_)
   ·have hd0 : y > y' := by simpa using hd
    have e : cmpI y y' = 1 := by rw [cmpI, if_neg hc0, if_pos hd0]
    refine W.seq (W.region ?_)
    refine z_p ?_
    refine WL.nil ?_
    refine W.ret (fin rfl (.shut (.plain rfl) .nil) ?_)
    clear hk hj hc hd hd0 hc0
    simp_all [cmpD, or3, tupAV]
   ·have hd0 : ¬ y > y' := by simpa using hd
    refine W.skip ?_
    refine W.region ?_
    refine z_p ?_
    refine z_i ?_
    refine z_p ?_
    refine WL.nil ?_
    exact ⟨2, _, _, by omega, ⟨1, by omega, by omega, by omega, by omega, by omega, rfl⟩, (by refine ⟨?_, ?_, rfl, Nat.le_of_ble_eq_true rfl⟩ <;> repeat (first | exact trivial | exact rfl | refine ⟨rfl, ?_⟩ | refine ⟨.inr ⟨rfl, ?_⟩, ?_⟩ | refine ⟨.inl rfl, ?_⟩))⟩
 ·skip
  refine W.seq (W.seq (W.region ?_))
  refine z_p ?_
  refine z_p ?_
  refine WL.nil ?_
  refine W.cond_true rfl (W.skip ?_)
  refine W.seq (W.block ?_)
  refine W.seq (W.seq (W.drawnR mixed [26, 27, 28, 29, 30, 31, 32, 33] (by kernel_rfl) ?_))
  apply DrawFrom.stepR
  ·intro more
   refine z_p ?_
   exact z_e
  apply DrawFrom.stepR
  ·intro more
   refine z_p ?_
   exact z_e
  apply DrawFrom.stepR
  ·intro more
   refine sp (v_indexAddr_row rfl rfl rfl rfl rfl rfl (by omega) (by omega) (List.cons_ne_nil _ _)) rfl rfl rfl ?_
   exact z_e
  apply DrawFrom.stepR
  ·intro more
   refine sq (v_load_radr rfl rfl rfl rfl) (show _ = AV.int .i64 m from rfl) rfl rfl rfl ?_
   exact z_e
  apply DrawFrom.stepR
  ·intro more
   refine z_p ?_
   exact z_e
  apply DrawFrom.stepR
  ·intro more
   refine z_p ?_
   exact z_e
  apply DrawFrom.stepR
  ·intro more
   refine sp (v_indexAddr_row rfl rfl rfl rfl rfl rfl (by omega) (by omega) (List.cons_ne_nil _ _)) rfl rfl rfl ?_
   exact z_e
  apply DrawFrom.stepR
  ·intro more
   refine sq (v_load_radr rfl rfl rfl rfl) (show _ = AV.int .i64 m' from rfl) rfl rfl rfl ?_
   exact z_e
  refine DrawFrom.doneR (rfl : _ = (_, _) :: (_, _) :: (_, _) :: (_, _) :: (_, _) :: (_, _) :: (_, _) :: (_, _) :: _) ?_
  refine z_p ?_
  refine WL.nil ?_
  refine W.cond rfl (fun hc => ?_) (fun hc => ?_)
  ·have hc0 : m < m' := by simpa using hc
   refine W.seq (W.region ?_)
   refine z_p ?_
   refine WL.nil ?_
   refine W.ret (fin rfl (.shut (.plain rfl) .nil) ?_)
   clear hk hj hc
   simp_all [cmpD, or3, cmpI, tupAV]
  ·have hc0 : ¬ m < m' := by simpa using hc
   refine W.skip ?_
   refine W.seq (W.drawnR mixed [35, 36, 37, 38, 39, 40, 41, 42] (by kernel_rfl) ?_)
   apply DrawFrom.stepR
   ·intro more
    refine z_p ?_
    exact z_e
   apply DrawFrom.stepR
   ·intro more
    refine z_p ?_
    exact z_e
   apply DrawFrom.stepR
   ·intro more
    refine sp (v_indexAddr_row rfl rfl rfl rfl rfl rfl (by omega) (by omega) (List.cons_ne_nil _ _)) rfl rfl rfl ?_
    exact z_e
   apply DrawFrom.stepR
   ·intro more
    refine sq (v_load_radr rfl rfl rfl rfl) (show _ = AV.int .i64 m from rfl) rfl rfl rfl ?_
    exact z_e
   apply DrawFrom.stepR
   ·intro more
    refine z_p ?_
    exact z_e
   apply DrawFrom.stepR
   ·intro more
    refine z_p ?_
    exact z_e
   apply DrawFrom.stepR
   ·intro more
    refine sp (v_indexAddr_row rfl rfl rfl rfl rfl rfl (by omega) (by omega) (List.cons_ne_nil _ _)) rfl rfl rfl ?_
    exact z_e
   apply DrawFrom.stepR
   ·intro more
    refine sq (v_load_radr rfl rfl rfl rfl) (show _ = AV.int .i64 m' from rfl) rfl rfl rfl ?_
    exact z_e
   refine DrawFrom.doneR (rfl : _ = (_, _) :: (_, _) :: (_, _) :: (_, _) :: (_, _) :: (_, _) :: (_, _) :: (_, _) :: _) ?_
   refine z_p ?_
   refine WL.nil ?_
   refine W.cond rfl (fun hd => ?_) (fun hd => ?_)
   ·have hd0 : m > m' := by simpa using hd
    have e : cmpI m m' = 1 := by rw [cmpI, if_neg hc0, if_pos hd0]
    refine W.seq (W.region ?_)
    refine z_p ?_
    refine WL.nil ?_
    refine W.ret (fin rfl (.shut (.plain rfl) .nil) ?_)
    clear hk hj hc hd hd0 hc0
    simp_all [cmpD, or3, tupAV]
   ·have hd0 : ¬ m > m' := by simpa using hd
    refine W.skip ?_
    refine W.region ?_
    refine z_p ?_
    refine z_i ?_
    refine z_p ?_
    refine WL.nil ?_
    exact ⟨1, _, _, by omega, ⟨2, by omega, by omega, by omega, by omega, by omega, rfl⟩, (by refine ⟨?_, ?_, rfl, Nat.le_of_ble_eq_true rfl⟩ <;> repeat (first | exact trivial | exact rfl | refine ⟨rfl, ?_⟩ | refine ⟨.inr ⟨rfl, ?_⟩, ?_⟩ | refine ⟨.inl rfl, ?_⟩))⟩
 ·skip
  refine W.seq (W.seq (W.region ?_))
  refine z_p ?_
  refine z_p ?_
  refine WL.nil ?_
  refine W.cond_true rfl (W.skip ?_)
  refine W.seq (W.block ?_)
  refine W.seq (W.seq (W.drawnR mixed [26, 27, 28, 29, 30, 31, 32, 33] (by kernel_rfl) ?_))
  apply DrawFrom.stepR
  ·intro more
   refine z_p ?_
   exact z_e
  apply DrawFrom.stepR
  ·intro more
   refine z_p ?_
   exact z_e
  apply DrawFrom.stepR
  ·intro more
   refine sp (v_indexAddr_row rfl rfl rfl rfl rfl rfl (by omega) (by omega) (List.cons_ne_nil _ _)) rfl rfl rfl ?_
   exact z_e
  apply DrawFrom.stepR
  ·intro more
   refine sq (v_load_radr rfl rfl rfl rfl) (show _ = AV.int .i64 d from rfl) rfl rfl rfl ?_
   exact z_e
  apply DrawFrom.stepR
  ·intro more
   refine z_p ?_
   exact z_e
  apply DrawFrom.stepR
  ·intro more
   refine z_p ?_
   exact z_e
  apply DrawFrom.stepR
  ·intro more
   refine sp (v_indexAddr_row rfl rfl rfl rfl rfl rfl (by omega) (by omega) (List.cons_ne_nil _ _)) rfl rfl rfl ?_
   exact z_e
  apply DrawFrom.stepR
  ·intro more
   refine sq (v_load_radr rfl rfl rfl rfl) (show _ = AV.int .i64 d' from rfl) rfl rfl rfl ?_
   exact z_e
  refine DrawFrom.doneR (rfl : _ = (_, _) :: (_, _) :: (_, _) :: (_, _) :: (_, _) :: (_, _) :: (_, _) :: (_, _) :: _) ?_
  refine z_p ?_
  refine WL.nil ?_
  refine W.cond rfl (fun hc => ?_) (fun hc => ?_)
  ·have hc0 : d < d' := by simpa using hc
   refine W.seq (W.region ?_)
   refine z_p ?_
   refine WL.nil ?_
   refine W.ret (fin rfl (.shut (.plain rfl) .nil) ?_)
   clear hk hj hc
   simp_all [cmpD, or3, cmpI, tupAV]
  ·have hc0 : ¬ d < d' := by simpa using hc
   refine W.skip ?_
   refine W.seq (W.drawnR mixed [35, 36, 37, 38, 39, 40, 41, 42] (by kernel_rfl) ?_)
   apply DrawFrom.stepR
   ·intro more
    refine z_p ?_
    exact z_e
   apply DrawFrom.stepR
   ·intro more
    refine z_p ?_
    exact z_e
   apply DrawFrom.stepR
   ·intro more
    refine sp (v_indexAddr_row rfl rfl rfl rfl rfl rfl (by omega) (by omega) (List.cons_ne_nil _ _)) rfl rfl rfl ?_
    exact z_e
   apply DrawFrom.stepR
   ·intro more
    refine sq (v_load_radr rfl rfl rfl rfl) (show _ = AV.int .i64 d from rfl) rfl rfl rfl ?_
    exact z_e
   apply DrawFrom.stepR
   ·intro more
    refine z_p ?_
    exact z_e
   apply DrawFrom.stepR
   ·intro more
    refine z_p ?_
    exact z_e
   apply DrawFrom.stepR
   ·intro more
    refine sp (v_indexAddr_row rfl rfl rfl rfl rfl rfl (by omega) (by omega) (List.cons_ne_nil _ _)) rfl rfl rfl ?_
    exact z_e
   apply DrawFrom.stepR
   ·intro more
    refine sq (v_load_radr rfl rfl rfl rfl) (show _ = AV.int .i64 d' from rfl) rfl rfl rfl ?_
    exact z_e
   refine DrawFrom.doneR (rfl : _ = (_, _) :: (_, _) :: (_, _) :: (_, _) :: (_, _) :: (_, _) :: (_, _) :: (_, _) :: _) ?_
   refine z_p ?_
   refine WL.nil ?_
   refine W.cond rfl (fun hd => ?_) (fun hd => ?_)
   ·have hd0 : d > d' := by simpa using hd
    have e : cmpI d d' = 1 := by rw [cmpI, if_neg hc0, if_pos hd0]
    refine W.seq (W.region ?_)
    refine z_p ?_
    refine WL.nil ?_
    refine W.ret (fin rfl (.shut (.plain rfl) .nil) ?_)
    clear hk hj hc hd hd0 hc0
    simp_all [cmpD, or3, tupAV]
   ·have hd0 : ¬ d > d' := by simpa using hd
    refine W.skip ?_
    refine W.region ?_
    refine z_p ?_
    refine z_i ?_
    refine z_p ?_
    refine WL.nil ?_
    exact ⟨0, _, _, by omega, ⟨3, by omega, by omega, by omega, by omega, by omega, rfl⟩, (by refine ⟨?_, ?_, rfl, Nat.le_of_ble_eq_true rfl⟩ <;> repeat (first | exact trivial | exact rfl | refine ⟨rfl, ?_⟩ | refine ⟨.inr ⟨rfl, ?_⟩, ?_⟩ | refine ⟨.inl rfl, ?_⟩))⟩
 ·skip
  refine W.seq (W.seq (W.region ?_))
  refine z_p ?_
  refine z_p ?_
  refine WL.nil ?_
  refine W.cond_false rfl (W.exit ?_)
  refine W.seq (W.region ?_)
  refine z_p ?_
  refine WL.nil ?_
  refine W.ret (fin rfl (.shut (.plain rfl) .nil) ?_)
  clear hk hj
  simp_all [cmpD, or3, cmpI, tupAV]
end Go.Proofs.YtejpblopbdgkaaaGreatDoor

set_option linter.unusedVariables false
set_option linter.unusedSimpArgs false
namespace Go.Proofs.YtejpblopbdgkaaaGreatDoor
open Go Go.Lens
def wordL : List (List UInt8) := [[99, 97, 115, 104], [108, 111, 97, 110], [97, 99, 99, 114, 117, 101, 100], [100, 117, 101], [105, 110, 99, 111, 109, 101]]
def wordsAV : AV := .agg (wordL.map AV.str)
theorem words_spec : Does Tryz.prog 131 [] wordsAV := by
 refine does tab_ok Tryz.func131 rfl rfl rfl rfl rfl fun w0 H0 hk hj => ?_
 refine W.seq (W.region ?_)
 refine z_a 0 [_] ?_
 refine WL.nil ?_
 refine W.seq (W.region ?_)
 refine sq (v_build rfl rfl rfl rfl rfl rfl rfl) (rfl : _ = AV.agg [_, _, _, _, _]) rfl rfl rfl ?_
 refine z_s [_] ?_
 refine WL.nil ?_
 refine W.ret (fin rfl (.shut (.plain (by first | rfl | simp [plainL, AV.plain])) .nil) ?_)
 rfl
def wordF (a : Int) : List UInt8 := if isF a then wordL.getD a.toNat [] else []
theorem word_get (a : Int) (h : isF a = true) : (wordL.map AV.str)[a.toNat * 1]? = some (.str (wordF a)) := by
 simp only [isF, Bool.and_eq_true, decide_eq_true_eq] at h
 have : a = 0 ∨ a = 1 ∨ a = 2 ∨ a = 3 ∨ a = 4 := by omega
 rcases this with rfl | rfl | rfl | rfl | rfl <;> rfl
theorem isF_true {a : Int} : isF a = true ↔ 0 ≤ a ∧ a < 5 := by simp [isF]
theorem word_spec (a : Int) : Does Tryz.prog 92 [.int .i64 a] (.str (wordF a)) := by
 refine does tab_ok Tryz.func92 rfl rfl rfl rfl rfl fun w0 H0 hk hj => ?_
 refine W.seq (W.region ?_)
 refine z_p ?_
 refine WL.nil ?_
 refine W.seq (W.seq (W.region ?_))
 refine z_p ?_
 refine z_c (is_spec a) ?_
 refine z_p ?_
 refine WL.nil ?_
 refine W.cond rfl (fun hc5 => ?_) (fun hc5 => ?_)
 ·skip
  simp only [Bool.not_eq_true', Bool.not_eq_false'] at hc5
  refine W.seq (W.region ?_)
  refine z_p ?_
  refine WL.nil ?_
  refine W.ret (fin rfl (.shut (.plain (by first | rfl | simp [plainL, AV.plain])) .nil) ?_)
  first | rfl | (refine congrArg AV.str ?_; simp [wordF, hc5])
 ·skip
  simp only [Bool.not_eq_true', Bool.not_eq_false'] at hc5
  refine W.skip ?_
  refine W.seq (W.region ?_)
  refine z_c (words_spec) ?_
  refine z_p ?_
  refine sp (v_index_arr rfl rfl rfl rfl rfl rfl (isF_true.1 hc5).1 (isF_true.1 hc5).2 (word_get a hc5)) rfl rfl rfl ?_
  refine z_p ?_
  refine WL.nil ?_
  refine W.ret (fin rfl (.shut (.plain (by first | rfl | simp [plainL, AV.plain])) .nil) ?_)
  first | rfl | (refine congrArg AV.str ?_; simp [wordF, hc5])
def ofI (s : List UInt8) : Int := if s ∈ wordL then (wordL.idxOf s : Nat) else 0
def ofB (s : List UInt8) : Bool := decide (s ∈ wordL)
theorem of_spec2 (s : List UInt8) : Does Tryz.prog 99 [.str s] (.tup [.int .i64 (ofI s), .bool (ofB s)]) := by
 refine does tab_ok Tryz.func99 rfl rfl rfl rfl rfl fun w0 H0 hk hj => ?_
 refine W.seq (W.region ?_)
 refine z_p ?_
 refine z_p ?_
 refine WL.nil ?_
 refine W.seq (W.seq (W.region ?_))
 refine z_c (words_spec) ?_
 refine z_p ?_
 refine WL.nil ?_
 refine W.block ?_
 refine W.while (fun m st => ∃ i : Nat, i ≤ 5 ∧ m = 5 - i ∧ (∀ j : Nat, j < i → wordL[j]? ≠ some s) ∧ st = ⟨[(0, .str s), (6, wordsAV), (7, .int .i64 i)], []⟩) 5 ⟨0, by omega, rfl, fun j h => by omega, rfl⟩ (by refine ⟨?_, ?_, rfl, Nat.le_of_ble_eq_true rfl⟩ <;> repeat (first | exact trivial | exact rfl | refine ⟨rfl, ?_⟩ | refine ⟨.inr ⟨rfl, ?_⟩, ?_⟩ | refine ⟨.inl rfl, ?_⟩)) ?_
 rintro m _ ⟨i, hi, rfl, hno, rfl⟩
 by_cases hlt : i < 5
 ·obtain ⟨w, hw⟩ : ∃ w, wordL[i]? = some w := ⟨wordL[i]'(by simpa [wordL] using hlt), by simp⟩
  have hget : (wordL.map AV.str)[(i : Int).toNat * 1]? = some (.str w) := by simp [hw]
  refine W.seq (W.region ?_)
  refine z_T (show (i : Int) < 5 by omega) ?_
  refine WL.nil ?_
  refine W.seq (W.cond_true rfl (W.skip ?_))
  refine W.seq (W.block ?_)
  refine W.seq (W.region ?_)
  refine z_p ?_
  refine sp (v_index_arr rfl rfl rfl rfl rfl rfl (by omega) (by omega) hget) rfl rfl rfl ?_
  refine z_p ?_
  refine z_p ?_
  refine WL.nil ?_
  refine W.seq (W.region ?_)
  refine z_p ?_
  refine z_p ?_
  refine z_p ?_
  refine WL.nil ?_
  refine W.cond rfl (fun hc => ?_) (fun hc => ?_)
  ·have hws : w = s := by simpa using hc
   subst hws
   refine W.seq (W.region ?_)
   refine z_p ?_
   refine z_p ?_
   refine z_p ?_
   refine WL.nil ?_
   refine W.ret (fin rfl (.shut (.plain rfl) (.shut (.plain rfl) .nil)) ?_)
   have hm : w ∈ wordL := List.mem_of_getElem? hw
   have hix : wordL.idxOf w = i := by
    have : i = 0 ∨ i = 1 ∨ i = 2 ∨ i = 3 ∨ i = 4 := by omega
    rcases this with rfl | rfl | rfl | rfl | rfl <;> (simp [wordL] at hw; subst hw; decide)
   simp [tupAV, ofI, ofB, hm, hix]
  ·refine W.skip ?_
   have hws : w ≠ s := by intro h; subst h; simp at hc
   refine W.region ?_
   refine z_i ?_
   refine z_p ?_
   refine WL.nil ?_
   refine ⟨5 - (i + 1), _, _, by omega, ⟨i + 1, by omega, rfl, fun j hj' => ?_, rfl⟩, (by refine ⟨?_, ?_, rfl, Nat.le_of_ble_eq_true rfl⟩ <;> repeat (first | exact trivial | exact rfl | refine ⟨rfl, ?_⟩ | refine ⟨.inr ⟨rfl, ?_⟩, ?_⟩ | refine ⟨.inl rfl, ?_⟩))⟩
   rcases Nat.lt_or_ge j i with h | h
   ·exact hno j h
   ·have : j = i := by omega
    subst this; rw [hw]; simpa using hws
 ·have hi5 : i = 5 := by omega
  subst hi5
  have hm : s ∉ wordL := by
   intro h
   obtain ⟨j, hj'⟩ := List.getElem?_of_mem h
   have := (List.getElem?_eq_some_iff.1 hj').1
   exact hno j (by simpa [wordL] using this) hj'
  refine W.seq (W.region ?_)
  refine z_F (show ¬ (((5 : Nat) : Int) < 5) by omega) ?_
  refine WL.nil ?_
  refine W.seq (W.cond_false rfl (W.exit ?_))
  refine W.seq (W.region ?_)
  refine z_p ?_
  refine z_p ?_
  refine WL.nil ?_
  refine W.ret (fin rfl (.shut (.plain rfl) (.shut (.plain rfl) .nil)) ?_)
  simp [tupAV, ofI, ofB, hm]
end Go.Proofs.YtejpblopbdgkaaaGreatDoor

set_option linter.unusedVariables false
set_option linter.unusedSimpArgs false
namespace Go.Proofs.YtejpblopbdgkaaaGreatDoor
open Go Go.Lens
end Go.Proofs.YtejpblopbdgkaaaGreatDoor

set_option linter.unusedVariables false
set_option linter.unusedSimpArgs false
namespace Go.Proofs.YtejpblopbdgkaaaGreatDoor
open Go Go.Lens
def rL (s : List UInt8) : List Nat := if wE s = 0 then digs DB (decF (plainP s)) else []
def rB (s : List UInt8) : Bool := if wE s = 0 then signP s && !(digs DB (decF (plainP s)) == []) else false
def rWholeAV (s : List UInt8) : AV := .tup [rIntAV (rL s) (rB s), .int .i64 (wE s)]
theorem numText_zero {s : List UInt8} (h : numText s = true) (h0 : decF s = 0) : s = [48] := by
 rcases s with _ | ⟨c, _ | ⟨d, r⟩⟩
 ·simp [numText] at h
 ·have hc : isDig c = true := by simp [numText] at h; exact h
  have := (isDig_iff c).1 hc
  simp [decF] at h0
  have : c = 48 := UInt8.toNat_inj.1 (show c.toNat = 48 by omega)
  rw [this]
 ·exfalso
  simp only [numText, Bool.and_eq_true, Bool.not_eq_true', List.all_eq_true] at h
  obtain ⟨⟨_, hd⟩, hl⟩ := h
  have hc := (isDig_iff c).1 (hd c (by simp))
  have h48 : c ≠ 48 := by intro e; subst e; simp at hl
  have hn : c.toNat ≠ 48 := fun e => h48 (UInt8.toNat_inj.1 e)
  have e : c :: d :: r = [c] ++ (d :: r) := rfl
  rw [e, decF_append] at h0
  have hp : 0 < 10 ^ (d :: r).length := Nat.pow_pos (by decide)
  have hz : decF [c] = 0 := by
   rcases Nat.eq_zero_or_pos (decF [c]) with h | h
   ·exact h
   ·have := Nat.mul_pos h hp; omega
  simp [decF] at hz
  omega
theorem digs_nil_iff (s : List UInt8) {B : Nat} (hB : 2 ≤ B) (h : numText s = true) : digs B (decF s) = [] ↔ s = [48] := by
 rw [digs_eq_nil hB]
 exact ⟨numText_zero h, fun e => by subst e; rfl⟩
theorem wE_long {s : List UInt8} (h : (plainP s).length > 4096) : wE s = 7 := by simp only [wE, if_pos h]
theorem wE_bad {s : List UInt8} (h : ¬ (plainP s).length > 4096) (h2 : numText (plainP s) = false) : wE s = 5 := by simp only [wE, if_neg h, if_pos h2]
theorem wE_nought {s : List UInt8} (h : ¬ (plainP s).length > 4096) (h2 : numText (plainP s) = true) (h3 : plainP s = [48]) (h4 : signP s = true) : wE s = 5 := by
 have hd : digs LB (decF (plainP s)) = [] := (digs_nil_iff _ (by decide) h2).2 h3
 simp only [wE, if_neg h, h2, h4, hd]; rfl
theorem wE_ok {s : List UInt8} (h : ¬ (plainP s).length > 4096) (h2 : numText (plainP s) = true) (h3 : plainP s = [48] → signP s = false) : wE s = 0 := by
 have : (signP s && (digs LB (decF (plainP s)) == [])) = false := by
  by_cases hp : plainP s = [48]
  ·rw [h3 hp, Bool.false_and]
  ·have : digs LB (decF (plainP s)) ≠ [] := fun e => hp ((digs_nil_iff _ (by decide) h2).1 e)
   simp [this]
 simp only [wE, if_neg h, h2, this]
 simp
theorem rWhole_err {s : List UInt8} {e : Int} (h : wE s = e) (he : e ≠ 0) : rWholeAV s = .tup [rIntAV [] false, .int .i64 e] := by
 subst h; simp only [rWholeAV, rL, rB, if_neg he]
/-- the text without its sign, as the two functions find it -/
theorem numText_digs {s : List UInt8} (h : numText s = true) : ∀ c ∈ s, isDig c = true := by
 simp only [numText, Bool.and_eq_true, List.all_eq_true] at h
 exact h.1.2
theorem rRead4_spec (s : List UInt8) (hs : s.length ≤ 1000000000) (h : numText (plainP s) = true) : Does Tryz.prog 57 [.str s] (rIntAV (digs DB (decF (plainP s))) (signP s && !(digs DB (decF (plainP s)) == []))) := by
 rcases s with _ | ⟨c, r⟩
 ·rw [plain_nil.1] at h; simp [numText] at h
 ·by_cases hc : c = 45
  ·subst hc
   obtain ⟨e1, e2⟩ := plain_neg r
   rw [e1] at h
   have hl : ((45 : UInt8) :: r).length = r.length + 1 := rfl
   rw [e1, e2, Bool.true_and]
   exact rRead4_neg r (by omega) (numText_digs h)
  ·obtain ⟨e1, e2⟩ := plain_pos c r hc
   rw [e1] at h
   rw [e1, e2, Bool.false_and]
   exact rRead4_pos c r hc hs (numText_digs h)
theorem plainP_le (s : List UInt8) : (plainP s).length ≤ s.length := by
 simp only [plainP]; split
 ·simp
 ·exact Nat.le_refl _
theorem nought_len {s : List UInt8} (h : plainP s = [48]) : (decide ((s.length : Int) > 1)) = signP s := by
 rcases s with _ | ⟨c, r⟩
 ·simp [plainP, hasP] at h
 ·by_cases hc : c = 45
  ·subst hc
   obtain ⟨e1, e2⟩ := plain_neg r
   rw [e1] at h; subst h; rw [e2]; rfl
  ·obtain ⟨e1, e2⟩ := plain_pos c r hc
   rw [e1] at h; rw [h] at e2 ⊢; rw [e2]; rfl
theorem rWhole_spec (s : List UInt8) (hs : s.length ≤ 1000000000) : Does Tryz.prog 133 [.str s] (rWholeAV s) := by
 have hp := plainP_le s
 have ht := rText_spec (plainP s) (by omega)
 refine does tab_ok Tryz.func133 rfl rfl rfl rfl rfl fun w0 H0 hk hj => ?_
 refine W.seq (W.region ?_)
 refine z_a 0 [_] ?_
 refine z_p ?_
 refine WL.nil ?_
 refine W.seq (W.region ?_)
 refine z_c (rFrom_spec 0 (by decide) (by decide)) ?_
 refine z_a 1 [_, _] ?_
 refine ss (a_storeA rfl rfl rfl rfl rfl (fun h => by cases h) rfl rfl rfl (Nat.le_of_ble_eq_true rfl)) (rfl : _ = [AObj.cells [.nils, .bool false] 0 1 false none, AObj.cells [.row (i64AV (digs DB (Int.natAbs 0))) (digs DB (Int.natAbs 0)).length, .bool false] 0 1 false none]) rfl rfl ?_
 refine WL.nil ?_
 have hz : digs DB (Int.natAbs 0) = [] := digs_zero DB
 rw [hz]
 obtain ⟨p, hpp⟩ : ∃ p, p = plainP s := ⟨_, rfl⟩
 rw [← hpp] at hp ht
 have h3 : (s = [] ∧ s = p) ∨ (s[0]? = some 45 ∧ s.drop 1 = p ∧ 0 < s.length) ∨ (∃ c, s[0]? = some c ∧ ((c.toNat : Int) == 45) = false ∧ s = p ∧ 0 < s.length) := by
  rcases s with _ | ⟨c, r⟩
  ·exact .inl ⟨rfl, by rw [hpp, plain_nil.1]⟩
  ·by_cases hc : c = 45
   ·subst hc
    exact .inr (.inl ⟨rfl, by rw [hpp, (plain_neg r).1]; rfl, by simp⟩)
   ·refine .inr (.inr ⟨c, rfl, ?_, by rw [hpp, (plain_pos c r hc).1], by simp⟩)
    rw [beq_eq_false_iff_ne]; intro h; exact hc (UInt8.toNat_inj.1 (by show c.toNat = 45; omega))
 rcases h3 with ⟨h3, h4⟩ | ⟨h3, h4, h5⟩ | ⟨c, h3, h4, h6, h5⟩
 refine W.seq (W.region ?_)
 refine z_p ?_
 refine sq (v_pure rfl) (show _ = AV.str p from congrArg AV.str h4) rfl rfl rfl ?_
 refine WL.nil ?_
 refine W.seq (W.seq (W.region ?_))
 refine z_p ?_
 refine sp (v_len rfl rfl rfl rfl rfl trivial) rfl rfl rfl ?_
 refine z_F (show ¬ ((s.length : Int) > 0) by rw [h3]; decide) ?_
 refine z_p ?_
 refine z_o ?_
 refine z_o ?_
 refine z_o ?_
 refine z_p ?_
 refine WL.nil ?_
 refine W.cond_false rfl (W.skip ?_)
 refine W.fits (env0 := [(0, .str s), (3, .int .i64 0), (4, .ptr 1 0 0), (2, .ptr 0 0 0), (5, .str p)]) (objs0 := [.cells [.nils, .bool false] 0 1 false none, .cells [.row (i64AV []) 0, .bool false] 0 1 false none]) (by refine ⟨?_, ?_, rfl, Nat.le_of_ble_eq_true rfl⟩ <;> repeat (first | exact trivial | exact rfl | refine ⟨rfl, ?_⟩ | refine ⟨.inr ⟨rfl, ?_⟩, ?_⟩ | refine ⟨.inl rfl, ?_⟩)) ?_
 rotate_left 1
 refine W.seq (W.region ?_)
 refine z_p ?_
 refine z_p ?_
 refine WL.nil ?_
 refine W.seq (W.seq (W.region ?_))
 refine z_p ?_
 refine sp (v_len rfl rfl rfl rfl rfl trivial) rfl rfl rfl ?_
 refine z_T (show ((s.length : Int) > 0) by omega) ?_
 refine z_p ?_
 refine z_p ?_
 refine sp (v_index_str (b := 45) rfl rfl rfl rfl rfl (by omega) h3) rfl rfl rfl ?_
 refine z_p ?_
 refine z_p ?_
 refine WL.nil ?_
 refine W.cond_true rfl ?_
 refine W.region ?_
 refine z_p ?_
 refine sq (v_slice_str rfl rfl rfl rfl ⟨_, _, rfl, by omega, rfl⟩ rfl (by omega) (by omega)) (show _ = AV.str p from congrArg AV.str (by rw [← h4]; simp [List.take_of_length_le])) rfl rfl rfl ?_
 refine z_p ?_
 refine WL.nil ?_
 refine W.fits (env0 := [(0, .str s), (3, .int .i64 0), (4, .ptr 1 0 0), (2, .ptr 0 0 0), (5, .str p)]) (objs0 := [.cells [.nils, .bool false] 0 1 false none, .cells [.row (i64AV []) 0, .bool false] 0 1 false none]) (by refine ⟨?_, ?_, rfl, Nat.le_of_ble_eq_true rfl⟩ <;> repeat (first | exact trivial | exact rfl | refine ⟨rfl, ?_⟩ | refine ⟨.inr ⟨rfl, ?_⟩, ?_⟩ | refine ⟨.inl rfl, ?_⟩)) ?_
 rotate_left 1
 refine W.seq (W.region ?_)
 refine z_p ?_
 refine sq (v_pure rfl) (show _ = AV.str p from congrArg AV.str h6) rfl rfl rfl ?_
 refine WL.nil ?_
 refine W.seq (W.seq (W.region ?_))
 refine z_p ?_
 refine sp (v_len rfl rfl rfl rfl rfl trivial) rfl rfl rfl ?_
 refine z_T (show ((s.length : Int) > 0) by omega) ?_
 refine z_p ?_
 refine z_p ?_
 refine sp (v_index_str (b := c) rfl rfl rfl rfl rfl (by omega) h3) rfl rfl rfl ?_
 refine sq (v_pure rfl) (show _ = AV.bool false from congrArg AV.bool h4) rfl rfl rfl ?_
 refine z_p ?_
 refine WL.nil ?_
 refine W.cond_false rfl (W.skip ?_)
 refine W.fits (env0 := [(0, .str s), (3, .int .i64 0), (4, .ptr 1 0 0), (2, .ptr 0 0 0), (5, .str p)]) (objs0 := [.cells [.nils, .bool false] 0 1 false none, .cells [.row (i64AV []) 0, .bool false] 0 1 false none]) (by refine ⟨?_, ?_, rfl, Nat.le_of_ble_eq_true rfl⟩ <;> repeat (first | exact trivial | exact rfl | refine ⟨rfl, ?_⟩ | refine ⟨.inr ⟨rfl, ?_⟩, ?_⟩ | refine ⟨.inl rfl, ?_⟩)) ?_
 all_goals
  by_cases hlong : p.length > 4096
  ·have he := wE_long (s := s) (hpp ▸ hlong)
   refine W.seq (W.seq (W.region ?_))
   refine z_p ?_
   refine sp (v_len rfl rfl rfl rfl rfl trivial) rfl rfl rfl ?_
   refine z_T (show (p.length : Int) > 4096 by omega) ?_
   refine WL.nil ?_
   refine W.cond_true rfl ?_
   refine W.seq (W.region ?_)
   first | refine z_l2 ?_ | refine z_r2 ?_
   refine z_s [_, _] ?_
   refine z_p ?_
   refine WL.nil ?_
   rw [rWhole_err he (by decide)]
   exact W.ret (fin (cs := [rIntAV [] false, .int .i64 7]) rfl (.shut (.plain (rIntAV_plain _ _)) (.shut (.plain rfl) .nil)) rfl)
  ·skip
   refine W.seq (W.seq (W.region ?_))
   refine z_p ?_
   refine sp (v_len rfl rfl rfl rfl rfl trivial) rfl rfl rfl ?_
   refine z_F (show ¬ ((p.length : Int) > 4096) by omega) ?_
   refine WL.nil ?_
   refine W.cond_false rfl (W.skip ?_)
   by_cases hn : numText p = true
   ·rw [hn] at ht
    by_cases hz8 : p = [48]
    ·have hl8 := nought_len (hpp ▸ hz8)
     by_cases hs8 : signP s = true
     ·have he := wE_nought (s := s) (hpp ▸ hlong) (hpp ▸ hn) (hpp ▸ hz8) hs8
      refine W.seq (W.region ?_)
      refine z_p ?_
      refine z_c (ht) ?_
      refine z_p ?_
      refine WL.nil ?_
      refine W.seq (W.seq (W.region ?_))
      refine z_p ?_
      refine z_p ?_
      refine z_p ?_
      refine z_p ?_
      refine sp (v_is true rfl rfl rfl rfl (by simpa using hz8)) rfl rfl rfl ?_
      refine z_p ?_
      refine z_p ?_
      refine sp (v_len rfl rfl rfl rfl rfl trivial) rfl rfl rfl ?_
      refine sq (v_pure rfl) (show _ = AV.bool true from congrArg AV.bool (by rw [hl8, hs8])) rfl rfl rfl ?_
      refine z_p ?_
      refine z_p ?_
      refine WL.nil ?_
      refine W.cond_true rfl ?_
      refine W.seq (W.region ?_)
      first | refine z_l2 ?_ | refine z_r2 ?_
      refine z_s [_, _] ?_
      refine z_p ?_
      refine WL.nil ?_
      rw [rWhole_err he (by decide)]
      exact W.ret (fin (cs := [rIntAV [] false, .int .i64 5]) rfl (.shut (.plain (rIntAV_plain _ _)) (.shut (.plain rfl) .nil)) rfl)
     ·have hs8' : signP s = false := by simpa using hs8
      have he := wE_ok (s := s) (hpp ▸ hlong) (hpp ▸ hn) fun _ => hs8'
      have hr := rRead4_spec s hs (hpp ▸ hn)
      refine W.seq (W.region ?_)
      refine z_p ?_
      refine z_c (ht) ?_
      refine z_p ?_
      refine WL.nil ?_
      refine W.seq (W.seq (W.region ?_))
      refine z_p ?_
      refine z_p ?_
      refine z_p ?_
      refine z_p ?_
      refine sp (v_is true rfl rfl rfl rfl (by simpa using hz8)) rfl rfl rfl ?_
      refine z_p ?_
      refine z_p ?_
      refine sp (v_len rfl rfl rfl rfl rfl trivial) rfl rfl rfl ?_
      refine sq (v_pure rfl) (show _ = AV.bool false from congrArg AV.bool (by rw [hl8, hs8'])) rfl rfl rfl ?_
      refine z_p ?_
      refine z_p ?_
      refine WL.nil ?_
      refine W.cond_false rfl (W.skip ?_)
      refine W.seq (W.region ?_)
      refine z_p ?_
      refine z_c (hr) ?_
      refine z_s [_, _] ?_
      refine z_p ?_
      refine WL.nil ?_
      refine W.ret (fin (cs := [rIntAV (digs DB (decF (plainP s))) (signP s && !(digs DB (decF (plainP s)) == [])), .int .i64 0]) rfl (.shut (.plain (rIntAV_plain _ _)) (.shut (.plain rfl) .nil)) ?_)
      simp only [tupAV, rWholeAV, rL, rB, he, if_true]
    ·have he := wE_ok (s := s) (hpp ▸ hlong) (hpp ▸ hn) fun h => absurd (hpp.trans h) hz8
     have hr := rRead4_spec s hs (hpp ▸ hn)
     refine W.seq (W.region ?_)
     refine z_p ?_
     refine z_c (ht) ?_
     refine z_p ?_
     refine WL.nil ?_
     refine W.seq (W.seq (W.region ?_))
     refine z_p ?_
     refine z_p ?_
     refine z_p ?_
     refine z_p ?_
     refine sp (v_is false rfl rfl rfl rfl (by simpa using hz8)) rfl rfl rfl ?_
     refine z_p ?_
     refine z_o ?_
     refine z_o ?_
     refine z_o ?_
     refine z_p ?_
     refine z_p ?_
     refine WL.nil ?_
     refine W.cond_false rfl (W.skip ?_)
     refine W.seq (W.region ?_)
     refine z_p ?_
     refine z_c (hr) ?_
     refine z_s [_, _] ?_
     refine z_p ?_
     refine WL.nil ?_
     refine W.ret (fin (cs := [rIntAV (digs DB (decF (plainP s))) (signP s && !(digs DB (decF (plainP s)) == [])), .int .i64 0]) rfl (.shut (.plain (rIntAV_plain _ _)) (.shut (.plain rfl) .nil)) ?_)
     simp only [tupAV, rWholeAV, rL, rB, he, if_true]
   ·have hn' : numText p = false := by simpa using hn
    rw [hn'] at ht
    have he := wE_bad (s := s) (hpp ▸ hlong) (hpp ▸ hn')
    refine W.seq (W.region ?_)
    refine z_p ?_
    refine z_c (ht) ?_
    refine z_p ?_
    refine WL.nil ?_
    refine W.seq (W.seq (W.region ?_))
    refine z_p ?_
    refine z_p ?_
    refine z_p ?_
    refine z_o ?_
    refine z_o ?_
    refine z_o ?_
    refine z_o ?_
    refine z_o ?_
    refine z_o ?_
    refine z_o ?_
    refine z_p ?_
    refine WL.nil ?_
    refine W.cond_true rfl ?_
    refine W.seq (W.region ?_)
    first | refine z_l2 ?_ | refine z_r2 ?_
    refine z_s [_, _] ?_
    refine z_p ?_
    refine WL.nil ?_
    rw [rWhole_err he (by decide)]
    exact W.ret (fin (cs := [rIntAV [] false, .int .i64 5]) rfl (.shut (.plain (rIntAV_plain _ _)) (.shut (.plain rfl) .nil)) rfl)
end Go.Proofs.YtejpblopbdgkaaaGreatDoor

set_option linter.unusedVariables false
set_option linter.unusedSimpArgs false
namespace Go.Proofs.YtejpblopbdgkaaaGreatDoor
open Go Go.Lens
theorem rem_any {k : IntKind} {a b : Int} (h : b ≠ 0) : binAV .rem (.int k a) (.int k b) = some (.int k (a.tmod b)) := by
 simp only [binAV, isShift, intAV, Bool.false_eq_true, if_false, if_true, if_neg h]
theorem tmod_fix {a b : Int} (hb : 0 < b) : (if a.tmod b < 0 then a.tmod b + b else a.tmod b) = a % b := by
 have h0 := Int.emod_nonneg a (show b ≠ 0 by omega)
 have h1 := Int.emod_lt_of_pos a hb
 rw [Int.tmod_eq_emod]
 split
 ·rw [if_neg (by omega)]; omega
 ·rw [if_pos (by omega)]; omega
theorem tmod_bounds {a b : Int} (hb : 0 < b) : -b < a.tmod b ∧ a.tmod b < b := by
 have h0 := Int.emod_nonneg a (show b ≠ 0 by omega)
 have h1 := Int.emod_lt_of_pos a hb
 rw [Int.tmod_eq_emod]
 split <;> omega
theorem daysF_right {y m : Int} (hy : 1 ≤ y ∧ y ≤ 9999) (hm : 1 ≤ m ∧ m ≤ 12) : 28 ≤ daysF y m ∧ daysF y m ≤ 31 := by
 unfold daysF
 rw [if_neg (by omega)]
 split
 ·split <;> omega
 ·split <;> omega
def makeM (b : Int) : Int := b % 12 + 1
theorem nil_same (s : List UInt8) : (digs LB (decF (plainP s)) == []) = (digs DB (decF (plainP s)) == []) := by
 rw [Bool.eq_iff_iff, beq_iff_eq, beq_iff_eq, digs_eq_nil (B := LB) (by decide), digs_eq_nil (B := DB) (by decide)]
theorem chart_last (am : List UInt8) : (if (if wL am = [] then (0 : Int) else if wB am then -1 else 1) ≤ 0 then (19 : Int) else 0) = if rB am = true ∨ rL am = [] then 19 else 0 := by
 have h1 : wL am = [] ↔ rL am = [] := by
  simp only [wL, rL]
  split
  ·rw [digs_eq_nil (B := LB) (by decide), digs_eq_nil (B := DB) (by decide)]
  ·rfl
 have h2 : wB am = rB am := by simp only [wB, rB, nil_same]
 rw [h2]
 by_cases h : rL am = []
 ·rw [if_pos (h1.2 h), if_pos (by decide), if_pos (.inr h)]
 ·rw [if_neg (fun e => h (h1.1 e))]
  cases rB am
  ·rw [if_neg (by decide), if_neg (by simpa using h)]
  ·rw [if_pos (by decide), if_pos (.inl rfl)]
theorem rCheck_spec (y m d db cr : Int) (am : List UInt8) (hs : am.length ≤ 1000000000) : Does Tryz.prog 93 [entryAV y m d db cr am] (.int .i64 (chartF y m d db cr am)) := by
 have hw : Does Tryz.prog 133 [.str am] (.tup [rIntAV (rL am) (rB am), .int .i64 (wE am)]) := rWhole_spec am hs
 refine does tab_ok Tryz.func93 rfl rfl rfl rfl rfl fun w0 H0 hk hj => ?_
 refine W.seq (W.region ?_)
 first | refine z_B 0 [_] ?_ | refine sn (a_box rfl rfl (.inr ⟨trivial, rfl⟩)) (rfl : _ = AV.ptr 0 0 0) (rfl : _ = [_]) rfl rfl rfl ?_
 refine z_p ?_
 refine WL.nil ?_
 refine W.seq (W.region ?_)
 first | refine z_f ?_ | refine z_g ?_
 first | refine z_l3 ?_ | refine z_r3 ?_
 refine z_c (right_spec y m d) ?_
 refine z_p ?_
 refine WL.nil ?_
 refine W.seq (W.seq (W.region ?_))
 refine z_p ?_
 refine z_p ?_
 refine WL.nil ?_
 refine W.cond rfl (fun hc10 => ?_) (fun hc10 => ?_)
 ·skip
  refine W.seq (W.region ?_)
  refine z_p ?_
  refine WL.nil ?_
  refine W.ret (fin rfl (.shut (.plain (by first | rfl | simp [plainL, AV.plain])) .nil) ?_)
  refine congrArg (AV.int .i64) ?_; clear hk hj hw; cases hr : rightF y m d <;> simp_all [chartF, chart_last, isF] <;> omega
 ·skip
  refine W.skip ?_
  refine W.seq (W.seq (W.region ?_))
  first | refine z_f ?_ | refine z_g ?_
  first | refine z_l ?_ | refine z_r ?_
  refine spb (v_pure rfl) rfl rfl rfl (fun h13 => ?_) (fun h13 => ?_)
  ·skip
   rw [decide_eq_true_eq] at h13
   refine z_p ?_
   refine z_o ?_
   refine z_o ?_
   refine z_o ?_
   refine z_p ?_
   refine z_p ?_
   refine z_o ?_
   refine z_o ?_
   refine z_o ?_
   refine z_p ?_
   refine z_p ?_
   refine z_o ?_
   refine z_o ?_
   refine z_o ?_
   refine z_p ?_
   refine WL.nil ?_
   refine W.cond_true rfl ?_
   refine W.seq (W.region ?_)
   refine z_p ?_
   refine WL.nil ?_
   refine W.ret (fin rfl (.shut (.plain (by first | rfl | simp [plainL, AV.plain])) .nil) ?_)
   refine congrArg (AV.int .i64) ?_; clear hk hj hw; cases hr : rightF y m d <;> simp_all [chartF, chart_last, isF] <;> omega
  ·skip
   rw [decide_eq_false_iff_not] at h13
   refine z_p ?_
   first | refine z_f ?_ | refine z_g ?_
   first | refine z_l ?_ | refine z_r ?_
   refine z_p ?_
   refine spb (v_pure rfl) rfl rfl rfl (fun h18 => ?_) (fun h18 => ?_)
   ·skip
    rw [decide_eq_true_eq] at h18
    refine z_p ?_
    refine z_o ?_
    refine z_o ?_
    refine z_o ?_
    refine z_p ?_
    refine z_p ?_
    refine z_o ?_
    refine z_o ?_
    refine z_o ?_
    refine z_p ?_
    refine WL.nil ?_
    refine W.cond_true rfl ?_
    refine W.seq (W.region ?_)
    refine z_p ?_
    refine WL.nil ?_
    refine W.ret (fin rfl (.shut (.plain (by first | rfl | simp [plainL, AV.plain])) .nil) ?_)
    refine congrArg (AV.int .i64) ?_; clear hk hj hw; cases hr : rightF y m d <;> simp_all [chartF, chart_last, isF] <;> omega
   ·skip
    rw [decide_eq_false_iff_not] at h18
    refine z_p ?_
    first | refine z_f ?_ | refine z_g ?_
    first | refine z_l ?_ | refine z_r ?_
    refine z_p ?_
    refine spb (v_pure rfl) rfl rfl rfl (fun h23 => ?_) (fun h23 => ?_)
    ·skip
     rw [decide_eq_true_eq] at h23
     refine z_p ?_
     refine z_o ?_
     refine z_o ?_
     refine z_o ?_
     refine z_p ?_
     refine WL.nil ?_
     refine W.cond_true rfl ?_
     refine W.seq (W.region ?_)
     refine z_p ?_
     refine WL.nil ?_
     refine W.ret (fin rfl (.shut (.plain (by first | rfl | simp [plainL, AV.plain])) .nil) ?_)
     refine congrArg (AV.int .i64) ?_; clear hk hj hw; cases hr : rightF y m d <;> simp_all [chartF, chart_last, isF] <;> omega
    ·skip
     rw [decide_eq_false_iff_not] at h23
     refine z_p ?_
     first | refine z_f ?_ | refine z_g ?_
     first | refine z_l ?_ | refine z_r ?_
     refine z_p ?_
     refine z_p ?_
     refine WL.nil ?_
     refine W.cond rfl (fun hc28 => ?_) (fun hc28 => ?_)
     ·rw [decide_eq_true_eq] at hc28
      refine W.seq (W.region ?_)
      refine z_p ?_
      refine WL.nil ?_
      refine W.ret (fin rfl (.shut (.plain (by first | rfl | simp [plainL, AV.plain])) .nil) ?_)
      refine congrArg (AV.int .i64) ?_; clear hk hj hw; cases hr : rightF y m d <;> simp_all [chartF, chart_last, isF] <;> omega
     ·rw [decide_eq_false_iff_not] at hc28
      refine W.skip ?_
      refine W.seq (W.seq (W.region ?_))
      first | refine z_f ?_ | refine z_g ?_
      first | refine z_l ?_ | refine z_r ?_
      first | refine z_f ?_ | refine z_g ?_
      first | refine z_l ?_ | refine z_r ?_
      refine z_p ?_
      refine WL.nil ?_
      refine W.cond rfl (fun hc33 => ?_) (fun hc33 => ?_)
      ·rw [beq_iff_eq] at hc33
       refine W.seq (W.region ?_)
       refine z_p ?_
       refine WL.nil ?_
       refine W.ret (fin rfl (.shut (.plain (by first | rfl | simp [plainL, AV.plain])) .nil) ?_)
       refine congrArg (AV.int .i64) ?_; clear hk hj hw; cases hr : rightF y m d <;> simp_all [chartF, chart_last, isF] <;> omega
      ·rw [beq_eq_false_iff_ne] at hc33
       refine W.skip ?_
       refine W.seq (W.region ?_)
       first | refine z_f ?_ | refine z_g ?_
       first | refine z_l ?_ | refine z_r ?_
       refine sc hw rfl rfl rfl rfl (by simp [plainL, AV.plain]) (by simp [plainL, AV.plain, rIntAV_plain]) rfl rfl rfl ?_
       refine z_p ?_
       refine z_p ?_
       refine z_p ?_
       refine z_a 1 [_, _] ?_
       refine z_s [_, _] ?_
       refine z_p ?_
       refine WL.nil ?_
       refine W.seq (W.seq (W.region ?_))
       refine z_p ?_
       refine z_p ?_
       refine WL.nil ?_
       refine W.cond rfl (fun hc41 => ?_) (fun hc41 => ?_)
       ·rw [bne_iff_ne] at hc41
        refine W.seq (W.region ?_)
        refine z_p ?_
        refine z_p ?_
        refine WL.nil ?_
        refine W.ret (fin rfl (.shut (.plain (by first | rfl | simp [plainL, AV.plain])) .nil) ?_)
        refine congrArg (AV.int .i64) ?_; clear hk hj hw; cases hr : rightF y m d <;> simp_all [chartF, chart_last, isF] <;> omega
       ·rw [bne_eq_false_iff_eq] at hc41
        refine W.skip ?_
        refine W.seq (W.seq (W.region ?_))
        first | refine z_f ?_ | refine z_g ?_
        refine spb (v_load rfl rfl rfl rfl rfl) rfl rfl rfl (fun h44 => ?_) (fun h44 => ?_)
        ·skip
         refine z_p ?_
         refine z_o ?_
         refine z_o ?_
         refine z_o ?_
         refine z_o ?_
         refine z_p ?_
         refine WL.nil ?_
         refine W.cond_true rfl ?_
         refine W.seq (W.region ?_)
         refine z_p ?_
         refine WL.nil ?_
         refine W.ret (fin rfl (.shut (.plain (by first | rfl | simp [plainL, AV.plain])) .nil) ?_)
         refine congrArg (AV.int .i64) ?_; clear hk hj hw; cases hr : rightF y m d <;> simp_all [chartF, chart_last, isF] <;> omega
        ·skip
         refine z_p ?_
         first | refine z_f ?_ | refine z_g ?_
         first | refine z_l ?_ | refine z_r ?_
         first | refine z_n ?_ | refine z_m ?_ | refine z_k ?_
         refine z_p ?_
         refine z_p ?_
         refine WL.nil ?_
         refine W.cond rfl (fun hc50 => ?_) (fun hc50 => ?_)
         ·rw [beq_iff_eq] at hc50
          refine W.seq (W.region ?_)
          refine z_p ?_
          refine WL.nil ?_
          refine W.ret (fin rfl (.shut (.plain (by first | rfl | simp [plainL, AV.plain])) .nil) ?_)
          refine congrArg (AV.int .i64) ?_; clear hk hj hw; cases hr : rightF y m d <;> simp_all [chartF, chart_last, isF] <;> omega
         ·rw [beq_eq_false_iff_ne] at hc50
          refine W.skip ?_
          refine W.seq (W.region ?_)
          refine z_p ?_
          refine WL.nil ?_
          refine W.ret (fin rfl (.shut (.plain (by first | rfl | simp [plainL, AV.plain])) .nil) ?_)
          refine congrArg (AV.int .i64) ?_; clear hk hj hw; cases hr : rightF y m d <;> simp_all [chartF, chart_last, isF] <;> omega
end Go.Proofs.YtejpblopbdgkaaaGreatDoor

set_option linter.unusedVariables false
set_option linter.unusedSimpArgs false
namespace Go.Proofs.YtejpblopbdgkaaaGreatDoor
open Go Go.Lens
def En.chart (x : En) : Int := chartF x.y x.m x.d x.db x.cr x.am
def ensAV (l : List En) : List AV := l.flatMap En.cells
theorem ensAV_length (l : List En) : (ensAV l).length = l.length * 6 := by
 induction l with
 | nil => rfl
 | cons x r ih => simp only [ensAV, List.flatMap_cons, List.length_append, List.length_cons] at *; rw [ih]; simp [En.cells]; omega
theorem ensAV_snoc (l : List En) (x : En) : ensAV (l ++ [x]) = ensAV l ++ x.cells := by simp [ensAV]
@[simp] theorem ensAV_plain (l : List En) : plainL (ensAV l) = true := by
  induction l with
  | nil => rfl
  | cons x r ih => simp only [ensAV, List.flatMap_cons] at *; rw [plainL_append, ih]; rfl
/-- what an entry adds to an account -/
def En.part (x : En) (a : Int) : Int := (if a = x.db then amZ x.am else 0) - (if a = x.cr then amZ x.am else 0)
def bal (l : List En) (a : Int) : Int := (l.map fun x => x.part a).sum
theorem bal_snoc (l : List En) (x : En) : bal (l ++ [x]) = cntF (bal l) x.db x.cr (amZ x.am) := by
 funext a
 rw [cntF_eq]
 simp only [bal, List.map_append, List.sum_append, List.map_cons, List.map_nil, List.sum_cons, List.sum_nil, En.part]
 omega
theorem good_amZ {x : En} (h : x.chart = 0) : wE x.am = 0 ∧ 0 < amZ x.am ∧ signP x.am = false := by
 simp only [En.chart, chartF] at h
 split at h
 ·cases h
 split at h
 ·cases h
 split at h
 ·cases h
 split at h
 ·rename_i h1; exact absurd h h1
 ·rename_i h0
  have hE : wE x.am = 0 := Classical.byContradiction h0
  have hL : wL x.am = digs LB (decF (plainP x.am)) := by simp [wL, hE]
  have hB : wB x.am = (signP x.am && !(digs LB (decF (plainP x.am)) == [])) := by simp [wB, hE]
  refine ⟨hE, ?_⟩
  by_cases hn : wL x.am = []
  ·rw [if_pos hn] at h; simp at h
  ·rw [if_neg hn] at h
   cases hb : wB x.am with
   | true => rw [hb] at h; simp at h
   | false =>
    rw [hB] at hb
    have h3 : (digs LB (decF (plainP x.am)) == []) = false := by rw [← hL]; simpa using hn
    rw [h3] at hb
    have hs : signP x.am = false := by simpa using hb
    have hd : decF (plainP x.am) ≠ 0 := fun e => hn (by rw [hL, e, digs_zero])
    refine ⟨?_, hs⟩
    simp only [amZ, hE, if_true, hs, Bool.false_eq_true, if_false]
    omega
def bigE : Nat := 4096
def bigA : Nat := 10 ^ bigE
theorem amZ_le (s : List UInt8) (h : wE s = 0) : (amZ s).natAbs < bigA := by
 have hl : ¬ (plainP s).length > 4096 := fun hl => by rw [wE_long hl] at h; cases h
 have h1 : decF (plainP s) < 10 ^ (plainP s).length := decF_lt (by
  refine numText_digs ?_
  cases hn : numText (plainP s) with
  | true => rfl
  | false => rw [wE_bad hl hn] at h; cases h)
 have h2 : (10 : Nat) ^ (plainP s).length ≤ bigA := Nat.pow_le_pow_right (by decide) (show _ ≤ bigE by unfold bigE; omega)
 simp only [amZ, h, if_true]
 split <;> omega
theorem Lim.small {x N : Nat} (hx : x ≤ N * bigA) (hN : N ≤ 4194304) : Lim x := by
 refine Lim.of_bits (k := 22 + 4 * bigE + 1) ?_ (by unfold bigE; omega)
 have h1 : bigA ≤ 2 ^ (4 * bigE) := by rw [Nat.pow_mul]; exact Nat.pow_le_pow_left (by decide) _
 have h2 : N * bigA ≤ 2 ^ 22 * 2 ^ (4 * bigE) := Nat.mul_le_mul (by omega) h1
 rw [← Nat.pow_add] at h2
 have h3 : 2 ^ (22 + 4 * bigE) < 2 ^ (22 + 4 * bigE + 1) := Nat.pow_lt_pow_right (by decide) (by omega)
 omega
theorem bigA_pos : 0 < bigA := Nat.pow_pos (by decide)
theorem Lim.num {x : Nat} (h : x ≤ 4194304) : Lim x := Lim.small (N := x) (Nat.le_mul_of_pos_right _ bigA_pos) h
def GoodL (l : List En) : Prop := ∀ x ∈ l, x.chart = 0
theorem bal_le {l : List En} (h : GoodL l) (a : Int) : (bal l a).natAbs ≤ l.length * bigA := by
 induction l with
 | nil => simp [bal]
 | cons x r ih =>
  have h1 := ih fun y hy => h y (List.mem_cons_of_mem _ hy)
  have hx := h x (List.mem_cons_self ..)
  have h2 := amZ_le x.am (good_amZ hx).1
  have hne : x.db ≠ x.cr := by
   intro e
   simp only [En.chart, chartF] at hx
   split at hx
   ·cases hx
   split at hx
   ·cases hx
   first | cases hx | (rw [if_pos e] at hx; cases hx)
  have h3 : (x.part a).natAbs ≤ bigA := by
   simp only [En.part]
   by_cases e1 : a = x.db <;> by_cases e2 : a = x.cr
   ·exact absurd (e1.symm.trans e2) hne
   ·simp only [if_pos e1, if_neg e2]; omega
   ·simp only [if_pos e2, if_neg e1]; omega
   ·simp only [if_neg e1, if_neg e2]; omega
  have h4 : bal (x :: r) a = x.part a + bal r a := rfl
  rw [h4, List.length_cons, Nat.add_mul, Nat.one_mul]
  omega
/-- a book: its own cells, its map, and the row of its entries if that is its own -/
inductive Bk (m j : Nat) (l : List En) : AObj → AObj → AObj → Prop
  | clip (es : List (Int × AV)) (hes : KV es (bal l)) (hg : GoodL l) : Bk m j l (bkO (.clip (ensAV l) l.length) m) (.kv .i64 es) .slot
  | own (es : List (Int × AV)) (ver : Nat) (hes : KV es (bal l)) (hg : GoodL l) (hl : l ≠ []) : Bk m j l (bkO (.sl j ver 0 l.length true) m) (.kv .i64 es) (.cells (ensAV l) ver 6 true (some 54))
end Go.Proofs.YtejpblopbdgkaaaGreatDoor

set_option linter.unusedVariables false
set_option linter.unusedSimpArgs false
namespace Go.Proofs.YtejpblopbdgkaaaGreatDoor
open Go Go.Lens
/-- what Post tells -/
def postE (l : List En) (x : En) : Int :=
  if x.chart ≠ 0 then x.chart else match l.getLast? with
    | some p => if cmpD x.y x.m x.d p.y p.m p.d < 0 then 12 else 0
    | none => 0
theorem loadc_date {l : List En} {p : En} {i : Nat} {y : Ty} (h : (ensAV l).drop i = p.cells) (hk : y.k.agg = true) (hs : y.size = 3) : loadc y (ensAV l) i = some (dateAV p.y p.m p.d) := by
 have hl : (ensAV l).length - i = 6 := by rw [← List.length_drop, h]; rfl
 rw [loadc, hk, if_pos rfl, h, hs, if_pos (by omega)]
 rfl
section
variable {nt : Nat} {w0 : World} {k : Nat} {H0 : View} {ln : Nat → Nat} {hk : ∀ o, o < k → H0.blk o < w0.heap.size} {hj : ∀ x o, x < k → o < k → H0.blk x = H0.blk o → x = o} {sv : List (Array Value × List (Nat × AV))}
  {ops : Array Oper} {o : Oper} {rest : List Oper} {env : List (Nat × AV)} {objs : List AObj} {Q : Exit → St → Prop} {x : Operand} {xs : Array Operand} {ts : Array TypeId} {d b m j : Nat}
/-- an entry that may not be -/
theorem post_bad {cv : AV} (e : En) (hop : o.op = .call { callee := .value x, args := xs, argTypes := ts }) (hx : ev ⟨env, objs⟩ x = some (.func (.func 50) [] [])) (hxs : evL ⟨env, objs⟩ xs.toList = some [.ptr b 0 0, e.av])
  (hb : objs[b]? = some (bkO cv m)) (hs : e.am.length ≤ 9223372036854775807) (he : e.chart ≠ 0) (hg : gd ops ⟨env, objs⟩ o = some true) (hd : o.dst = some d) (hlt : Nat.blt d nt = true)
  (h : WL ⟨Tryz.prog, tab, tab_ok, nt, w0, k, H0, ln, hk, hj, sv⟩ ops rest ⟨(d, .int .i64 e.chart) :: env, objs⟩ Q) :
  WL ⟨Tryz.prog, tab, tab_ok, nt, w0, k, H0, ln, hk, hj, sv⟩ ops (o :: rest) ⟨env, objs⟩ Q := by
 refine si Tryz.func50 rfl rfl rfl rfl hop hx hxs rfl rfl hg hd hlt fun tm => ?_
 refine W.get fun hO hE hS hK => W.base ?_
 generalize hN : objs.length = N at *
 refine W.seq (W.region ?_)
 first | refine sn (a_boxB (by first | assumption | (simp only [List.length_set]; assumption)) rfl rfl (.inl rfl)) (rfl : _ = AV.ptr (N + 0) 0 0) rfl rfl rfl rfl ?_ | refine sn (a_boxB (by first | assumption | (simp only [List.length_set]; assumption)) rfl rfl (.inr ⟨trivial, rfl⟩)) (rfl : _ = AV.ptr (N + 0) 0 0) rfl rfl rfl rfl ?_
 refine z_p ?_
 refine WL.nil ?_
 refine W.seq (W.seq (W.region ?_))
 refine z_p ?_
 refine sp (v_isnil_ptr rfl rfl (get_old hb) rfl rfl) rfl rfl rfl ?_
 refine WL.nil ?_
 refine W.cond_false rfl (W.skip ?_)
 refine W.seq (W.seq (W.region ?_))
 first | refine sq (v_load rfl rfl (get_new (by first | assumption | (simp only [List.length_set]; assumption)) rfl) rfl rfl) (rfl : _ = AV.agg [_, _, _, _, _, _]) rfl rfl rfl ?_ | refine sq (v_load rfl rfl (get_old hb) rfl rfl) (rfl : _ = AV.agg [_, _, _, _, _, _]) rfl rfl rfl ?_ | refine sq (v_load_radr rfl rfl rfl rfl) (rfl : _ = AV.agg [_, _, _, _, _, _]) rfl rfl rfl ?_
 refine z_c (chartCheck_spec e.y e.m e.d e.db e.cr e.am hs) ?_
 refine z_p ?_
 refine WL.nil ?_
 refine W.seq (W.region ?_)
 refine z_p ?_
 refine sp (v_is true rfl rfl rfl rfl (show (chartF e.y e.m e.d e.db e.cr e.am != 0) = true by simpa [En.chart] using he)) rfl rfl rfl ?_
 refine WL.nil ?_
 refine W.cond_true rfl ?_
 refine W.seq (W.region ?_)
 refine z_p ?_
 refine z_p ?_
 refine WL.nil ?_
 exact W.ret ⟨.inl rfl, _, rfl, sd h hO hN hS rfl rfl hK⟩
/-- an entry that comes too early, or may be: the row of entries is the book's own -/
theorem post_own {es : List (Int × AV)} {l : List En} {ver : Nat} (e p : En) (hl : l ≠ []) (hop : o.op = .call { callee := .value x, args := xs, argTypes := ts }) (hx : ev ⟨env, objs⟩ x = some (.func (.func 50) [] [])) (hxs : evL ⟨env, objs⟩ xs.toList = some [.ptr b 0 0, e.av])
  (hb : objs[b]? = some (bkO (.sl j ver 0 l.length true) m)) (hm : objs[m]? = some (.kv .i64 es)) (hj' : objs[j]? = some (.cells (ensAV l) ver 6 true (some 54))) (hes : KV es (bal l)) (hbm : b ≠ m) (hbj : b ≠ j) (hmj : m ≠ j) (hmk : k ≤ m) (hll : l.length ≤ 1000000) (hgl : GoodL l)
  (hp : l.getLast? = some p) (hs : e.am.length ≤ 9223372036854775807) (he : e.chart = 0) (hg : gd ops ⟨env, objs⟩ o = some true) (hd : o.dst = some d) (hlt : Nat.blt d nt = true)
  (h1 : cmpD e.y e.m e.d p.y p.m p.d < 0 → WL ⟨Tryz.prog, tab, tab_ok, nt, w0, k, H0, ln, hk, hj, sv⟩ ops rest ⟨(d, .int .i64 12) :: env, objs⟩ Q)
  (h2 : ¬ cmpD e.y e.m e.d p.y p.m p.d < 0 → WL ⟨Tryz.prog, tab, tab_ok, nt, w0, k, H0, ln, hk, hj, sv⟩ ops rest ⟨(d, .int .i64 0) :: env, ((objs.set j (.cells (ensAV (l ++ [e])) (ver + 1) 6 true (some 54))).set b (bkO (.sl j (ver + 1) 0 (l.length + 1) true) m)).set m (.kv .i64 (cntE es (bal l) e.db e.cr (amZ e.am)))⟩ Q) :
  WL ⟨Tryz.prog, tab, tab_ok, nt, w0, k, H0, ln, hk, hj, sv⟩ ops (o :: rest) ⟨env, objs⟩ Q := by
 have hn0 : 0 < l.length := List.length_pos_iff.2 hl
 have hlast : (ensAV l).drop ((l.length - 1) * 6) = p.cells := by
  obtain ⟨l0, rfl⟩ : ∃ l0, l = l0 ++ [p] := by
   have := List.getLast?_eq_some_iff.1 hp
   exact this
  rw [ensAV_snoc, List.length_append, List.length_singleton, Nat.add_sub_cancel, ← ensAV_length, List.drop_left]
 refine si Tryz.func50 rfl rfl rfl rfl hop hx hxs rfl rfl hg hd hlt fun tm => ?_
 refine W.get fun hO hE hS hK => W.base ?_
 generalize hN : objs.length = N at *
 refine W.seq (W.region ?_)
 first | refine sn (a_boxB (by first | assumption | (simp only [List.length_set]; assumption)) rfl rfl (.inl rfl)) (rfl : _ = AV.ptr (N + 0) 0 0) rfl rfl rfl rfl ?_ | refine sn (a_boxB (by first | assumption | (simp only [List.length_set]; assumption)) rfl rfl (.inr ⟨trivial, rfl⟩)) (rfl : _ = AV.ptr (N + 0) 0 0) rfl rfl rfl rfl ?_
 refine z_p ?_
 refine WL.nil ?_
 refine W.seq (W.seq (W.region ?_))
 refine z_p ?_
 refine sp (v_isnil_ptr rfl rfl (get_old hb) rfl rfl) rfl rfl rfl ?_
 refine WL.nil ?_
 refine W.cond_false rfl (W.skip ?_)
 refine W.seq (W.seq (W.region ?_))
 first | refine sq (v_load rfl rfl (get_new (by first | assumption | (simp only [List.length_set]; assumption)) rfl) rfl rfl) (rfl : _ = AV.agg [_, _, _, _, _, _]) rfl rfl rfl ?_ | refine sq (v_load rfl rfl (get_old hb) rfl rfl) (rfl : _ = AV.agg [_, _, _, _, _, _]) rfl rfl rfl ?_ | refine sq (v_load rfl rfl (get_old hj') rfl rfl) (rfl : _ = AV.agg [_, _, _, _, _, _]) rfl rfl rfl ?_ | refine sq (v_load_radr rfl rfl rfl rfl) (rfl : _ = AV.agg [_, _, _, _, _, _]) rfl rfl rfl ?_
 refine z_c (chartCheck_spec e.y e.m e.d e.db e.cr e.am hs) ?_
 refine z_p ?_
 refine WL.nil ?_
 refine W.seq (W.region ?_)
 refine z_p ?_
 refine sp (v_is false rfl rfl rfl rfl (show (chartF e.y e.m e.d e.db e.cr e.am != 0) = false by simpa [En.chart] using he)) rfl rfl rfl ?_
 refine WL.nil ?_
 refine W.cond_false rfl (W.skip ?_)
 refine W.seq (W.seq (W.region ?_))
 refine z_p ?_
 first | refine z_p ?_ | refine sp (v_nilCheck rfl rfl (get_new (by first | assumption | (simp only [List.length_set]; assumption)) rfl)) rfl rfl rfl ?_ | refine sp (v_nilCheck rfl rfl (get_old hb)) rfl rfl rfl ?_ | refine sp (v_nilCheck rfl rfl (get_old hj')) rfl rfl rfl ?_
 first | refine sp (v_fieldAddr rfl rfl (get_new (by first | assumption | (simp only [List.length_set]; assumption)) rfl) rfl rfl rfl rfl (by decide)) rfl rfl rfl ?_ | refine sp (v_fieldAddr rfl rfl (get_old hb) rfl rfl rfl rfl (by decide)) rfl rfl rfl ?_ | refine sp (v_fieldAddr rfl rfl (get_old hj') rfl rfl rfl rfl (by decide)) rfl rfl rfl ?_ | refine z_g ?_
 first | refine sp (v_load rfl rfl (get_new (by first | assumption | (simp only [List.length_set]; assumption)) rfl) rfl rfl) rfl rfl rfl ?_ | refine sp (v_load rfl rfl (get_old hb) rfl rfl) rfl rfl rfl ?_ | refine sp (v_load rfl rfl (get_old hj') rfl rfl) rfl rfl rfl ?_ | refine z_r ?_
 refine sp (v_len rfl rfl rfl rfl ⟨_, rfl⟩ ⟨_, _, _, _, get_old hj'⟩) rfl rfl rfl ?_
 refine z_p ?_
 refine WL.nil ?_
 refine W.seq (W.drawnR mixed [19, 20, 21, 22, 23, 24, 25, 26, 27, 28, 29, 30, 31, 32] (by kernel_rfl) ?_)
 apply DrawFrom.stepR
 ·intro more
  refine z_p ?_
  exact z_e
 apply DrawFrom.stepR
 ·intro more
  refine z_T (show ((l.length : Nat) : Int) > 0 by omega) ?_
  exact z_e
 apply DrawFrom.stepR
 ·intro more
  refine z_p ?_
  exact z_e
 apply DrawFrom.stepR
 ·intro more
  first | refine sp (v_fieldAddr rfl rfl (get_new (by first | assumption | (simp only [List.length_set]; assumption)) rfl) rfl rfl rfl rfl (by decide)) rfl rfl rfl ?_ | refine sp (v_fieldAddr rfl rfl (get_old hb) rfl rfl rfl rfl (by decide)) rfl rfl rfl ?_ | refine sp (v_fieldAddr rfl rfl (get_old hj') rfl rfl rfl rfl (by decide)) rfl rfl rfl ?_ | refine z_g ?_
  exact z_e
 apply DrawFrom.stepR
 ·intro more
  refine sq (v_load rfl rfl (get_new (by first | assumption | (simp only [List.length_set]; assumption)) rfl) rfl rfl) (show _ = dateAV e.y e.m e.d from rfl) rfl rfl rfl ?_
  exact z_e
 apply DrawFrom.stepR
 ·intro more
  refine z_p ?_
  exact z_e
 apply DrawFrom.stepR
 ·intro more
  first | refine z_p ?_ | refine sp (v_nilCheck rfl rfl (get_new (by first | assumption | (simp only [List.length_set]; assumption)) rfl)) rfl rfl rfl ?_ | refine sp (v_nilCheck rfl rfl (get_old hb)) rfl rfl rfl ?_ | refine sp (v_nilCheck rfl rfl (get_old hj')) rfl rfl rfl ?_
  exact z_e
 apply DrawFrom.stepR
 ·intro more
  first | refine sp (v_fieldAddr rfl rfl (get_new (by first | assumption | (simp only [List.length_set]; assumption)) rfl) rfl rfl rfl rfl (by decide)) rfl rfl rfl ?_ | refine sp (v_fieldAddr rfl rfl (get_old hb) rfl rfl rfl rfl (by decide)) rfl rfl rfl ?_ | refine sp (v_fieldAddr rfl rfl (get_old hj') rfl rfl rfl rfl (by decide)) rfl rfl rfl ?_ | refine z_g ?_
  exact z_e
 apply DrawFrom.stepR
 ·intro more
  first | refine sp (v_load rfl rfl (get_new (by first | assumption | (simp only [List.length_set]; assumption)) rfl) rfl rfl) rfl rfl rfl ?_ | refine sp (v_load rfl rfl (get_old hb) rfl rfl) rfl rfl rfl ?_ | refine sp (v_load rfl rfl (get_old hj') rfl rfl) rfl rfl rfl ?_ | refine z_r ?_
  exact z_e
 apply DrawFrom.stepR
 ·intro more
  refine z_p ?_
  exact z_e
 apply DrawFrom.stepR
 ·intro more
  refine z_i ?_
  exact z_e
 apply DrawFrom.stepR
 ·intro more
  refine sp (v_indexAddr rfl rfl (get_old hj') rfl rfl rfl rfl (by omega) (by omega)) rfl rfl rfl ?_
  exact z_e
 apply DrawFrom.stepR
 ·intro more
  first | refine sp (v_fieldAddr rfl rfl (get_new (by first | assumption | (simp only [List.length_set]; assumption)) rfl) rfl rfl rfl rfl (by decide)) rfl rfl rfl ?_ | refine sp (v_fieldAddr rfl rfl (get_old hb) rfl rfl rfl rfl (by decide)) rfl rfl rfl ?_ | refine sp (v_fieldAddr rfl rfl (get_old hj') rfl rfl rfl rfl (by decide)) rfl rfl rfl ?_ | refine z_g ?_
  exact z_e
 apply DrawFrom.stepR
 ·intro more
  refine sq (v_load rfl rfl (get_old hj') rfl (loadc_date (i := 0 + (((l.length : Nat) : Int) - 1).toNat * 6 + 0) (by rw [show 0 + (((l.length : Nat) : Int) - 1).toNat * 6 + 0 = (l.length - 1) * 6 by omega]; exact hlast) rfl rfl)) (show _ = dateAV p.y p.m p.d from rfl) rfl rfl rfl ?_
  exact z_e
 refine DrawFrom.doneR (rfl : _ = (_, _) :: (_, _) :: (_, _) :: (_, _) :: (_, _) :: (_, _) :: (_, _) :: (_, _) :: (_, _) :: (_, _) :: (_, _) :: (_, _) :: (_, _) :: (_, _) :: _) ?_
 refine z_c (dateCmp_spec e.y e.m e.d p.y p.m p.d) ?_
 refine z_p ?_
 refine z_p ?_
 refine WL.nil ?_
 refine W.cond rfl (fun hc => ?_) (fun hc => ?_)
 ·have hc0 : cmpD e.y e.m e.d p.y p.m p.d < 0 := by simpa using hc
  refine W.seq (W.region ?_)
  refine z_p ?_
  refine WL.nil ?_
  exact W.ret ⟨.inl rfl, _, rfl, sd (h1 hc0) hO hN hS rfl rfl hK⟩
 ·have hc0 : ¬ cmpD e.y e.m e.d p.y p.m p.d < 0 := by simpa using hc
  refine W.skip ?_
  have hb2 : (objs.set j (.cells (ensAV (l ++ [e])) (ver + 1) 6 true (some 54)))[b]? = some (bkO (.sl j ver 0 l.length true) m) := get_other hb (Ne.symm hbj)
  have hm2 : (objs.set j (.cells (ensAV (l ++ [e])) (ver + 1) 6 true (some 54)))[m]? = some (.kv .i64 es) := get_other hm (Ne.symm hmj)
  have hj2 : (objs.set j (.cells (ensAV (l ++ [e])) (ver + 1) 6 true (some 54)))[j]? = some (.cells (ensAV (l ++ [e])) (ver + 1) 6 true (some 54)) := get_set hj'
  have hb3 : ((objs.set j (.cells (ensAV (l ++ [e])) (ver + 1) 6 true (some 54))).set b (bkO (.sl j (ver + 1) 0 (l.length + 1) true) m))[b]? = some (bkO (.sl j (ver + 1) 0 (l.length + 1) true) m) := get_set hb2
  have hm3 : ((objs.set j (.cells (ensAV (l ++ [e])) (ver + 1) 6 true (some 54))).set b (bkO (.sl j (ver + 1) 0 (l.length + 1) true) m))[m]? = some (.kv .i64 es) := get_other hm2 hbm
  have hz := amZ_le e.am (good_amZ he).1
  have hL1 : Lim (amZ e.am).natAbs := Lim.small (N := 1) (by omega) (by omega)
  have hL2 : ∀ a, Lim (bal l a).natAbs := fun a => Lim.small (N := l.length) (bal_le hgl a) (by omega)
  have hL3 : Lim (turn (bal l) e.db (bal l e.db + amZ e.am) e.cr).natAbs := by
   refine Lim.small (N := l.length + 1) ?_ (by omega)
   have q1 := bal_le hgl e.db
   have q2 := bal_le hgl e.cr
   rw [Nat.add_mul, Nat.one_mul]
   simp only [turn]
   split <;> omega
  refine W.seq (W.middle mixed [36, 37, 38, 39, 40, 41, 42] [0] [1, 2, 3, 4, 5, 6] 1 rfl rfl rfl rfl rfl rfl ?_)
  apply MidV.step
  ·intro more
   refine z_p ?_
   exact z_e
  apply MidV.step
  ·intro more
   first | refine z_p ?_ | refine sp (v_nilCheck rfl rfl (get_new (by first | assumption | (simp only [List.length_set]; assumption)) rfl)) rfl rfl rfl ?_ | refine sp (v_nilCheck rfl rfl (get_old hb)) rfl rfl rfl ?_ | refine sp (v_nilCheck rfl rfl (get_old hb2)) rfl rfl rfl ?_ | refine sp (v_nilCheck rfl rfl (get_old hb3)) rfl rfl rfl ?_
   exact z_e
  apply MidV.step
  ·intro more
   first | refine sp (v_fieldAddr rfl rfl (get_new (by first | assumption | (simp only [List.length_set]; assumption)) rfl) rfl rfl rfl rfl (by decide)) rfl rfl rfl ?_ | refine sp (v_fieldAddr rfl rfl (get_old hb) rfl rfl rfl rfl (by decide)) rfl rfl rfl ?_ | refine sp (v_fieldAddr rfl rfl (get_old hb2) rfl rfl rfl rfl (by decide)) rfl rfl rfl ?_ | refine sp (v_fieldAddr rfl rfl (get_old hb3) rfl rfl rfl rfl (by decide)) rfl rfl rfl ?_ | refine z_g ?_
   exact z_e
  apply MidV.step
  ·intro more
   first | refine sp (v_load rfl rfl (get_new (by first | assumption | (simp only [List.length_set]; assumption)) rfl) rfl rfl) rfl rfl rfl ?_ | refine sp (v_load rfl rfl (get_old hb) rfl rfl) rfl rfl rfl ?_ | refine sp (v_load rfl rfl (get_old hb2) rfl rfl) rfl rfl rfl ?_ | refine sp (v_load rfl rfl (get_old hb3) rfl rfl) rfl rfl rfl ?_ | refine z_r ?_
   exact z_e
  apply MidV.step
  ·intro more
   first | refine sq (v_load rfl rfl (get_new (by first | assumption | (simp only [List.length_set]; assumption)) rfl) rfl rfl) (rfl : _ = AV.agg [_, _, _, _, _, _]) rfl rfl rfl ?_ | refine sq (v_load rfl rfl (get_old hb) rfl rfl) (rfl : _ = AV.agg [_, _, _, _, _, _]) rfl rfl rfl ?_ | refine sq (v_load rfl rfl (get_old hb2) rfl rfl) (rfl : _ = AV.agg [_, _, _, _, _, _]) rfl rfl rfl ?_ | refine sq (v_load rfl rfl (get_old hb3) rfl rfl) (rfl : _ = AV.agg [_, _, _, _, _, _]) rfl rfl rfl ?_ | refine sq (v_load_radr rfl rfl rfl rfl) (rfl : _ = AV.agg [_, _, _, _, _, _]) rfl rfl rfl ?_
   exact z_e
  apply MidV.step
  ·intro more
   refine sq (v_buildRow rfl rfl rfl rfl rfl rfl rfl (Nat.le_of_ble_eq_true rfl) (Nat.le_of_ble_eq_true rfl) rfl rfl rfl rfl) (rfl : _ = AV.row [_, _, _, _, _, _] 1) rfl rfl rfl ?_
   exact z_e
  refine MidV.done ?_
  apply MidM.val rfl
  ·intro more
   refine sn (v_append_own rfl rfl (get_old hj') (ensAV_length l) rfl rfl rfl rfl rfl rfl (by decide) (.inr (.inl ⟨rfl, rfl⟩)) (by simp [AV.oneB]) (by omega) (show (l.length + 1) * 56 ≤ 140737488355328 by omega)) (rfl : _ = AV.sl j (ver + 1) 0 (l.length + 1) true) ((set_old hj').trans (by rw [ensAV_snoc]; rfl) : _ = objs.set j (.cells (ensAV (l ++ [e])) (ver + 1) 6 true (some 54)) ++ [AObj.cells e.cells 0 1 false none]) rfl rfl rfl ?_
   exact z_e
  refine MidM.done ?_
  apply MidF.step
  ·refine ⟨fun more => ?_, fun more => ?_, trivial⟩
   refine z_p ?_
   exact z_e
   refine z_p ?_
   exact z_e
  refine MidF.done ?_
  first | refine z_p ?_ | refine sp (v_nilCheck rfl rfl (get_new (by first | assumption | (simp only [List.length_set]; assumption)) rfl)) rfl rfl rfl ?_ | refine sp (v_nilCheck rfl rfl (get_old hb)) rfl rfl rfl ?_ | refine sp (v_nilCheck rfl rfl (get_old hb2)) rfl rfl rfl ?_ | refine sp (v_nilCheck rfl rfl (get_old hb3)) rfl rfl rfl ?_
  first | refine sp (v_fieldAddr rfl rfl (get_new (by first | assumption | (simp only [List.length_set]; assumption)) rfl) rfl rfl rfl rfl (by decide)) rfl rfl rfl ?_ | refine sp (v_fieldAddr rfl rfl (get_old hb) rfl rfl rfl rfl (by decide)) rfl rfl rfl ?_ | refine sp (v_fieldAddr rfl rfl (get_old hb2) rfl rfl rfl rfl (by decide)) rfl rfl rfl ?_ | refine sp (v_fieldAddr rfl rfl (get_old hb3) rfl rfl rfl rfl (by decide)) rfl rfl rfl ?_ | refine z_g ?_
  refine ss (a_store1 rfl rfl (get_old hb2) rfl ⟨_, _, _, _, get_old hj2⟩ (fun h => by cases h) rfl rfl (Nat.le_of_ble_eq_true rfl)) (show _ = (objs.set j (.cells (ensAV (l ++ [e])) (ver + 1) 6 true (some 54))).set b (bkO (.sl j (ver + 1) 0 (l.length + 1) true) m) ++ _ from set_old hb2) rfl rfl ?_
  refine WL.nil ?_
  refine W.seq (W.drawnR mixed [46, 47, 48, 49] (by kernel_rfl) ?_)
  apply DrawFrom.stepR
  ·intro more
   refine z_p ?_
   exact z_e
  apply DrawFrom.stepR
  ·intro more
   first | refine sq (v_load rfl rfl (get_new (by first | assumption | (simp only [List.length_set]; assumption)) rfl) rfl rfl) (rfl : _ = AV.agg [_, _, _, _, _, _]) rfl rfl rfl ?_ | refine sq (v_load rfl rfl (get_old hb) rfl rfl) (rfl : _ = AV.agg [_, _, _, _, _, _]) rfl rfl rfl ?_ | refine sq (v_load rfl rfl (get_old hb2) rfl rfl) (rfl : _ = AV.agg [_, _, _, _, _, _]) rfl rfl rfl ?_ | refine sq (v_load rfl rfl (get_old hb3) rfl rfl) (rfl : _ = AV.agg [_, _, _, _, _, _]) rfl rfl rfl ?_ | refine sq (v_load_radr rfl rfl rfl rfl) (rfl : _ = AV.agg [_, _, _, _, _, _]) rfl rfl rfl ?_
   exact z_e
  apply DrawFrom.stepR
  ·intro more
   first | refine sq (v_load rfl rfl (get_new (by first | assumption | (simp only [List.length_set]; assumption)) rfl) rfl rfl) (rfl : _ = AV.agg [_, _, _, _, _, _]) rfl rfl rfl ?_ | refine sq (v_load rfl rfl (get_old hb) rfl rfl) (rfl : _ = AV.agg [_, _, _, _, _, _]) rfl rfl rfl ?_ | refine sq (v_load rfl rfl (get_old hb2) rfl rfl) (rfl : _ = AV.agg [_, _, _, _, _, _]) rfl rfl rfl ?_ | refine sq (v_load rfl rfl (get_old hb3) rfl rfl) (rfl : _ = AV.agg [_, _, _, _, _, _]) rfl rfl rfl ?_ | refine sq (v_load_radr rfl rfl rfl rfl) (rfl : _ = AV.agg [_, _, _, _, _, _]) rfl rfl rfl ?_
   exact z_e
  apply DrawFrom.stepR
  ·intro more
   refine z_c (bookAmount_spec e hs) ?_
   exact z_e
  refine DrawFrom.doneR (rfl : _ = (_, _) :: (_, _) :: (_, _) :: (_, _) :: _) ?_
  refine count_si e (amZ e.am) rfl rfl rfl (get_old hb3) (get_old hm3) hes hbm hmk hL1 (hL2 _) hL3 rfl rfl rfl ?_
  rw [set_old hm3]
  refine WL.nil ?_
  refine W.seq (W.region ?_)
  refine z_p ?_
  refine WL.nil ?_
  have hjN : j < N := by rw [← hN]; exact (List.getElem?_eq_some_iff.1 hj').1
  have hmN : m < N := by rw [← hN]; exact (List.getElem?_eq_some_iff.1 hm).1
  refine W.ret ⟨.inl rfl, _, rfl, sd (h2 hc0) (((hO.own j _ _ _ _).set (fun cs _ _ _ h => ?_)).kv m _ _) (by simp only [List.length_set]; exact hN) hS rfl rfl hK⟩
  simp only [bkO, AObj.cells.injEq] at h
  rw [← h.1, List.length_set]
  simp [scopedL, AV.inside, hN, hjN, hmN]
/-- the row of entries has no room -/
theorem post_clip0 {es : List (Int × AV)} {l : List En} (e : En) (hop : o.op = .call { callee := .value x, args := xs, argTypes := ts }) (hx : ev ⟨env, objs⟩ x = some (.func (.func 50) [] [])) (hxs : evL ⟨env, objs⟩ xs.toList = some [.ptr b 0 0, e.av])
  (hb : objs[b]? = some (bkO (.clip (ensAV l) l.length) m)) (hm : objs[m]? = some (.kv .i64 es)) (hj' : objs[j]? = some .slot) (hjk : k ≤ j) (hes : KV es (bal l)) (hbm : b ≠ m) (hbj : b ≠ j) (hmj : m ≠ j) (hmk : k ≤ m) (hll : l.length ≤ 1000000) (hgl : GoodL l)
  (hl : l = []) (hs : e.am.length ≤ 9223372036854775807) (he : e.chart = 0) (hg : gd ops ⟨env, objs⟩ o = some true) (hd : o.dst = some d) (hlt : Nat.blt d nt = true)
  (h2 : WL ⟨Tryz.prog, tab, tab_ok, nt, w0, k, H0, ln, hk, hj, sv⟩ ops rest ⟨(d, .int .i64 0) :: env, ((objs.set j (.cells (ensAV (l ++ [e])) 1 6 true (some 54))).set b (bkO (.sl j 1 0 (l.length + 1) true) m)).set m (.kv .i64 (cntE es (bal l) e.db e.cr (amZ e.am)))⟩ Q) :
  WL ⟨Tryz.prog, tab, tab_ok, nt, w0, k, H0, ln, hk, hj, sv⟩ ops (o :: rest) ⟨env, objs⟩ Q := by
 have hn0 : l.length = 0 := by rw [hl]; rfl
 refine si Tryz.func50 rfl rfl rfl rfl hop hx hxs rfl rfl hg hd hlt fun tm => ?_
 refine W.get fun hO hE hS hK => W.base ?_
 generalize hN : objs.length = N at *
 refine W.seq (W.region ?_)
 first | refine sn (a_boxB (by first | assumption | (simp only [List.length_set]; assumption)) rfl rfl (.inl rfl)) (rfl : _ = AV.ptr (N + 0) 0 0) rfl rfl rfl rfl ?_ | refine sn (a_boxB (by first | assumption | (simp only [List.length_set]; assumption)) rfl rfl (.inr ⟨trivial, rfl⟩)) (rfl : _ = AV.ptr (N + 0) 0 0) rfl rfl rfl rfl ?_
 refine z_p ?_
 refine WL.nil ?_
 refine W.seq (W.seq (W.region ?_))
 refine z_p ?_
 refine sp (v_isnil_ptr rfl rfl (get_old hb) rfl rfl) rfl rfl rfl ?_
 refine WL.nil ?_
 refine W.cond_false rfl (W.skip ?_)
 refine W.seq (W.seq (W.region ?_))
 first | refine sq (v_load rfl rfl (get_new (by first | assumption | (simp only [List.length_set]; assumption)) rfl) rfl rfl) (rfl : _ = AV.agg [_, _, _, _, _, _]) rfl rfl rfl ?_ | refine sq (v_load rfl rfl (get_old hb) rfl rfl) (rfl : _ = AV.agg [_, _, _, _, _, _]) rfl rfl rfl ?_ | refine sq (v_load_radr rfl rfl rfl rfl) (rfl : _ = AV.agg [_, _, _, _, _, _]) rfl rfl rfl ?_
 refine z_c (chartCheck_spec e.y e.m e.d e.db e.cr e.am hs) ?_
 refine z_p ?_
 refine WL.nil ?_
 refine W.seq (W.region ?_)
 refine z_p ?_
 refine sp (v_is false rfl rfl rfl rfl (show (chartF e.y e.m e.d e.db e.cr e.am != 0) = false by simpa [En.chart] using he)) rfl rfl rfl ?_
 refine WL.nil ?_
 refine W.cond_false rfl (W.skip ?_)
 refine W.seq (W.seq (W.region ?_))
 refine z_p ?_
 first | refine z_p ?_ | refine sp (v_nilCheck rfl rfl (get_new (by first | assumption | (simp only [List.length_set]; assumption)) rfl)) rfl rfl rfl ?_ | refine sp (v_nilCheck rfl rfl (get_old hb)) rfl rfl rfl ?_
 first | refine sp (v_fieldAddr rfl rfl (get_new (by first | assumption | (simp only [List.length_set]; assumption)) rfl) rfl rfl rfl rfl (by decide)) rfl rfl rfl ?_ | refine sp (v_fieldAddr rfl rfl (get_old hb) rfl rfl rfl rfl (by decide)) rfl rfl rfl ?_ | refine z_g ?_
 refine sp (VStep.sub (v_load rfl rfl (get_old hb) rfl rfl) (Sub.clip_row _ _)) rfl rfl rfl ?_
 refine sp (v_len (n := l.length) rfl rfl rfl rfl ⟨_, rfl⟩ trivial) rfl rfl rfl ?_
 refine z_p ?_
 refine WL.nil ?_
 refine W.seq (W.drawnR mixed [19, 20, 21, 22, 23, 24, 25, 26, 27, 28, 29, 30, 31, 32] (by kernel_rfl) ?_)
 apply DrawFrom.stepR
 ·intro more
  refine z_p ?_
  exact z_e
 apply DrawFrom.stepR
 ·intro more
  refine z_F (show ¬ ((l.length : Nat) : Int) > 0 by omega) ?_
  exact z_e
 apply DrawFrom.stepR
 ·intro more
  refine z_p ?_
  exact z_e
 apply DrawFrom.stepR
 ·intro more
  refine z_o ?_
  exact z_e
 apply DrawFrom.stepR
 ·intro more
  refine z_o ?_
  exact z_e
 apply DrawFrom.stepR
 ·intro more
  refine z_o ?_
  exact z_e
 apply DrawFrom.stepR
 ·intro more
  refine z_o ?_
  exact z_e
 apply DrawFrom.stepR
 ·intro more
  refine z_o ?_
  exact z_e
 apply DrawFrom.stepR
 ·intro more
  refine z_o ?_
  exact z_e
 apply DrawFrom.stepR
 ·intro more
  refine z_o ?_
  exact z_e
 apply DrawFrom.stepR
 ·intro more
  refine z_o ?_
  exact z_e
 apply DrawFrom.stepR
 ·intro more
  refine z_o ?_
  exact z_e
 apply DrawFrom.stepR
 ·intro more
  refine z_o ?_
  exact z_e
 apply DrawFrom.stepR
 ·intro more
  refine z_o ?_
  exact z_e
 refine DrawFrom.doneR (rfl : _ = (_, _) :: (_, _) :: (_, _) :: (_, _) :: (_, _) :: (_, _) :: (_, _) :: (_, _) :: (_, _) :: (_, _) :: (_, _) :: (_, _) :: (_, _) :: (_, _) :: _) ?_
 refine z_o ?_
 refine z_o ?_
 refine z_p ?_
 refine WL.nil ?_
 refine W.cond_false rfl ?_
 ·skip
  refine W.skip ?_
  have hb2 : (objs.set j (.cells (ensAV (l ++ [e])) 1 6 true (some 54)))[b]? = some (bkO (.clip (ensAV l) l.length) m) := get_other hb (Ne.symm hbj)
  have hm2 : (objs.set j (.cells (ensAV (l ++ [e])) 1 6 true (some 54)))[m]? = some (.kv .i64 es) := get_other hm (Ne.symm hmj)
  have hj2 : (objs.set j (.cells (ensAV (l ++ [e])) 1 6 true (some 54)))[j]? = some (.cells (ensAV (l ++ [e])) 1 6 true (some 54)) := get_set hj'
  have hb3 : ((objs.set j (.cells (ensAV (l ++ [e])) 1 6 true (some 54))).set b (bkO (.sl j 1 0 (l.length + 1) true) m))[b]? = some (bkO (.sl j 1 0 (l.length + 1) true) m) := get_set hb2
  have hm3 : ((objs.set j (.cells (ensAV (l ++ [e])) 1 6 true (some 54))).set b (bkO (.sl j 1 0 (l.length + 1) true) m))[m]? = some (.kv .i64 es) := get_other hm2 hbm
  have hz := amZ_le e.am (good_amZ he).1
  have hL1 : Lim (amZ e.am).natAbs := Lim.small (N := 1) (by omega) (by omega)
  have hL2 : ∀ a, Lim (bal l a).natAbs := fun a => Lim.small (N := l.length) (bal_le hgl a) (by omega)
  have hL3 : Lim (turn (bal l) e.db (bal l e.db + amZ e.am) e.cr).natAbs := by
   refine Lim.small (N := l.length + 1) ?_ (by omega)
   have q1 := bal_le hgl e.db
   have q2 := bal_le hgl e.cr
   rw [Nat.add_mul, Nat.one_mul]
   simp only [turn]
   split <;> omega
  refine W.seq (W.middle mixed [36, 37, 38, 39, 40, 41, 42] [0] [1, 2, 3, 4, 5, 6] 1 rfl rfl rfl rfl rfl rfl ?_)
  apply MidV.step
  ·intro more
   refine z_p ?_
   exact z_e
  apply MidV.step
  ·intro more
   first | refine z_p ?_ | refine sp (v_nilCheck rfl rfl (get_new (by first | assumption | (simp only [List.length_set]; assumption)) rfl)) rfl rfl rfl ?_ | refine sp (v_nilCheck rfl rfl (get_old hb)) rfl rfl rfl ?_ | refine sp (v_nilCheck rfl rfl (get_old hb2)) rfl rfl rfl ?_ | refine sp (v_nilCheck rfl rfl (get_old hb3)) rfl rfl rfl ?_
   exact z_e
  apply MidV.step
  ·intro more
   first | refine sp (v_fieldAddr rfl rfl (get_new (by first | assumption | (simp only [List.length_set]; assumption)) rfl) rfl rfl rfl rfl (by decide)) rfl rfl rfl ?_ | refine sp (v_fieldAddr rfl rfl (get_old hb) rfl rfl rfl rfl (by decide)) rfl rfl rfl ?_ | refine sp (v_fieldAddr rfl rfl (get_old hb2) rfl rfl rfl rfl (by decide)) rfl rfl rfl ?_ | refine sp (v_fieldAddr rfl rfl (get_old hb3) rfl rfl rfl rfl (by decide)) rfl rfl rfl ?_ | refine z_g ?_
   exact z_e
  apply MidV.step
  ·intro more
   first | refine sp (v_load rfl rfl (get_new (by first | assumption | (simp only [List.length_set]; assumption)) rfl) rfl rfl) rfl rfl rfl ?_ | refine sp (v_load rfl rfl (get_old hb) rfl rfl) rfl rfl rfl ?_ | refine sp (v_load rfl rfl (get_old hb2) rfl rfl) rfl rfl rfl ?_ | refine sp (v_load rfl rfl (get_old hb3) rfl rfl) rfl rfl rfl ?_ | refine z_r ?_
   exact z_e
  apply MidV.step
  ·intro more
   first | refine sq (v_load rfl rfl (get_new (by first | assumption | (simp only [List.length_set]; assumption)) rfl) rfl rfl) (rfl : _ = AV.agg [_, _, _, _, _, _]) rfl rfl rfl ?_ | refine sq (v_load rfl rfl (get_old hb) rfl rfl) (rfl : _ = AV.agg [_, _, _, _, _, _]) rfl rfl rfl ?_ | refine sq (v_load rfl rfl (get_old hb2) rfl rfl) (rfl : _ = AV.agg [_, _, _, _, _, _]) rfl rfl rfl ?_ | refine sq (v_load rfl rfl (get_old hb3) rfl rfl) (rfl : _ = AV.agg [_, _, _, _, _, _]) rfl rfl rfl ?_ | refine sq (v_load_radr rfl rfl rfl rfl) (rfl : _ = AV.agg [_, _, _, _, _, _]) rfl rfl rfl ?_
   exact z_e
  apply MidV.step
  ·intro more
   refine sq (v_buildRow rfl rfl rfl rfl rfl rfl rfl (Nat.le_of_ble_eq_true rfl) (Nat.le_of_ble_eq_true rfl) rfl rfl rfl rfl) (rfl : _ = AV.row [_, _, _, _, _, _] 1) rfl rfl rfl ?_
   exact z_e
  refine MidV.done ?_
  apply MidM.val rfl
  ·intro more
   refine sn (v_append_clipS (get_old hj') hjk rfl rfl (ensAV_length l) rfl rfl rfl rfl rfl rfl (by decide) (.inr (.inl ⟨rfl, rfl⟩)) (by decide) (by simp [AV.oneB]) (by omega) (show (l.length + 1) * 56 ≤ 140737488355328 by omega)) (rfl : _ = AV.sl j 1 0 (l.length + 1) true) ((set_old hj').trans (by rw [ensAV_snoc]; rfl) : _ = objs.set j (.cells (ensAV (l ++ [e])) 1 6 true (some 54)) ++ [AObj.cells e.cells 0 1 false none]) rfl rfl rfl ?_
   exact z_e
  refine MidM.done ?_
  apply MidF.step
  ·refine ⟨fun more => ?_, fun more => ?_, trivial⟩
   refine z_p ?_
   exact z_e
   refine z_p ?_
   exact z_e
  refine MidF.done ?_
  first | refine z_p ?_ | refine sp (v_nilCheck rfl rfl (get_new (by first | assumption | (simp only [List.length_set]; assumption)) rfl)) rfl rfl rfl ?_ | refine sp (v_nilCheck rfl rfl (get_old hb)) rfl rfl rfl ?_ | refine sp (v_nilCheck rfl rfl (get_old hb2)) rfl rfl rfl ?_ | refine sp (v_nilCheck rfl rfl (get_old hb3)) rfl rfl rfl ?_
  first | refine sp (v_fieldAddr rfl rfl (get_new (by first | assumption | (simp only [List.length_set]; assumption)) rfl) rfl rfl rfl rfl (by decide)) rfl rfl rfl ?_ | refine sp (v_fieldAddr rfl rfl (get_old hb) rfl rfl rfl rfl (by decide)) rfl rfl rfl ?_ | refine sp (v_fieldAddr rfl rfl (get_old hb2) rfl rfl rfl rfl (by decide)) rfl rfl rfl ?_ | refine sp (v_fieldAddr rfl rfl (get_old hb3) rfl rfl rfl rfl (by decide)) rfl rfl rfl ?_ | refine z_g ?_
  refine ss (a_store1 rfl rfl (get_old hb2) rfl ⟨_, _, _, _, get_old hj2⟩ (fun h => by cases h) rfl rfl (Nat.le_of_ble_eq_true rfl)) (show _ = (objs.set j (.cells (ensAV (l ++ [e])) 1 6 true (some 54))).set b (bkO (.sl j 1 0 (l.length + 1) true) m) ++ _ from set_old hb2) rfl rfl ?_
  refine WL.nil ?_
  refine W.seq (W.drawnR mixed [46, 47, 48, 49] (by kernel_rfl) ?_)
  apply DrawFrom.stepR
  ·intro more
   refine z_p ?_
   exact z_e
  apply DrawFrom.stepR
  ·intro more
   first | refine sq (v_load rfl rfl (get_new (by first | assumption | (simp only [List.length_set]; assumption)) rfl) rfl rfl) (rfl : _ = AV.agg [_, _, _, _, _, _]) rfl rfl rfl ?_ | refine sq (v_load rfl rfl (get_old hb) rfl rfl) (rfl : _ = AV.agg [_, _, _, _, _, _]) rfl rfl rfl ?_ | refine sq (v_load rfl rfl (get_old hb2) rfl rfl) (rfl : _ = AV.agg [_, _, _, _, _, _]) rfl rfl rfl ?_ | refine sq (v_load rfl rfl (get_old hb3) rfl rfl) (rfl : _ = AV.agg [_, _, _, _, _, _]) rfl rfl rfl ?_ | refine sq (v_load_radr rfl rfl rfl rfl) (rfl : _ = AV.agg [_, _, _, _, _, _]) rfl rfl rfl ?_
   exact z_e
  apply DrawFrom.stepR
  ·intro more
   first | refine sq (v_load rfl rfl (get_new (by first | assumption | (simp only [List.length_set]; assumption)) rfl) rfl rfl) (rfl : _ = AV.agg [_, _, _, _, _, _]) rfl rfl rfl ?_ | refine sq (v_load rfl rfl (get_old hb) rfl rfl) (rfl : _ = AV.agg [_, _, _, _, _, _]) rfl rfl rfl ?_ | refine sq (v_load rfl rfl (get_old hb2) rfl rfl) (rfl : _ = AV.agg [_, _, _, _, _, _]) rfl rfl rfl ?_ | refine sq (v_load rfl rfl (get_old hb3) rfl rfl) (rfl : _ = AV.agg [_, _, _, _, _, _]) rfl rfl rfl ?_ | refine sq (v_load_radr rfl rfl rfl rfl) (rfl : _ = AV.agg [_, _, _, _, _, _]) rfl rfl rfl ?_
   exact z_e
  apply DrawFrom.stepR
  ·intro more
   refine z_c (bookAmount_spec e hs) ?_
   exact z_e
  refine DrawFrom.doneR (rfl : _ = (_, _) :: (_, _) :: (_, _) :: (_, _) :: _) ?_
  refine count_si e (amZ e.am) rfl rfl rfl (get_old hb3) (get_old hm3) hes hbm hmk hL1 (hL2 _) hL3 rfl rfl rfl ?_
  rw [set_old hm3]
  refine WL.nil ?_
  refine W.seq (W.region ?_)
  refine z_p ?_
  refine WL.nil ?_
  have hjN : j < N := by rw [← hN]; exact (List.getElem?_eq_some_iff.1 hj').1
  have hmN : m < N := by rw [← hN]; exact (List.getElem?_eq_some_iff.1 hm).1
  refine W.ret ⟨.inl rfl, _, rfl, sd h2 (((hO.own j _ _ _ _).set (fun cs _ _ _ h => ?_)).kv m _ _) (by simp only [List.length_set]; exact hN) hS rfl rfl hK⟩
  simp only [bkO, AObj.cells.injEq] at h
  rw [← h.1, List.length_set]
  simp [scopedL, AV.inside, hN, hjN, hmN]
/-- the row of entries has no room -/
theorem post_clip {es : List (Int × AV)} {l : List En} (e p : En) (hl : l ≠ []) (hop : o.op = .call { callee := .value x, args := xs, argTypes := ts }) (hx : ev ⟨env, objs⟩ x = some (.func (.func 50) [] [])) (hxs : evL ⟨env, objs⟩ xs.toList = some [.ptr b 0 0, e.av])
  (hb : objs[b]? = some (bkO (.clip (ensAV l) l.length) m)) (hm : objs[m]? = some (.kv .i64 es)) (hj' : objs[j]? = some .slot) (hjk : k ≤ j) (hes : KV es (bal l)) (hbm : b ≠ m) (hbj : b ≠ j) (hmj : m ≠ j) (hmk : k ≤ m) (hll : l.length ≤ 1000000) (hgl : GoodL l)
  (hp : l.getLast? = some p) (hs : e.am.length ≤ 9223372036854775807) (he : e.chart = 0) (hg : gd ops ⟨env, objs⟩ o = some true) (hd : o.dst = some d) (hlt : Nat.blt d nt = true)
  (h1 : cmpD e.y e.m e.d p.y p.m p.d < 0 → WL ⟨Tryz.prog, tab, tab_ok, nt, w0, k, H0, ln, hk, hj, sv⟩ ops rest ⟨(d, .int .i64 12) :: env, objs⟩ Q)
  (h2 : ¬ cmpD e.y e.m e.d p.y p.m p.d < 0 → WL ⟨Tryz.prog, tab, tab_ok, nt, w0, k, H0, ln, hk, hj, sv⟩ ops rest ⟨(d, .int .i64 0) :: env, ((objs.set j (.cells (ensAV (l ++ [e])) 1 6 true (some 54))).set b (bkO (.sl j 1 0 (l.length + 1) true) m)).set m (.kv .i64 (cntE es (bal l) e.db e.cr (amZ e.am)))⟩ Q) :
  WL ⟨Tryz.prog, tab, tab_ok, nt, w0, k, H0, ln, hk, hj, sv⟩ ops (o :: rest) ⟨env, objs⟩ Q := by
 have hn0 : 0 < l.length := List.length_pos_iff.2 hl
 have hlast : (ensAV l).drop ((l.length - 1) * 6) = p.cells := by
  obtain ⟨l0, rfl⟩ : ∃ l0, l = l0 ++ [p] := by
   have := List.getLast?_eq_some_iff.1 hp
   exact this
  rw [ensAV_snoc, List.length_append, List.length_singleton, Nat.add_sub_cancel, ← ensAV_length, List.drop_left]
 have hne : ensAV l ≠ [] := fun e => by have := ensAV_length l; rw [e] at this; simp at this; omega
 refine si Tryz.func50 rfl rfl rfl rfl hop hx hxs rfl rfl hg hd hlt fun tm => ?_
 refine W.get fun hO hE hS hK => W.base ?_
 generalize hN : objs.length = N at *
 refine W.seq (W.region ?_)
 first | refine sn (a_boxB (by first | assumption | (simp only [List.length_set]; assumption)) rfl rfl (.inl rfl)) (rfl : _ = AV.ptr (N + 0) 0 0) rfl rfl rfl rfl ?_ | refine sn (a_boxB (by first | assumption | (simp only [List.length_set]; assumption)) rfl rfl (.inr ⟨trivial, rfl⟩)) (rfl : _ = AV.ptr (N + 0) 0 0) rfl rfl rfl rfl ?_
 refine z_p ?_
 refine WL.nil ?_
 refine W.seq (W.seq (W.region ?_))
 refine z_p ?_
 refine sp (v_isnil_ptr rfl rfl (get_old hb) rfl rfl) rfl rfl rfl ?_
 refine WL.nil ?_
 refine W.cond_false rfl (W.skip ?_)
 refine W.seq (W.seq (W.region ?_))
 first | refine sq (v_load rfl rfl (get_new (by first | assumption | (simp only [List.length_set]; assumption)) rfl) rfl rfl) (rfl : _ = AV.agg [_, _, _, _, _, _]) rfl rfl rfl ?_ | refine sq (v_load rfl rfl (get_old hb) rfl rfl) (rfl : _ = AV.agg [_, _, _, _, _, _]) rfl rfl rfl ?_ | refine sq (v_load_radr rfl rfl rfl rfl) (rfl : _ = AV.agg [_, _, _, _, _, _]) rfl rfl rfl ?_
 refine z_c (chartCheck_spec e.y e.m e.d e.db e.cr e.am hs) ?_
 refine z_p ?_
 refine WL.nil ?_
 refine W.seq (W.region ?_)
 refine z_p ?_
 refine sp (v_is false rfl rfl rfl rfl (show (chartF e.y e.m e.d e.db e.cr e.am != 0) = false by simpa [En.chart] using he)) rfl rfl rfl ?_
 refine WL.nil ?_
 refine W.cond_false rfl (W.skip ?_)
 refine W.seq (W.seq (W.region ?_))
 refine z_p ?_
 first | refine z_p ?_ | refine sp (v_nilCheck rfl rfl (get_new (by first | assumption | (simp only [List.length_set]; assumption)) rfl)) rfl rfl rfl ?_ | refine sp (v_nilCheck rfl rfl (get_old hb)) rfl rfl rfl ?_
 first | refine sp (v_fieldAddr rfl rfl (get_new (by first | assumption | (simp only [List.length_set]; assumption)) rfl) rfl rfl rfl rfl (by decide)) rfl rfl rfl ?_ | refine sp (v_fieldAddr rfl rfl (get_old hb) rfl rfl rfl rfl (by decide)) rfl rfl rfl ?_ | refine z_g ?_
 refine sp (VStep.sub (v_load rfl rfl (get_old hb) rfl rfl) (Sub.clip_row _ _)) rfl rfl rfl ?_
 refine sp (v_len (n := l.length) rfl rfl rfl rfl ⟨_, rfl⟩ trivial) rfl rfl rfl ?_
 refine z_p ?_
 refine WL.nil ?_
 refine W.seq (W.drawnR mixed [19, 20, 21, 22, 23, 24, 25, 26, 27, 28, 29, 30, 31, 32] (by kernel_rfl) ?_)
 apply DrawFrom.stepR
 ·intro more
  refine z_p ?_
  exact z_e
 apply DrawFrom.stepR
 ·intro more
  refine z_T (show ((l.length : Nat) : Int) > 0 by omega) ?_
  exact z_e
 apply DrawFrom.stepR
 ·intro more
  refine z_p ?_
  exact z_e
 apply DrawFrom.stepR
 ·intro more
  first | refine sp (v_fieldAddr rfl rfl (get_new (by first | assumption | (simp only [List.length_set]; assumption)) rfl) rfl rfl rfl rfl (by decide)) rfl rfl rfl ?_ | refine sp (v_fieldAddr rfl rfl (get_old hb) rfl rfl rfl rfl (by decide)) rfl rfl rfl ?_ | refine z_g ?_
  exact z_e
 apply DrawFrom.stepR
 ·intro more
  first | refine sq (v_load rfl rfl (get_new (by first | assumption | (simp only [List.length_set]; assumption)) rfl) rfl rfl) (rfl : _ = AV.agg [_, _, _]) rfl rfl rfl ?_ | refine sq (v_load rfl rfl (get_old hb) rfl rfl) (rfl : _ = AV.agg [_, _, _]) rfl rfl rfl ?_ | refine z_r3 ?_
  exact z_e
 apply DrawFrom.stepR
 ·intro more
  refine z_p ?_
  exact z_e
 apply DrawFrom.stepR
 ·intro more
  first | refine z_p ?_ | refine sp (v_nilCheck rfl rfl (get_new (by first | assumption | (simp only [List.length_set]; assumption)) rfl)) rfl rfl rfl ?_ | refine sp (v_nilCheck rfl rfl (get_old hb)) rfl rfl rfl ?_
  exact z_e
 apply DrawFrom.stepR
 ·intro more
  first | refine sp (v_fieldAddr rfl rfl (get_new (by first | assumption | (simp only [List.length_set]; assumption)) rfl) rfl rfl rfl rfl (by decide)) rfl rfl rfl ?_ | refine sp (v_fieldAddr rfl rfl (get_old hb) rfl rfl rfl rfl (by decide)) rfl rfl rfl ?_ | refine z_g ?_
  exact z_e
 apply DrawFrom.stepR
 ·intro more
  refine sp (VStep.sub (v_load rfl rfl (get_old hb) rfl rfl) (Sub.clip_row _ _)) rfl rfl rfl ?_
  exact z_e
 apply DrawFrom.stepR
 ·intro more
  refine z_p ?_
  exact z_e
 apply DrawFrom.stepR
 ·intro more
  refine z_i ?_
  exact z_e
 apply DrawFrom.stepR
 ·intro more
  refine sq (v_indexAddr_row rfl rfl rfl rfl rfl rfl (by omega) (by omega) hne) (show _ = AV.radr p.cells from congrArg AV.radr (show (ensAV l).drop ((((l.length : Nat) : Int) - 1).toNat * 6) = p.cells by rw [show (((l.length : Nat) : Int) - 1).toNat * 6 = (l.length - 1) * 6 by omega]; exact hlast)) rfl rfl rfl ?_
  exact z_e
 apply DrawFrom.stepR
 ·intro more
  first | refine sp (v_fieldAddr rfl rfl (get_new (by first | assumption | (simp only [List.length_set]; assumption)) rfl) rfl rfl rfl rfl (by decide)) rfl rfl rfl ?_ | refine sp (v_fieldAddr rfl rfl (get_old hb) rfl rfl rfl rfl (by decide)) rfl rfl rfl ?_ | refine z_g ?_
  exact z_e
 apply DrawFrom.stepR
 ·intro more
  first | refine sq (v_load rfl rfl (get_new (by first | assumption | (simp only [List.length_set]; assumption)) rfl) rfl rfl) (rfl : _ = AV.agg [_, _, _]) rfl rfl rfl ?_ | refine sq (v_load rfl rfl (get_old hb) rfl rfl) (rfl : _ = AV.agg [_, _, _]) rfl rfl rfl ?_ | refine z_r3 ?_
  exact z_e
 refine DrawFrom.doneR (rfl : _ = (_, _) :: (_, _) :: (_, _) :: (_, _) :: (_, _) :: (_, _) :: (_, _) :: (_, _) :: (_, _) :: (_, _) :: (_, _) :: (_, _) :: (_, _) :: (_, _) :: _) ?_
 refine z_c (dateCmp_spec e.y e.m e.d p.y p.m p.d) ?_
 refine z_p ?_
 refine z_p ?_
 refine WL.nil ?_
 refine W.cond rfl (fun hc => ?_) (fun hc => ?_)
 ·have hc0 : cmpD e.y e.m e.d p.y p.m p.d < 0 := by simpa using hc
  refine W.seq (W.region ?_)
  refine z_p ?_
  refine WL.nil ?_
  exact W.ret ⟨.inl rfl, _, rfl, sd (h1 hc0) hO hN hS rfl rfl hK⟩
 ·have hc0 : ¬ cmpD e.y e.m e.d p.y p.m p.d < 0 := by simpa using hc
  refine W.skip ?_
  have hb2 : (objs.set j (.cells (ensAV (l ++ [e])) 1 6 true (some 54)))[b]? = some (bkO (.clip (ensAV l) l.length) m) := get_other hb (Ne.symm hbj)
  have hm2 : (objs.set j (.cells (ensAV (l ++ [e])) 1 6 true (some 54)))[m]? = some (.kv .i64 es) := get_other hm (Ne.symm hmj)
  have hj2 : (objs.set j (.cells (ensAV (l ++ [e])) 1 6 true (some 54)))[j]? = some (.cells (ensAV (l ++ [e])) 1 6 true (some 54)) := get_set hj'
  have hb3 : ((objs.set j (.cells (ensAV (l ++ [e])) 1 6 true (some 54))).set b (bkO (.sl j 1 0 (l.length + 1) true) m))[b]? = some (bkO (.sl j 1 0 (l.length + 1) true) m) := get_set hb2
  have hm3 : ((objs.set j (.cells (ensAV (l ++ [e])) 1 6 true (some 54))).set b (bkO (.sl j 1 0 (l.length + 1) true) m))[m]? = some (.kv .i64 es) := get_other hm2 hbm
  have hz := amZ_le e.am (good_amZ he).1
  have hL1 : Lim (amZ e.am).natAbs := Lim.small (N := 1) (by omega) (by omega)
  have hL2 : ∀ a, Lim (bal l a).natAbs := fun a => Lim.small (N := l.length) (bal_le hgl a) (by omega)
  have hL3 : Lim (turn (bal l) e.db (bal l e.db + amZ e.am) e.cr).natAbs := by
   refine Lim.small (N := l.length + 1) ?_ (by omega)
   have q1 := bal_le hgl e.db
   have q2 := bal_le hgl e.cr
   rw [Nat.add_mul, Nat.one_mul]
   simp only [turn]
   split <;> omega
  refine W.seq (W.middle mixed [36, 37, 38, 39, 40, 41, 42] [0] [1, 2, 3, 4, 5, 6] 1 rfl rfl rfl rfl rfl rfl ?_)
  apply MidV.step
  ·intro more
   refine z_p ?_
   exact z_e
  apply MidV.step
  ·intro more
   first | refine z_p ?_ | refine sp (v_nilCheck rfl rfl (get_new (by first | assumption | (simp only [List.length_set]; assumption)) rfl)) rfl rfl rfl ?_ | refine sp (v_nilCheck rfl rfl (get_old hb)) rfl rfl rfl ?_ | refine sp (v_nilCheck rfl rfl (get_old hb2)) rfl rfl rfl ?_ | refine sp (v_nilCheck rfl rfl (get_old hb3)) rfl rfl rfl ?_
   exact z_e
  apply MidV.step
  ·intro more
   first | refine sp (v_fieldAddr rfl rfl (get_new (by first | assumption | (simp only [List.length_set]; assumption)) rfl) rfl rfl rfl rfl (by decide)) rfl rfl rfl ?_ | refine sp (v_fieldAddr rfl rfl (get_old hb) rfl rfl rfl rfl (by decide)) rfl rfl rfl ?_ | refine sp (v_fieldAddr rfl rfl (get_old hb2) rfl rfl rfl rfl (by decide)) rfl rfl rfl ?_ | refine sp (v_fieldAddr rfl rfl (get_old hb3) rfl rfl rfl rfl (by decide)) rfl rfl rfl ?_ | refine z_g ?_
   exact z_e
  apply MidV.step
  ·intro more
   first | refine sp (v_load rfl rfl (get_new (by first | assumption | (simp only [List.length_set]; assumption)) rfl) rfl rfl) rfl rfl rfl ?_ | refine sp (v_load rfl rfl (get_old hb) rfl rfl) rfl rfl rfl ?_ | refine sp (v_load rfl rfl (get_old hb2) rfl rfl) rfl rfl rfl ?_ | refine sp (v_load rfl rfl (get_old hb3) rfl rfl) rfl rfl rfl ?_ | refine z_r ?_
   exact z_e
  apply MidV.step
  ·intro more
   first | refine sq (v_load rfl rfl (get_new (by first | assumption | (simp only [List.length_set]; assumption)) rfl) rfl rfl) (rfl : _ = AV.agg [_, _, _, _, _, _]) rfl rfl rfl ?_ | refine sq (v_load rfl rfl (get_old hb) rfl rfl) (rfl : _ = AV.agg [_, _, _, _, _, _]) rfl rfl rfl ?_ | refine sq (v_load rfl rfl (get_old hb2) rfl rfl) (rfl : _ = AV.agg [_, _, _, _, _, _]) rfl rfl rfl ?_ | refine sq (v_load rfl rfl (get_old hb3) rfl rfl) (rfl : _ = AV.agg [_, _, _, _, _, _]) rfl rfl rfl ?_ | refine sq (v_load_radr rfl rfl rfl rfl) (rfl : _ = AV.agg [_, _, _, _, _, _]) rfl rfl rfl ?_
   exact z_e
  apply MidV.step
  ·intro more
   refine sq (v_buildRow rfl rfl rfl rfl rfl rfl rfl (Nat.le_of_ble_eq_true rfl) (Nat.le_of_ble_eq_true rfl) rfl rfl rfl rfl) (rfl : _ = AV.row [_, _, _, _, _, _] 1) rfl rfl rfl ?_
   exact z_e
  refine MidV.done ?_
  apply MidM.val rfl
  ·intro more
   refine sn (v_append_clipS (get_old hj') hjk rfl rfl (ensAV_length l) rfl rfl rfl rfl rfl rfl (by decide) (.inr (.inl ⟨rfl, rfl⟩)) (by decide) (by simp [AV.oneB]) (by omega) (show (l.length + 1) * 56 ≤ 140737488355328 by omega)) (rfl : _ = AV.sl j 1 0 (l.length + 1) true) ((set_old hj').trans (by rw [ensAV_snoc]; rfl) : _ = objs.set j (.cells (ensAV (l ++ [e])) 1 6 true (some 54)) ++ [AObj.cells e.cells 0 1 false none]) rfl rfl rfl ?_
   exact z_e
  refine MidM.done ?_
  apply MidF.step
  ·refine ⟨fun more => ?_, fun more => ?_, trivial⟩
   refine z_p ?_
   exact z_e
   refine z_p ?_
   exact z_e
  refine MidF.done ?_
  first | refine z_p ?_ | refine sp (v_nilCheck rfl rfl (get_new (by first | assumption | (simp only [List.length_set]; assumption)) rfl)) rfl rfl rfl ?_ | refine sp (v_nilCheck rfl rfl (get_old hb)) rfl rfl rfl ?_ | refine sp (v_nilCheck rfl rfl (get_old hb2)) rfl rfl rfl ?_ | refine sp (v_nilCheck rfl rfl (get_old hb3)) rfl rfl rfl ?_
  first | refine sp (v_fieldAddr rfl rfl (get_new (by first | assumption | (simp only [List.length_set]; assumption)) rfl) rfl rfl rfl rfl (by decide)) rfl rfl rfl ?_ | refine sp (v_fieldAddr rfl rfl (get_old hb) rfl rfl rfl rfl (by decide)) rfl rfl rfl ?_ | refine sp (v_fieldAddr rfl rfl (get_old hb2) rfl rfl rfl rfl (by decide)) rfl rfl rfl ?_ | refine sp (v_fieldAddr rfl rfl (get_old hb3) rfl rfl rfl rfl (by decide)) rfl rfl rfl ?_ | refine z_g ?_
  refine ss (a_store1 rfl rfl (get_old hb2) rfl ⟨_, _, _, _, get_old hj2⟩ (fun h => by cases h) rfl rfl (Nat.le_of_ble_eq_true rfl)) (show _ = (objs.set j (.cells (ensAV (l ++ [e])) 1 6 true (some 54))).set b (bkO (.sl j 1 0 (l.length + 1) true) m) ++ _ from set_old hb2) rfl rfl ?_
  refine WL.nil ?_
  refine W.seq (W.drawnR mixed [46, 47, 48, 49] (by kernel_rfl) ?_)
  apply DrawFrom.stepR
  ·intro more
   refine z_p ?_
   exact z_e
  apply DrawFrom.stepR
  ·intro more
   first | refine sq (v_load rfl rfl (get_new (by first | assumption | (simp only [List.length_set]; assumption)) rfl) rfl rfl) (rfl : _ = AV.agg [_, _, _, _, _, _]) rfl rfl rfl ?_ | refine sq (v_load rfl rfl (get_old hb) rfl rfl) (rfl : _ = AV.agg [_, _, _, _, _, _]) rfl rfl rfl ?_ | refine sq (v_load rfl rfl (get_old hb2) rfl rfl) (rfl : _ = AV.agg [_, _, _, _, _, _]) rfl rfl rfl ?_ | refine sq (v_load rfl rfl (get_old hb3) rfl rfl) (rfl : _ = AV.agg [_, _, _, _, _, _]) rfl rfl rfl ?_ | refine sq (v_load_radr rfl rfl rfl rfl) (rfl : _ = AV.agg [_, _, _, _, _, _]) rfl rfl rfl ?_
   exact z_e
  apply DrawFrom.stepR
  ·intro more
   first | refine sq (v_load rfl rfl (get_new (by first | assumption | (simp only [List.length_set]; assumption)) rfl) rfl rfl) (rfl : _ = AV.agg [_, _, _, _, _, _]) rfl rfl rfl ?_ | refine sq (v_load rfl rfl (get_old hb) rfl rfl) (rfl : _ = AV.agg [_, _, _, _, _, _]) rfl rfl rfl ?_ | refine sq (v_load rfl rfl (get_old hb2) rfl rfl) (rfl : _ = AV.agg [_, _, _, _, _, _]) rfl rfl rfl ?_ | refine sq (v_load rfl rfl (get_old hb3) rfl rfl) (rfl : _ = AV.agg [_, _, _, _, _, _]) rfl rfl rfl ?_ | refine sq (v_load_radr rfl rfl rfl rfl) (rfl : _ = AV.agg [_, _, _, _, _, _]) rfl rfl rfl ?_
   exact z_e
  apply DrawFrom.stepR
  ·intro more
   refine z_c (bookAmount_spec e hs) ?_
   exact z_e
  refine DrawFrom.doneR (rfl : _ = (_, _) :: (_, _) :: (_, _) :: (_, _) :: _) ?_
  refine count_si e (amZ e.am) rfl rfl rfl (get_old hb3) (get_old hm3) hes hbm hmk hL1 (hL2 _) hL3 rfl rfl rfl ?_
  rw [set_old hm3]
  refine WL.nil ?_
  refine W.seq (W.region ?_)
  refine z_p ?_
  refine WL.nil ?_
  have hjN : j < N := by rw [← hN]; exact (List.getElem?_eq_some_iff.1 hj').1
  have hmN : m < N := by rw [← hN]; exact (List.getElem?_eq_some_iff.1 hm).1
  refine W.ret ⟨.inl rfl, _, rfl, sd (h2 hc0) (((hO.own j _ _ _ _).set (fun cs _ _ _ h => ?_)).kv m _ _) (by simp only [List.length_set]; exact hN) hS rfl rfl hK⟩
  simp only [bkO, AObj.cells.injEq] at h
  rw [← h.1, List.length_set]
  simp [scopedL, AV.inside, hN, hjN, hmN]
end
end Go.Proofs.YtejpblopbdgkaaaGreatDoor

set_option linter.unusedVariables false
set_option linter.unusedSimpArgs false
namespace Go.Proofs.YtejpblopbdgkaaaGreatDoor
open Go Go.Lens
theorem postE_bad {l : List En} {x : En} (h : x.chart ≠ 0) : postE l x = x.chart := by rw [postE, if_pos h]
theorem postE_nil {x : En} (h : x.chart = 0) : postE [] x = 0 := by rw [postE, if_neg (by simpa using h)]; rfl
theorem postE_last {l : List En} {x p : En} (h : x.chart = 0) (hp : l.getLast? = some p) : postE l x = if cmpD x.y x.m x.d p.y p.m p.d < 0 then 12 else 0 := by
 rw [postE, if_neg (by simpa using h), hp]
theorem GoodL.snoc {l : List En} {x : En} (h : GoodL l) (hx : x.chart = 0) : GoodL (l ++ [x]) := by
 intro y hy
 rcases List.mem_append.1 hy with hy | hy
 ·exact h y hy
 ·rw [List.mem_singleton.1 hy]; exact hx
theorem Bk.bk {m j : Nat} {l : List En} {X Y Z : AObj} (h : Bk m j l X Y Z) : ∃ cv es, X = bkO cv m ∧ Y = .kv .i64 es ∧ KV es (bal l) := by
 cases h with
 | clip es hes hg => exact ⟨_, es, rfl, rfl, hes⟩
 | own es ver hes hg hl => exact ⟨_, es, rfl, rfl, hes⟩
theorem Bk.good {m j : Nat} {l : List En} {X Y Z : AObj} (h : Bk m j l X Y Z) : GoodL l := by cases h <;> assumption
theorem Bk.new (m j : Nat) : Bk m j [] (bkO (.clip [] 0) m) (.kv .i64 []) .slot := Bk.clip [] KV.nil (fun x h => by cases h)
section
variable {nt : Nat} {w0 : World} {k : Nat} {H0 : View} {ln : Nat → Nat} {hk : ∀ o, o < k → H0.blk o < w0.heap.size} {hj : ∀ x o, x < k → o < k → H0.blk x = H0.blk o → x = o} {sv : List (Array Value × List (Nat × AV))}
  {ops : Array Oper} {o : Oper} {rest : List Oper} {env : List (Nat × AV)} {objs : List AObj} {Q : Exit → St → Prop} {x : Operand} {xs : Array Operand} {ts : Array TypeId} {d b m j : Nat}
theorem post_si {l : List En} {X Y Z : AObj} (e : En) (hB : Bk m j l X Y Z) (hop : o.op = .call { callee := .value x, args := xs, argTypes := ts }) (hx : ev ⟨env, objs⟩ x = some (.func (.func 50) [] [])) (hxs : evL ⟨env, objs⟩ xs.toList = some [.ptr b 0 0, e.av])
  (hb : objs[b]? = some X) (hm : objs[m]? = some Y) (hj' : objs[j]? = some Z) (hbm : b ≠ m) (hbj : b ≠ j) (hmj : m ≠ j) (hmk : k ≤ m) (hjk : k ≤ j) (hll : l.length ≤ 1000000) (hs : e.am.length ≤ 9223372036854775807)
  (hg : gd ops ⟨env, objs⟩ o = some true) (hd : o.dst = some d) (hlt : Nat.blt d nt = true)
  (h1 : postE l e ≠ 0 → WL ⟨Tryz.prog, tab, tab_ok, nt, w0, k, H0, ln, hk, hj, sv⟩ ops rest ⟨(d, .int .i64 (postE l e)) :: env, objs⟩ Q)
  (h2 : postE l e = 0 → ∀ X' Y' Z', Bk m j (l ++ [e]) X' Y' Z' → WL ⟨Tryz.prog, tab, tab_ok, nt, w0, k, H0, ln, hk, hj, sv⟩ ops rest ⟨(d, .int .i64 0) :: env, ((objs.set j Z').set b X').set m Y'⟩ Q) :
  WL ⟨Tryz.prog, tab, tab_ok, nt, w0, k, H0, ln, hk, hj, sv⟩ ops (o :: rest) ⟨env, objs⟩ Q := by
 by_cases he : e.chart = 0
 ·cases hB with
  | clip es hes hgl =>
   have key : Bk m j (l ++ [e]) (bkO (.sl j 1 0 (l.length + 1) true) m) (.kv .i64 (cntE es (bal l) e.db e.cr (amZ e.am))) (.cells (ensAV (l ++ [e])) 1 6 true (some 54)) := by
    have := Bk.own (m := m) (j := j) (l := l ++ [e]) _ 1 (bal_snoc l e ▸ hes.cnt e.db e.cr (amZ e.am)) (hgl.snoc he) (by simp)
    rw [List.length_append] at this
    exact this
   by_cases hl : l = []
   ·subst hl
    exact post_clip0 e hop hx hxs hb hm hj' hjk hes hbm hbj hmj hmk hll hgl rfl hs he hg hd hlt (h2 (postE_nil he) _ _ _ key)
   ·obtain ⟨p, hp⟩ : ∃ p, l.getLast? = some p := ⟨l.getLast hl, List.getLast?_eq_some_getLast hl⟩
    refine post_clip e p hl hop hx hxs hb hm hj' hjk hes hbm hbj hmj hmk hll hgl hp hs he hg hd hlt (fun hc => ?_) (fun hc => h2 (by rw [postE_last he hp, if_neg hc]) _ _ _ key)
    have e1 : postE l e = 12 := by rw [postE_last he hp, if_pos hc]
    have := h1 (by rw [e1]; decide)
    rw [e1] at this; exact this
  | own es ver hes hgl hl =>
   have key : Bk m j (l ++ [e]) (bkO (.sl j (ver + 1) 0 (l.length + 1) true) m) (.kv .i64 (cntE es (bal l) e.db e.cr (amZ e.am))) (.cells (ensAV (l ++ [e])) (ver + 1) 6 true (some 54)) := by
    have := Bk.own (m := m) (j := j) (l := l ++ [e]) _ (ver + 1) (bal_snoc l e ▸ hes.cnt e.db e.cr (amZ e.am)) (hgl.snoc he) (by simp)
    rw [List.length_append] at this
    exact this
   obtain ⟨p, hp⟩ : ∃ p, l.getLast? = some p := ⟨l.getLast hl, List.getLast?_eq_some_getLast hl⟩
   refine post_own e p hl hop hx hxs hb hm hj' hes hbm hbj hmj hmk hll hgl hp hs he hg hd hlt (fun hc => ?_) (fun hc => h2 (by rw [postE_last he hp, if_neg hc]) _ _ _ key)
   have e1 : postE l e = 12 := by rw [postE_last he hp, if_pos hc]
   have := h1 (by rw [e1]; decide)
   rw [e1] at this; exact this
 ·obtain ⟨cv, es, rfl, rfl, _⟩ := hB.bk
  have := h1 (by rw [postE_bad he]; exact he)
  rw [postE_bad he] at this
  exact post_bad e hop hx hxs hb hs he hg hd hlt this
end
end Go.Proofs.YtejpblopbdgkaaaGreatDoor

set_option linter.unusedVariables false
set_option linter.unusedSimpArgs false
namespace Go.Lens
open Go Go.RowKit
theorem v_eqnil_sl {C : Ctx} {o : Oper} {st : St} {t t' e : TypeId} {x : Operand} {y : Ty} {ob ver off n esz : Nat} {full flat : Bool} {cs : List AV} {own : Option TypeId} (hop : o.op = .binOp .eql t x (.const (.slice none 0 0)) t')
  (hx : ev st x = some (.sl ob ver off n full)) (hob : st.objs[ob]? = some (.cells cs ver esz flat own)) (hy : C.T.at t = some y) (hk : y.k = .slice e) : VStep C o st (.bool false) st.objs := by
 refine VStep.of_pure fun H a w hi => ?_
 obtain ⟨d, i, hdd, _, hkd, _⟩ := C.ty hy
 rw [hk] at hkd
 obtain rfl := kOf_slice hkd
 obtain ⟨hv, _⟩ := hi.objs.rel ob _ hob
 obtain ⟨_, _, h3⟩ := ev_rel hi hx
 obtain ⟨ad, c, h1, _⟩ := h3 hv
 refine ⟨.bool false, ?_, rfl⟩
 have hc0 : a.eval (.const (.slice none 0 0)) = .slice none 0 0 := rfl
 simp only [execOp, hop, h1, hc0, Sem.run_bind, eqGuard_at_slice, Sem.run_pure, Result.andThen_ok, binOp, run_equal_slice_nil w t e (some ad) n c hdd]
 rfl
theorem v_lastB {C : Ctx} {o : Oper} {env : List (Nat × AV)} {O l : List AObj} {N n : Nat} {X : AObj} (hN : O.length = N) (h : VStep C o ⟨env, O ++ l⟩ (.sl (O ++ l).length 0 0 n true) ((O ++ l) ++ [X])) :
  VStep C o ⟨env, O ++ l⟩ (.sl (N + l.length) 0 0 n true) (O ++ (l ++ [X])) := by
 rw [List.length_append, hN, List.append_assoc] at h
 exact h
theorem WL.get {C : Ctx} {ops : Array Oper} {r : List Oper} {st : St} {Q : Exit → St → Prop} (h : ScO st.objs → ScE st.objs.length st.env → ScS st.objs.length C.sv → C.k ≤ st.objs.length → WL C ops r st Q) : WL C ops r st Q := by
 rintro a w ⟨H, hi⟩
 have hn := hi.objs.n
 refine h (fun o cs ver esz own ho => ?_) (fun t av ht => ?_) (fun p hp t av ht => ?_) hi.klen a w ⟨H, hi⟩
 ·obtain ⟨_, _, vs, c, e, _, h4, _⟩ := hi.objs.rel o _ ho
  rw [← hn]; exact RelL.scoped cs h4
 ·rw [← hn]; exact RelV.scoped av (hi.env t av ht)
 ·rw [← hn]; exact RelV.scoped av (hi.saved p hp t av ht)
/-- an own slice at the end of the objects is from now on only read -/
theorem WL.settle {C : Ctx} {ops : Array Oper} {r : List Oper} {env : List (Nat × AV)} {objs : List AObj} {Q : Exit → St → Prop} {d n esz ver : Nat} {full : Bool} {cs : List AV} {e : TypeId} (hlen : cs.length = n * esz) (hO : ScO objs) (hE : ScE objs.length env) (hS : ScS objs.length C.sv) (hK : C.k ≤ objs.length)
  (h : WL C ops r ⟨(d, .row cs n) :: env, objs⟩ Q) : WL C ops r ⟨(d, .sl objs.length ver 0 n full) :: env, objs ++ [.cells cs ver esz true (some e)]⟩ Q := by
 have e1 : look ((d, AV.sl objs.length ver 0 n full) :: env) d = some (.sl objs.length ver 0 n full) := by simp [look]
 have e2 : (objs ++ [AObj.cells cs ver esz true (some e)])[objs.length]? = some (AObj.cells cs ver esz true (some e)) := by
  rw [List.getElem?_append_right (Nat.le_refl _)]; simp
 refine WL.seal d e1 e2 (by rw [Nat.zero_add, hlen]; exact Nat.le_refl _) ?_
 rw [List.drop_zero, List.take_of_length_le (by rw [hlen]; exact Nat.le_refl _), List.set_append_right _ _ (Nat.le_refl _), Nat.sub_self]
 refine WL.drop h (fun t v hl => ?_) hO (hE.cons rfl) hS hK
 simp only [look] at hl ⊢
 split
 ·rename_i q; rw [if_pos q] at hl; exact hl
 ·rename_i q; rw [if_neg q] at hl; exact hl
/-- of the newest value less is known -/
theorem WL.resub {C : Ctx} {ops : Array Oper} {r : List Oper} {env : List (Nat × AV)} {objs : List AObj} {Q : Exit → St → Prop} {d : Nat} {c c' : AV} (hs : Sub c c') (h : WL C ops r ⟨(d, c') :: env, objs⟩ Q) : WL C ops r ⟨(d, c) :: env, objs⟩ Q := by
 have e1 : look ((d, c) :: env) d = some c := by simp [look]
 refine WL.sub d e1 hs ?_
 refine fun a w hr => h a w (hr.env fun t v hl => ?_)
 simp only [look] at hl ⊢
 split
 ·rename_i q; rw [if_pos q] at hl; exact hl
 ·rename_i q; rw [if_neg q] at hl; exact hl
end Go.Lens
