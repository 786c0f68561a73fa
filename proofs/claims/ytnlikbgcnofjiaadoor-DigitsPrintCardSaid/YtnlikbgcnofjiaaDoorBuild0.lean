/- strings.Builder: what its methods do to a builder of the call's own. -/
import Derived.Test.YtnlikbgcnofjiaaDoorLens19
import Derived.Test.YtnlikbgcnofjiaaDoorTab
import Derived.Test.YtnlikbgcnofjiaaDoorNat0
set_option linter.unusedVariables false
set_option linter.unusedSimpArgs false
namespace Go.Proofs.YtnlikbgcnofjiaaDoor
open Go Go.Lens

theorem noEscape_ext (ob ver i : Nat) : Ext Tryd.prog 112 [.ptr ob ver i] (.ptr ob ver i) :=
  Ext.of Tryd.func112 (by kernel_rfl) (by kernel_rfl) (by kernel_rfl) (show Extern.find Tryd.f112 = some Extern.AbiNoEscape.same by kernel_rfl) noEscape_row

/-- a builder -/
def bldO (p buf : AV) : AObj := .cells [p, buf] 0 2 false (some 91)
theorem bldO_set (p buf p' : AV) : (AObj.cells ([p, buf].set 0 p') 0 2 false (some 91)) = bldO p' buf := rfl

section
variable {nt : Nat} {w0 : World} {k : Nat} {H0 : View} {ln : Nat → Nat} {hk : ∀ o, o < k → H0.blk o < w0.heap.size} {hj : ∀ x o, x < k → o < k → H0.blk x = H0.blk o → x = o} {sv : List (Array Value × List (Nat × AV))}
  {ops : Array Oper} {o : Oper} {rest : List Oper} {env : List (Nat × AV)} {objs : List AObj} {Q : Exit → St → Prop} {x : Operand} {xs : Array Operand} {ts : Array TypeId} {d b : Nat}

theorem bc_fresh {buf : AV} (hop : o.op = .call { callee := .value x, args := xs, argTypes := ts }) (hx : ev ⟨env, objs⟩ x = some (.func (.func 86) [] [])) (hxs : evL ⟨env, objs⟩ xs.toList = some [.ptr b 0 0]) (hob : objs[b]? = some (bldO .nilp buf))
    (hg : gd ops ⟨env, objs⟩ o = some true) (hd : o.dst = some d) (hlt : Nat.blt d nt = true) (h : WL ⟨Tryd.prog, tab, tab_ok, nt, w0, k, H0, ln, hk, hj, sv⟩ ops rest ⟨(d, .tup []) :: env, objs.set b (bldO (.ptr b 0 0) buf)⟩ Q) :
    WL ⟨Tryd.prog, tab, tab_ok, nt, w0, k, H0, ln, hk, hj, sv⟩ ops (o :: rest) ⟨env, objs⟩ Q := by
  refine si Tryd.func86 rfl rfl rfl rfl hop hx hxs rfl rfl hg hd hlt fun tm => ?_
  refine W.seq (W.region ?_)
  refine sp (v_pure rfl) rfl rfl rfl ?_
  refine sp (v_nilCheck rfl rfl hob) rfl rfl rfl ?_
  refine sp (v_fieldAddr rfl rfl hob rfl rfl rfl rfl (by decide)) rfl rfl rfl ?_
  refine sp (v_load rfl rfl hob rfl rfl) rfl rfl rfl ?_
  refine sp (v_isnil_nilp rfl rfl rfl rfl) rfl rfl rfl ?_
  refine WL.nil ?_
  refine W.cond_true rfl ?_
  refine W.region ?_
  refine sp (v_pure rfl) rfl rfl rfl ?_
  refine sp (v_pure rfl) rfl rfl rfl ?_
  refine sp (v_to_unsafe rfl rfl hob (Nat.le_of_ble_eq_true rfl) rfl rfl rfl (by decide) (by kernel_rfl)) rfl rfl rfl ?_
  refine sp (v_ext (noEscape_ext b 0 0) rfl rfl rfl) rfl rfl rfl ?_
  refine sp (v_from_unsafe rfl rfl hob (Nat.le_of_ble_eq_true rfl) (by kernel_rfl) rfl rfl rfl rfl (by decide)) rfl rfl rfl ?_
  refine sp (v_nilCheck rfl rfl hob) rfl rfl rfl ?_
  refine sp (v_fieldAddr rfl rfl hob rfl rfl rfl rfl (by decide)) rfl rfl rfl ?_
  refine ss (a_store1 rfl rfl hob rfl ⟨_, _, _, _, hob⟩ (fun h => by cases h) rfl rfl (Nat.le_of_ble_eq_true rfl)) (rfl : _ = objs.set b (bldO (.ptr b 0 0) buf)) rfl rfl ?_
  refine WL.nil ?_
  exact ⟨.inr rfl, [], rfl, h⟩

theorem bc_used {buf : AV} (hop : o.op = .call { callee := .value x, args := xs, argTypes := ts }) (hx : ev ⟨env, objs⟩ x = some (.func (.func 86) [] [])) (hxs : evL ⟨env, objs⟩ xs.toList = some [.ptr b 0 0]) (hob : objs[b]? = some (bldO (.ptr b 0 0) buf))
    (hg : gd ops ⟨env, objs⟩ o = some true) (hd : o.dst = some d) (hlt : Nat.blt d nt = true) (h : WL ⟨Tryd.prog, tab, tab_ok, nt, w0, k, H0, ln, hk, hj, sv⟩ ops rest ⟨(d, .tup []) :: env, objs⟩ Q) :
    WL ⟨Tryd.prog, tab, tab_ok, nt, w0, k, H0, ln, hk, hj, sv⟩ ops (o :: rest) ⟨env, objs⟩ Q := by
  refine si Tryd.func86 rfl rfl rfl rfl hop hx hxs rfl rfl hg hd hlt fun tm => ?_
  refine W.seq (W.region ?_)
  refine sp (v_pure rfl) rfl rfl rfl ?_
  refine sp (v_nilCheck rfl rfl hob) rfl rfl rfl ?_
  refine sp (v_fieldAddr rfl rfl hob rfl rfl rfl rfl (by decide)) rfl rfl rfl ?_
  refine sp (v_load rfl rfl hob rfl rfl) rfl rfl rfl ?_
  refine sp (v_isnil_ptr rfl rfl hob rfl rfl) rfl rfl rfl ?_
  refine WL.nil ?_
  refine W.cond_false rfl ?_
  refine W.seq (W.region ?_)
  refine sp (v_pure rfl) rfl rfl rfl ?_
  refine sp (v_nilCheck rfl rfl hob) rfl rfl rfl ?_
  refine sp (v_fieldAddr rfl rfl hob rfl rfl rfl rfl (by decide)) rfl rfl rfl ?_
  refine sp (v_load rfl rfl hob rfl rfl) rfl rfl rfl ?_
  refine sp (v_pure rfl) rfl rfl rfl ?_
  refine sp (v_same_ptr rfl rfl rfl hob rfl rfl rfl) rfl rfl rfl ?_
  refine WL.nil ?_
  refine W.cond_false rfl (W.skip ?_)
  exact ⟨.inr rfl, [], rfl, h⟩

theorem set_set_app {X Y buf : AObj} {l : List AObj} {b : Nat} (h : b < l.length) : (l.set b X ++ [buf]).set b Y = l.set b Y ++ [buf] := by
  rw [List.set_append_left _ _ (by simpa using h), List.set_set]

theorem bw_fresh (t : List UInt8) (hop : o.op = .call { callee := .value x, args := xs, argTypes := ts }) (hx : ev ⟨env, objs⟩ x = some (.func (.func 58) [] [])) (hxs : evL ⟨env, objs⟩ xs.toList = some [.ptr b 0 0, .str t]) (hob : objs[b]? = some (bldO .nilp .nils))
    (ht : t ≠ []) (htl : t.length ≤ 140737488355328) (hg : gd ops ⟨env, objs⟩ o = some true) (hd : o.dst = some d) (hlt : Nat.blt d nt = true)
    (h : WL ⟨Tryd.prog, tab, tab_ok, nt, w0, k, H0, ln, hk, hj, sv⟩ ops rest ⟨(d, .tup [.int .i64 t.length, .any]) :: env, objs.set b (bldO (.ptr b 0 0) (.sl objs.length 0 0 t.length true)) ++ [.cells (bytesAV t) 0 1 true (some 5)]⟩ Q) :
    WL ⟨Tryd.prog, tab, tab_ok, nt, w0, k, H0, ln, hk, hj, sv⟩ ops (o :: rest) ⟨env, objs⟩ Q := by
  have hbl : b < objs.length := (List.getElem?_eq_some_iff.1 hob).1
  have hob1 : (objs.set b (bldO (.ptr b 0 0) .nils))[b]? = some (bldO (.ptr b 0 0) .nils) := by simp [hbl]
  have hob2 : (objs.set b (bldO (.ptr b 0 0) .nils) ++ [AObj.cells (bytesAV t) 0 1 true (some 5)])[b]? = some (bldO (.ptr b 0 0) .nils) := by
    rw [List.getElem?_append_left (by simpa using hbl)]; exact hob1
  have hob3 : (objs.set b (bldO (.ptr b 0 0) .nils) ++ [AObj.cells (bytesAV t) 0 1 true (some 5)])[objs.length]? = some (.cells (bytesAV t) 0 1 true (some 5)) := by
    rw [List.getElem?_append_right (by simp)]; simp
  refine si Tryd.func58 rfl rfl rfl rfl hop hx hxs rfl rfl hg hd hlt fun tm => ?_
  refine W.seq (W.region ?_)
  refine sp (v_pure rfl) rfl rfl rfl ?_
  refine sp (v_any_assign rfl) rfl rfl rfl ?_
  refine WL.nil ?_
  refine W.seq (W.region ?_)
  refine sp (v_pure rfl) rfl rfl rfl ?_
  refine bc_fresh rfl rfl rfl hob rfl rfl rfl ?_
  refine WL.nil ?_
  refine W.seq (W.region ?_)
  refine sp (v_pure rfl) rfl rfl rfl ?_
  refine sp (v_pure rfl) rfl rfl rfl ?_
  refine sp (v_nilCheck rfl rfl hob1) rfl rfl rfl ?_
  refine sp (v_fieldAddr rfl rfl hob1 rfl rfl rfl rfl (by decide)) rfl rfl rfl ?_
  refine sp (v_load rfl rfl hob1 rfl rfl) rfl rfl rfl ?_
  refine sp (v_pure rfl) rfl rfl rfl ?_
  refine sn (v_append_str_nil rfl rfl rfl rfl rfl rfl rfl rfl (by kernel_rfl) rfl rfl ht htl) (show _ = AV.sl objs.length 0 0 t.length true from by simp) rfl rfl rfl rfl ?_
  refine sp (v_nilCheck rfl rfl hob2) rfl rfl rfl ?_
  refine sp (v_fieldAddr rfl rfl hob2 rfl rfl rfl rfl (by decide)) rfl rfl rfl ?_
  refine ss (a_store1 rfl rfl hob2 rfl ⟨_, _, _, _, hob3⟩ (fun h => by cases h) rfl rfl (Nat.le_of_ble_eq_true rfl)) (show _ = objs.set b (bldO (.ptr b 0 0) (.sl objs.length 0 0 t.length true)) ++ [.cells (bytesAV t) 0 1 true (some 5)] from set_set_app hbl) rfl rfl ?_
  refine WL.nil ?_
  refine W.seq (W.region ?_)
  refine sp (v_pure rfl) rfl rfl rfl ?_
  refine sp (v_len rfl rfl rfl rfl rfl trivial) rfl rfl rfl ?_
  refine sp (v_pure rfl) rfl rfl rfl ?_
  refine sp (v_any_assign rfl) rfl rfl rfl ?_
  refine WL.nil ?_
  exact W.ret ⟨.inl rfl, _, rfl, h⟩

theorem bw_used (s t : List UInt8) (c ver : Nat) (hbc : b ≠ c) (hop : o.op = .call { callee := .value x, args := xs, argTypes := ts }) (hx : ev ⟨env, objs⟩ x = some (.func (.func 58) [] [])) (hxs : evL ⟨env, objs⟩ xs.toList = some [.ptr b 0 0, .str t])
    (hob : objs[b]? = some (bldO (.ptr b 0 0) (.sl c ver 0 s.length true))) (hoc : objs[c]? = some (.cells (bytesAV s) ver 1 true (some 5)))
    (htl : s.length + t.length ≤ 140737488355328) (hg : gd ops ⟨env, objs⟩ o = some true) (hd : o.dst = some d) (hlt : Nat.blt d nt = true)
    (h : WL ⟨Tryd.prog, tab, tab_ok, nt, w0, k, H0, ln, hk, hj, sv⟩ ops rest ⟨(d, .tup [.int .i64 t.length, .any]) :: env, (objs.set c (.cells (bytesAV (s ++ t)) (ver + 1) 1 true (some 5))).set b (bldO (.ptr b 0 0) (.sl c (ver + 1) 0 (s ++ t).length true))⟩ Q) :
    WL ⟨Tryd.prog, tab, tab_ok, nt, w0, k, H0, ln, hk, hj, sv⟩ ops (o :: rest) ⟨env, objs⟩ Q := by
  have hbl : b < objs.length := (List.getElem?_eq_some_iff.1 hob).1
  have hcl : c < objs.length := (List.getElem?_eq_some_iff.1 hoc).1
  have hob2 : (objs.set c (AObj.cells (bytesAV (s ++ t)) (ver + 1) 1 true (some 5)))[b]? = some (bldO (.ptr b 0 0) (.sl c ver 0 s.length true)) := by
    rw [List.getElem?_set_ne (Ne.symm hbc)]; exact hob
  have hob3 : (objs.set c (AObj.cells (bytesAV (s ++ t)) (ver + 1) 1 true (some 5)))[c]? = some (AObj.cells (bytesAV (s ++ t)) (ver + 1) 1 true (some 5)) := by
    simp [hcl]
  refine si Tryd.func58 rfl rfl rfl rfl hop hx hxs rfl rfl hg hd hlt fun tm => ?_
  refine W.seq (W.region ?_)
  refine sp (v_pure rfl) rfl rfl rfl ?_
  refine sp (v_any_assign rfl) rfl rfl rfl ?_
  refine WL.nil ?_
  refine W.seq (W.region ?_)
  refine sp (v_pure rfl) rfl rfl rfl ?_
  refine bc_used rfl rfl rfl hob rfl rfl rfl ?_
  refine WL.nil ?_
  refine W.seq (W.region ?_)
  refine sp (v_pure rfl) rfl rfl rfl ?_
  refine sp (v_pure rfl) rfl rfl rfl ?_
  refine sp (v_nilCheck rfl rfl hob) rfl rfl rfl ?_
  refine sp (v_fieldAddr rfl rfl hob rfl rfl rfl rfl (by decide)) rfl rfl rfl ?_
  refine sp (v_load rfl rfl hob rfl rfl) rfl rfl rfl ?_
  refine sp (v_pure rfl) rfl rfl rfl ?_
  refine sn (v_append_str_own rfl rfl hoc rfl rfl rfl rfl rfl rfl (by kernel_rfl) rfl rfl htl) rfl rfl rfl rfl rfl ?_
  refine sp (v_nilCheck rfl rfl hob2) rfl rfl rfl ?_
  refine sp (v_fieldAddr rfl rfl hob2 rfl rfl rfl rfl (by decide)) rfl rfl rfl ?_
  refine ss (a_store1 rfl rfl hob2 rfl ⟨_, _, _, _, hob3⟩ (fun h => by cases h) rfl rfl (Nat.le_of_ble_eq_true rfl)) (rfl : _ = (objs.set c (AObj.cells (bytesAV (s ++ t)) (ver + 1) 1 true (some 5))).set b (bldO (.ptr b 0 0) (.sl c (ver + 1) 0 (s ++ t).length true))) rfl rfl ?_
  refine WL.nil ?_
  refine W.seq (W.region ?_)
  refine sp (v_pure rfl) rfl rfl rfl ?_
  refine sp (v_len rfl rfl rfl rfl rfl trivial) rfl rfl rfl ?_
  refine sp (v_pure rfl) rfl rfl rfl ?_
  refine sp (v_any_assign rfl) rfl rfl rfl ?_
  refine WL.nil ?_
  exact W.ret ⟨.inl rfl, _, rfl, h⟩

/-- the text of a builder that was written -/
theorem bs_used (s : List UInt8) (c ver : Nat) {p : AV} (hop : o.op = .call { callee := .value x, args := xs, argTypes := ts }) (hx : ev ⟨env, objs⟩ x = some (.func (.func 59) [] [])) (hxs : evL ⟨env, objs⟩ xs.toList = some [.ptr b 0 0])
    (hob : objs[b]? = some (bldO p (.sl c ver 0 s.length true))) (hoc : objs[c]? = some (.cells (bytesAV s) ver 1 true (some 5))) (hs : s ≠ []) (hsl : s.length ≤ 9223372036854775807)
    (hg : gd ops ⟨env, objs⟩ o = some true) (hd : o.dst = some d) (hlt : Nat.blt d nt = true)
    (h : WL ⟨Tryd.prog, tab, tab_ok, nt, w0, k, H0, ln, hk, hj, sv⟩ ops rest ⟨(d, .str s) :: env, objs.set c .dead⟩ Q) :
    WL ⟨Tryd.prog, tab, tab_ok, nt, w0, k, H0, ln, hk, hj, sv⟩ ops (o :: rest) ⟨env, objs⟩ Q := by
  have hpos : 0 < s.length := List.length_pos_iff.2 hs
  refine si Tryd.func59 rfl rfl rfl rfl hop hx hxs rfl rfl hg hd hlt fun tm => ?_
  refine W.seq (W.region ?_)
  refine sp (v_pure rfl) rfl rfl rfl ?_
  refine WL.nil ?_
  refine W.seq (W.drawnR mixed [3, 4, 5, 6, 7, 8, 9, 10, 11, 12] (by kernel_rfl) ?_)
  apply DrawFrom.stepR
  · intro more
    refine sp (v_pure rfl) rfl rfl rfl ?_
    exact WL.nil ⟨rfl, rfl⟩
  apply DrawFrom.stepR
  · intro more
    refine sp (v_nilCheck rfl rfl hob) rfl rfl rfl ?_
    exact WL.nil ⟨rfl, rfl⟩
  apply DrawFrom.stepR
  · intro more
    refine sp (v_fieldAddr rfl rfl hob rfl rfl rfl rfl (by decide)) rfl rfl rfl ?_
    exact WL.nil ⟨rfl, rfl⟩
  apply DrawFrom.stepR
  · intro more
    refine sp (v_load rfl rfl hob rfl rfl) rfl rfl rfl ?_
    exact WL.nil ⟨rfl, rfl⟩
  apply DrawFrom.stepR
  · intro more
    refine sp (v_sdata rfl rfl hoc hpos) rfl rfl rfl ?_
    exact WL.nil ⟨rfl, rfl⟩
  apply DrawFrom.stepR
  · intro more
    refine sp (v_pure rfl) rfl rfl rfl ?_
    exact WL.nil ⟨rfl, rfl⟩
  apply DrawFrom.stepR
  · intro more
    refine sp (v_nilCheck rfl rfl hob) rfl rfl rfl ?_
    exact WL.nil ⟨rfl, rfl⟩
  apply DrawFrom.stepR
  · intro more
    refine sp (v_fieldAddr rfl rfl hob rfl rfl rfl rfl (by decide)) rfl rfl rfl ?_
    exact WL.nil ⟨rfl, rfl⟩
  apply DrawFrom.stepR
  · intro more
    refine sp (v_load rfl rfl hob rfl rfl) rfl rfl rfl ?_
    exact WL.nil ⟨rfl, rfl⟩
  apply DrawFrom.stepR
  · intro more
    refine sp (v_len rfl rfl rfl rfl ⟨_, rfl⟩ ⟨_, _, _, _, hoc⟩) rfl rfl rfl ?_
    exact WL.nil ⟨rfl, rfl⟩
  refine DrawFrom.doneR (rfl : _ = (_, _) :: (_, _) :: (_, _) :: (_, _) :: (_, _) :: (_, _) :: (_, _) :: (_, _) :: (_, _) :: (_, _) :: _) ?_
  refine sn (v_ustr rfl rfl rfl hoc hs rfl rfl rfl rfl hsl) rfl rfl rfl rfl rfl ?_
  refine sp (v_pure rfl) rfl rfl rfl ?_
  refine WL.nil ?_
  exact W.ret ⟨.inl rfl, _, rfl, h⟩
end

end Go.Proofs.YtnlikbgcnofjiaaDoor
