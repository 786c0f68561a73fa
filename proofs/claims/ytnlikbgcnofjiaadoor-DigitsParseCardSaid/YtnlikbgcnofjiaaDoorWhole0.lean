/- whole: Parse. -/
import Derived.Test.YtnlikbgcnofjiaaDoorDig0
set_option linter.unusedVariables false
set_option linter.unusedSimpArgs false
namespace Go.Proofs.YtnlikbgcnofjiaaDoor
open Go Go.Lens

theorem wholeRow_nils : Sub (.agg [.nils, .bool false]) (wholeRow [] false) := Sub.agg1 Sub.nils
def signP (s : List UInt8) : Bool := hasP s [45]
def plainP (s : List UInt8) : List UInt8 := if hasP s [45] then s.drop 1 else s
/-- what Parse tells of a whole number's text -/
def wholeParse (s : List UInt8) : AV :=
  if (plainP s).length > 4096 then .tup [wholeRow [] false, .int .i64 7] else if numText (plainP s) = false then .tup [wholeRow [] false, .int .i64 5] else
  if signP s && (digs LB (decF (plainP s)) == []) then .tup [wholeRow [] false, .int .i64 5] else .tup [wholeRow (digs LB (decF (plainP s))) (signP s && !(digs LB (decF (plainP s)) == [])), .int .i64 0]

theorem wholeParse_err (s : List UInt8) (e : Int) (he : e ≠ 0) (hs : s.length ≤ 9223372036854775807) (h : Does Tryd.prog 15 [.str (plainP s)] (.tup [natRow [], .int .i64 e])) :
    Does Tryd.prog 37 [.str s] (.tup [wholeRow [] false, .int .i64 e]) := by
  have hcut := cutPrefix_spec s [45]
  refine does tab_ok Tryd.func37 rfl rfl rfl rfl rfl fun w0 H0 hk hj => ?_
  refine W.seq (W.region ?_)
  refine sn (a_alloc rfl rfl rfl rfl) (rfl : _ = AV.ptr 0 0 0) (rfl : _ = [_]) rfl rfl rfl ?_
  refine sp (v_pure rfl) rfl rfl rfl ?_
  refine WL.nil ?_
  refine W.seq (W.region ?_)
  refine sp (v_pure rfl) rfl rfl rfl ?_
  refine sc (hcut) rfl rfl rfl rfl (by first | rfl | simp [plainL, AV.plain]) (by first | rfl | simp [plainL, AV.plain]) rfl rfl rfl ?_
  refine sp (v_pure rfl) rfl rfl rfl ?_
  refine sp (v_pure rfl) rfl rfl rfl ?_
  refine sp (v_pure rfl) rfl rfl rfl ?_
  refine sp (v_pure rfl) rfl rfl rfl ?_
  refine sp (v_pure rfl) rfl rfl rfl ?_
  refine WL.nil ?_
  refine W.seq (W.region ?_)
  refine sp (v_pure rfl) rfl rfl rfl ?_
  refine sc (h) rfl rfl rfl rfl (by first | rfl | simp [plainL, AV.plain]) (by first | rfl | simp [plainL, AV.plain]) rfl rfl rfl ?_
  refine sp (v_pure rfl) rfl rfl rfl ?_
  refine sp (v_pure rfl) rfl rfl rfl ?_
  refine sp (v_pure rfl) rfl rfl rfl ?_
  refine sn (a_alloc rfl rfl rfl rfl) (rfl : _ = AV.ptr 1 0 0) (rfl : _ = [_, _]) rfl rfl rfl ?_
  refine ss (a_storeA rfl rfl rfl rfl rfl (fun h => by cases h) rfl rfl rfl (Nat.le_of_ble_eq_true rfl)) (rfl : _ = [_, _]) rfl rfl ?_
  refine sp (v_pure rfl) rfl rfl rfl ?_
  refine WL.nil ?_
  refine W.seq (W.block ?_)
  refine W.seq (W.region ?_)
  refine sp (v_pure rfl) rfl rfl rfl ?_
  refine sp (v_is true rfl rfl rfl rfl (show (e != 0) = true by simp [he])) rfl rfl rfl ?_
  refine sp (v_pure rfl) rfl rfl rfl ?_
  refine WL.nil ?_
  refine W.cond_true rfl ?_
  refine W.seq (W.region ?_)
  refine sq (v_build rfl rfl rfl rfl rfl rfl rfl) (rfl : _ = AV.agg [_, _]) rfl rfl rfl ?_
  refine WL.sub 21 rfl wholeRow_nils ?_
  refine sp (v_pure rfl) rfl rfl rfl ?_
  refine ss (a_storeA rfl rfl rfl rfl rfl (fun h => by cases h) rfl rfl rfl (Nat.le_of_ble_eq_true rfl)) (rfl : _ = [_, _]) rfl rfl ?_
  refine sp (v_pure rfl) rfl rfl rfl ?_
  refine WL.nil ?_
  exact W.ret (fin (cs := [wholeRow [] false, .int .i64 e]) rfl (.shut (.plain (wholeRow_plain _ _)) (.shut (.plain rfl) .nil)) rfl)

theorem wholeParse_ok (s : List UInt8) (l : List Nat) (hs : s.length ≤ 9223372036854775807) (h : Does Tryd.prog 15 [.str (plainP s)] (.tup [natRow l, .int .i64 0])) :
    Does Tryd.prog 37 [.str s] (if signP s && (l == []) then .tup [wholeRow [] false, .int .i64 5] else .tup [wholeRow l (signP s && !(l == [])), .int .i64 0]) := by
  have hcut := cutPrefix_spec s [45]
  refine does tab_ok Tryd.func37 rfl rfl rfl rfl rfl fun w0 H0 hk hj => ?_
  refine W.seq (W.region ?_)
  refine sn (a_alloc rfl rfl rfl rfl) (rfl : _ = AV.ptr 0 0 0) (rfl : _ = [_]) rfl rfl rfl ?_
  refine sp (v_pure rfl) rfl rfl rfl ?_
  refine WL.nil ?_
  refine W.seq (W.region ?_)
  refine sp (v_pure rfl) rfl rfl rfl ?_
  refine sc (hcut) rfl rfl rfl rfl (by first | rfl | simp [plainL, AV.plain]) (by first | rfl | simp [plainL, AV.plain]) rfl rfl rfl ?_
  refine sp (v_pure rfl) rfl rfl rfl ?_
  refine sp (v_pure rfl) rfl rfl rfl ?_
  refine sp (v_pure rfl) rfl rfl rfl ?_
  refine sp (v_pure rfl) rfl rfl rfl ?_
  refine sp (v_pure rfl) rfl rfl rfl ?_
  refine WL.nil ?_
  refine W.seq (W.region ?_)
  refine sp (v_pure rfl) rfl rfl rfl ?_
  refine sc (h) rfl rfl rfl rfl (by first | rfl | simp [plainL, AV.plain]) (by first | rfl | simp [plainL, AV.plain]) rfl rfl rfl ?_
  refine sp (v_pure rfl) rfl rfl rfl ?_
  refine sp (v_pure rfl) rfl rfl rfl ?_
  refine sp (v_pure rfl) rfl rfl rfl ?_
  refine sn (a_alloc rfl rfl rfl rfl) (rfl : _ = AV.ptr 1 0 0) (rfl : _ = [_, _]) rfl rfl rfl ?_
  refine ss (a_storeA rfl rfl rfl rfl rfl (fun h => by cases h) rfl rfl rfl (Nat.le_of_ble_eq_true rfl)) (rfl : _ = [_, _]) rfl rfl ?_
  refine sp (v_pure rfl) rfl rfl rfl ?_
  refine WL.nil ?_
  refine W.seq (W.block ?_)
  refine W.seq (W.region ?_)
  refine sp (v_pure rfl) rfl rfl rfl ?_
  refine sp (v_is false rfl rfl rfl rfl rfl) rfl rfl rfl ?_
  refine sp (v_pure rfl) rfl rfl rfl ?_
  refine WL.nil ?_
  refine W.cond_false rfl ?_
  by_cases hb : hasP s [45] = true
  · skip
    refine W.seq (W.region ?_)
    refine sq (v_pure rfl) (show _ = AV.bool true from by rw [hb]) rfl rfl rfl ?_
    refine sp (v_pure rfl) rfl rfl rfl ?_
    first | refine sq (v_load rfl rfl rfl rfl rfl) (rfl : _ = AV.agg [_]) rfl rfl rfl ?_ | refine sq (v_load_radr rfl rfl rfl rfl) (rfl : _ = AV.agg [_]) rfl rfl rfl ?_
    refine sc (zero_spec l) rfl rfl rfl rfl (by first | rfl | simp [plainL, AV.plain]) (by first | rfl | simp [plainL, AV.plain]) rfl rfl rfl ?_
    refine sp (v_pure rfl) rfl rfl rfl ?_
    refine sp (v_pure rfl) rfl rfl rfl ?_
    refine WL.nil ?_
    refine W.cond rfl (fun hc => ?_) (fun hc => ?_)
    · skip
      refine W.seq (W.region ?_)
      refine sq (v_build rfl rfl rfl rfl rfl rfl rfl) (rfl : _ = AV.agg [_, _]) rfl rfl rfl ?_
      refine WL.sub 29 rfl wholeRow_nils ?_
      refine ss (a_storeA rfl rfl rfl rfl rfl (fun h => by cases h) rfl rfl rfl (Nat.le_of_ble_eq_true rfl)) (rfl : _ = [_, _]) rfl rfl ?_
      refine sp (v_pure rfl) rfl rfl rfl ?_
      refine WL.nil ?_
      refine W.ret (fin (cs := [wholeRow [] false, .int .i64 5]) rfl (.shut (.plain (wholeRow_plain _ _)) (.shut (.plain rfl) .nil)) ?_)
      rw [if_pos (by simp only [signP, hb, hc, Bool.and_self])]; rfl
    · refine W.skip ?_
      refine W.seq (W.region ?_)
      first | refine sq (v_load rfl rfl rfl rfl rfl) (rfl : _ = AV.agg [_]) rfl rfl rfl ?_ | refine sq (v_load_radr rfl rfl rfl rfl) (rfl : _ = AV.agg [_]) rfl rfl rfl ?_
      refine sp (v_pure rfl) rfl rfl rfl ?_
      refine sc (wholeOf_spec l (hasP s [45])) rfl rfl rfl rfl (by first | rfl | simp [plainL, AV.plain]) (by first | rfl | simp [plainL, AV.plain]) rfl rfl rfl ?_
      refine ss (a_storeA rfl rfl rfl rfl rfl (fun h => by cases h) rfl rfl rfl (Nat.le_of_ble_eq_true rfl)) (rfl : _ = [_, _]) rfl rfl ?_
      refine sp (v_pure rfl) rfl rfl rfl ?_
      refine WL.nil ?_
      refine W.ret (fin (cs := [wholeRow l (hasP s [45] && !(l == [])), .int .i64 0]) rfl (.shut (.plain (wholeRow_plain _ _)) (.shut (.plain rfl) .nil)) ?_)
      rw [if_neg (by simp only [signP, hb, hc]; decide)]; rfl
  · have hb' : hasP s [45] = false := by simpa using hb
    refine W.seq (W.region ?_)
    refine sq (v_pure rfl) (show _ = AV.bool false from by rw [hb']) rfl rfl rfl ?_
    refine sp (v_pure rfl) rfl rfl rfl ?_
    refine so rfl rfl rfl ?_
    refine so rfl rfl rfl ?_
    refine sp (v_pure rfl) rfl rfl rfl ?_
    refine sp (v_pure rfl) rfl rfl rfl ?_
    refine WL.nil ?_
    refine W.cond_false rfl (W.skip ?_)
    refine W.seq (W.region ?_)
    first | refine sq (v_load rfl rfl rfl rfl rfl) (rfl : _ = AV.agg [_]) rfl rfl rfl ?_ | refine sq (v_load_radr rfl rfl rfl rfl) (rfl : _ = AV.agg [_]) rfl rfl rfl ?_
    refine sp (v_pure rfl) rfl rfl rfl ?_
    refine sc (wholeOf_spec l (hasP s [45])) rfl rfl rfl rfl (by first | rfl | simp [plainL, AV.plain]) (by first | rfl | simp [plainL, AV.plain]) rfl rfl rfl ?_
    refine ss (a_storeA rfl rfl rfl rfl rfl (fun h => by cases h) rfl rfl rfl (Nat.le_of_ble_eq_true rfl)) (rfl : _ = [_, _]) rfl rfl ?_
    refine sp (v_pure rfl) rfl rfl rfl ?_
    refine WL.nil ?_
    refine W.ret (fin (cs := [wholeRow l (hasP s [45] && !(l == [])), .int .i64 0]) rfl (.shut (.plain (wholeRow_plain _ _)) (.shut (.plain rfl) .nil)) ?_)
    rw [if_neg (by simp only [signP, hb', Bool.false_and]; decide)]; rfl

theorem wholeParse_spec (s : List UInt8) (hs : s.length ≤ 9223372036854775807) : Does Tryd.prog 37 [.str s] (wholeParse s) := by
  have hp : (plainP s).length ≤ 9223372036854775807 := by
    simp only [plainP]; split
    · simp; omega
    · exact hs
  have h := digParse_spec (plainP s) hp
  simp only [digParse] at h
  simp only [wholeParse]
  by_cases h1 : (plainP s).length > 4096
  · rw [if_pos h1] at h ⊢
    exact wholeParse_err s 7 (by decide) hs h
  · rw [if_neg h1] at h ⊢
    by_cases h2 : numText (plainP s) = true
    · rw [if_pos h2] at h
      rw [if_neg (by simp [h2])]
      exact wholeParse_ok s _ hs h
    · rw [if_neg h2] at h
      rw [if_pos (by simpa using h2)]
      exact wholeParse_err s 5 (by decide) hs h

def wE (s : List UInt8) : Int := if (plainP s).length > 4096 then 7 else if numText (plainP s) = false then 5 else if signP s && (digs LB (decF (plainP s)) == []) then 5 else 0
def wL (s : List UInt8) : List Nat := if wE s = 0 then digs LB (decF (plainP s)) else []
def wB (s : List UInt8) : Bool := if wE s = 0 then signP s && !(digs LB (decF (plainP s)) == []) else false
theorem wholeParse_eq (s : List UInt8) : wholeParse s = .tup [wholeRow (wL s) (wB s), .int .i64 (wE s)] := by
  simp only [wholeParse, wL, wB, wE]
  by_cases h1 : (plainP s).length > 4096
  · simp [h1]
  · by_cases h2 : numText (plainP s) = false
    · simp [h1, h2]
    · by_cases h3 : (signP s && (digs LB (decF (plainP s)) == [])) = true
      · simp only [if_neg h1, if_neg h2, if_pos h3]; rfl
      · simp only [if_neg h1, if_neg h2, if_neg h3]; rfl

end Go.Proofs.YtnlikbgcnofjiaaDoor
