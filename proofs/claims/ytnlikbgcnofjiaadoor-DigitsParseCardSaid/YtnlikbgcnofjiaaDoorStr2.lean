/- strings: makeASCIISet, Trim of plain signs. -/
import Derived.Test.YtnlikbgcnofjiaaDoorStr1
set_option linter.unusedVariables false
set_option linter.unusedSimpArgs false
set_option maxRecDepth 20000
namespace Go.Proofs.YtnlikbgcnofjiaaDoor
open Go Go.Lens

theorem ofVals_rep (n : Nat) : ofVals (List.replicate n (.bool false)) = some (boolsAV (List.replicate n false)) := by
  induction n with
  | zero => rfl
  | succ n ih => simp only [List.replicate_succ, ofVals, ofVal, ih, boolsAV, List.map_cons]
theorem tbl_nil : tbl [] = List.replicate 256 false := by decide
theorem zeros256 : ofVals (List.replicate 256 (.bool false)) = some (boolsAV (tbl [])) := by rw [ofVals_rep, tbl_nil]
theorem loadc_tbl {y : Ty} {l : List UInt8} (hk : y.k.agg = true) (hs : y.size = 256) : loadc y (boolsAV (tbl l)) 0 = some (.agg (boolsAV (tbl l))) := by
  have : (boolsAV (tbl l)).length = 256 := by simp [boolsAV, tbl_length]
  simp [loadc, hk, hs, this, List.take_of_length_le]
theorem boolsAV_oneB (l : List Bool) : (boolsAV l).all AV.oneB = true := by
  induction l with
  | nil => rfl
  | cons x l ih => simp only [boolsAV, List.map_cons, List.all_cons, AV.oneB, Bool.true_and]; exact ih
theorem tbl_set (l : List UInt8) (c : UInt8) : (boolsAV (tbl l)).set c.toNat (.bool true) = boolsAV (tbl (l ++ [c])) := by
  apply List.ext_getElem?
  intro k
  simp only [List.getElem?_set, boolsAV, List.length_map, tbl_length, List.getElem?_map]
  have hc := c.toNat_lt
  by_cases hk : k < 256
  · simp only [tbl, List.getElem?_map, List.getElem?_range hk, Option.map_some]
    by_cases e : c.toNat = k
    · subst e; simp; omega
    · simp [e]
  · simp only [tbl, List.getElem?_map, List.getElem?_eq_none (show (List.range 256).length ≤ k by simp; omega), Option.map_none]
    rw [if_neg (by omega)]

theorem makeSet_spec (l : List UInt8) (ha : ∀ c ∈ l, c.toNat < 128) (hl : l.length ≤ 9223372036854775807) : Does Tryd.prog 89 [.str l] (.tup [.agg (boolsAV (tbl l)), .bool true]) := by
  refine does tab_ok Tryd.func89 rfl rfl rfl rfl rfl fun w0 H0 hk hj => ?_
  refine W.seq (W.region ?_)
  refine sn (a_alloc rfl rfl rfl zeros256) (rfl : _ = AV.ptr 0 0 0) (rfl : _ = [tblO []]) rfl rfl rfl ?_
  refine sp (v_pure rfl) rfl rfl rfl ?_
  refine WL.nil ?_
  refine W.seq (W.seq (W.region ?_))
  refine sp (v_pure rfl) rfl rfl rfl ?_
  refine WL.nil ?_
  refine W.block ?_
  refine W.while (fun m st => ∃ j : Nat, j ≤ l.length ∧ m = l.length - j ∧ st = ⟨[(0, .str l), (2, .ptr 0 0 0), (4, .int .i64 j)], [tblO (l.take j)]⟩) l.length ⟨0, by omega, by omega, rfl⟩ ⟨⟨rfl, rfl, rfl, trivial⟩, ⟨.inr ⟨rfl, boolsAV_in _ _⟩, trivial⟩, rfl, Nat.le_of_ble_eq_true rfl⟩ ?_
  rintro m _ ⟨j, hj1, rfl, rfl⟩
  by_cases hlt : j < l.length
  · have hc := ha _ (List.getElem_mem hlt)
    have hset : (boolsAV (tbl (l.take j))).set (0 + (l[j].toNat : Int).toNat * 1) (.bool true) = boolsAV (tbl (l.take (j + 1))) := by
      rw [List.take_succ_eq_append_getElem hlt, ← tbl_set]; simp
    refine W.seq (W.seq (W.region ?_))
    refine sp (v_pure rfl) rfl rfl rfl ?_
    refine sp (v_pure rfl) rfl rfl rfl ?_
    refine sp (v_len rfl rfl rfl rfl rfl trivial) rfl rfl rfl ?_
    refine sp (v_is true rfl rfl rfl rfl (decide_eq_true (show (j : Int) < l.length by omega))) rfl rfl rfl ?_
    refine WL.nil ?_
    refine W.cond_true rfl (W.skip ?_)
    refine W.seq (W.block ?_)
    refine W.seq (W.region ?_)
    refine sp (v_pure rfl) rfl rfl rfl ?_
    refine sp (v_pure rfl) rfl rfl rfl ?_
    refine sp (v_index_str (b := l[j]) rfl rfl rfl rfl rfl (by omega) (by simp [hlt])) rfl rfl rfl ?_
    refine sp (v_pure rfl) rfl rfl rfl ?_
    refine WL.nil ?_
    refine W.seq (W.seq (W.region ?_))
    refine sp (v_pure rfl) rfl rfl rfl ?_
    refine sp (v_is false rfl rfl rfl rfl (decide_eq_false (show ¬ ((l[j].toNat : Int) ≥ 128) by omega))) rfl rfl rfl ?_
    refine WL.nil ?_
    refine W.cond_false rfl (W.skip ?_)
    refine W.region ?_
    refine sp (v_pure rfl) rfl rfl rfl ?_
    refine sp (v_indexAddr_arr rfl rfl (rfl : [tblO (l.take j)][0]? = _) rfl rfl rfl rfl (by omega) (by omega)) rfl rfl rfl ?_
    refine ss (a_store1 rfl rfl (rfl : [tblO (l.take j)][0]? = _) rfl trivial (fun h => by cases h) rfl rfl (by simp [boolsAV, tbl_length]; omega)) (Eq.trans (rfl : _ = [_]) (congrArg (fun q => [AObj.cells q 0 1 false none]) hset)) rfl rfl ?_
    refine WL.nil ?_
    refine W.region ?_
    refine sp (v_pure rfl) rfl rfl rfl ?_
    refine sp (v_i64 rfl rfl rfl rfl (by omega) (by omega)) rfl rfl rfl ?_
    refine sp (v_pure rfl) rfl rfl rfl ?_
    refine WL.nil ?_
    exact ⟨l.length - (j + 1), _, _, by omega, ⟨j + 1, by omega, rfl, rfl⟩, ⟨⟨rfl, rfl, rfl, trivial⟩, ⟨.inr ⟨rfl, boolsAV_in _ _⟩, trivial⟩, rfl, Nat.le_of_ble_eq_true rfl⟩⟩
  · have hj : j = l.length := by omega
    subst hj
    rw [List.take_length]
    refine W.seq (W.seq (W.region ?_))
    refine sp (v_pure rfl) rfl rfl rfl ?_
    refine sp (v_pure rfl) rfl rfl rfl ?_
    refine sp (v_len rfl rfl rfl rfl rfl trivial) rfl rfl rfl ?_
    refine sp (v_is false rfl rfl rfl rfl (decide_eq_false (show ¬ ((l.length : Int) < l.length) by omega))) rfl rfl rfl ?_
    refine WL.nil ?_
    refine W.cond_false rfl (W.exit ?_)
    refine W.seq (W.region ?_)
    refine sp (v_load rfl rfl (rfl : [tblO l][0]? = _) rfl (loadc_tbl rfl rfl)) rfl rfl rfl ?_
    refine ss (a_storeA rfl rfl (rfl : [tblO l][0]? = _) rfl (boolsAV_oneB _) (fun h => by cases h) rfl (by simp [boolsAV, tbl_length]) (by simp [boolsAV, tbl_length]) (by simp)) (Eq.trans (rfl : _ = [_]) (congrArg (fun q => [AObj.cells q 0 1 false none]) (splice_self _))) rfl rfl ?_
    refine sp (v_pure rfl) rfl rfl rfl ?_
    refine WL.nil ?_
    exact W.ret (fin (resAV_cell rfl (rfl : [tblO l][0]? = _) rfl (loadc_tbl rfl rfl) rfl) (.shut (.plain (by simp [AV.plain, boolsAV_plain])) (.shut (.plain rfl) .nil)) rfl)

/-- what is left once signs of a set are taken off both ends -/
def trimF (l s : List UInt8) : List UInt8 := (dropR l.contains s).dropWhile l.contains
theorem trim_spec (l s : List UInt8) (ha : ∀ c ∈ l, c.toNat < 128) (hl : l.length ≤ 9223372036854775807) (h2 : 2 ≤ l.length) (hs : s.length ≤ 9223372036854775807) : Does Tryd.prog 60 [.str s, .str l] (.str (trimF l s)) := by
  have hle : (l == ([] : List UInt8)) = false := by cases l with | nil => simp at h2 | cons c l => rfl
  refine does tab_ok Tryd.func60 rfl rfl rfl rfl rfl fun w0 H0 hk hj => ?_
  by_cases he : s = []
  · subst he
    refine W.seq (W.region ?_)
    refine sp (v_pure rfl) rfl rfl rfl ?_
    refine WL.nil ?_
    refine W.seq (W.seq (W.region ?_))
    refine sp (v_pure rfl) rfl rfl rfl ?_
    refine sp (v_pure rfl) rfl rfl rfl ?_
    refine sp (v_pure rfl) rfl rfl rfl ?_
    refine so rfl rfl rfl ?_
    refine so rfl rfl rfl ?_
    refine sp (v_pure rfl) rfl rfl rfl ?_
    refine WL.nil ?_
    refine W.cond_true rfl ?_
    refine W.seq (W.region ?_)
    refine sp (v_pure rfl) rfl rfl rfl ?_
    refine sp (v_pure rfl) rfl rfl rfl ?_
    refine WL.nil ?_
    exact W.ret (fin rfl (.shut (.plain rfl) .nil) rfl)
  · have hse : (s == ([] : List UInt8)) = false := by cases s with | nil => exact absurd rfl he | cons c s => rfl
    refine W.seq (W.region ?_)
    refine sp (v_pure rfl) rfl rfl rfl ?_
    refine WL.nil ?_
    refine W.seq (W.seq (W.region ?_))
    refine sp (v_pure rfl) rfl rfl rfl ?_
    refine sp (v_is false rfl rfl rfl rfl hse) rfl rfl rfl ?_
    refine sp (v_pure rfl) rfl rfl rfl ?_
    refine sp (v_pure rfl) rfl rfl rfl ?_
    refine sp (v_is false rfl rfl rfl rfl hle) rfl rfl rfl ?_
    refine sp (v_pure rfl) rfl rfl rfl ?_
    refine WL.nil ?_
    refine W.cond_false rfl (W.skip ?_)
    refine W.seq (W.seq (W.region ?_))
    refine sp (v_pure rfl) rfl rfl rfl ?_
    refine sp (v_len rfl rfl rfl rfl rfl trivial) rfl rfl rfl ?_
    refine sp (v_is false rfl rfl rfl rfl (beq_eq_false_iff_ne.2 (by omega))) rfl rfl rfl ?_
    refine sp (v_pure rfl) rfl rfl rfl ?_
    refine so rfl rfl rfl ?_
    refine so rfl rfl rfl ?_
    refine so rfl rfl rfl ?_
    refine sp (v_pure rfl) rfl rfl rfl ?_
    refine WL.nil ?_
    refine W.cond_false rfl (W.skip ?_)
    refine W.seq (W.seq (W.region ?_))
    refine sp (v_pure rfl) rfl rfl rfl ?_
    refine sc (makeSet_spec l ha hl) rfl rfl rfl rfl rfl (by simp [AV.plain, plainL, boolsAV_plain]) rfl rfl rfl ?_
    refine sp (v_pure rfl) rfl rfl rfl ?_
    refine sp (v_pure rfl) rfl rfl rfl ?_
    refine sp (v_pure rfl) rfl rfl rfl ?_
    refine sn (a_alloc rfl rfl rfl zeros256) (rfl : _ = AV.ptr 0 0 0) (rfl : _ = [tblO []]) rfl rfl rfl ?_
    refine ss (a_storeA rfl rfl (rfl : [tblO []][0]? = _) rfl (boolsAV_oneB _) (fun h => by cases h) rfl (by simp [boolsAV, tbl_length]) (by simp [boolsAV, tbl_length]) (by simp [boolsAV, tbl_length])) (Eq.trans (rfl : _ = [_]) (congrArg (fun q => [AObj.cells q 0 1 false none]) (show splice (boolsAV (tbl [])) 0 (boolsAV (tbl l)) = boolsAV (tbl l) from by simp [splice, boolsAV, tbl_length, List.drop_eq_nil_of_le]))) rfl rfl ?_
    refine sp (v_pure rfl) rfl rfl rfl ?_
    refine WL.nil ?_
    refine W.seq (W.region ?_)
    refine sp (v_pure rfl) rfl rfl rfl ?_
    refine WL.nil ?_
    refine W.cond_true rfl ?_
    refine W.seq (W.region ?_)
    refine sp (v_pure rfl) rfl rfl rfl ?_
    refine srp (trimRightA_spec l s hs) rfl rfl rfl rfl (rfl : [tblO l][0]? = _) (.plain rfl (.refP (i := 0) (sz := 256) (rfl : [tblO l][0]? = _) (by simp [boolsAV, tbl_length]) (fun _ => by rw [List.drop_zero, List.take_of_length_le (by simp [boolsAV, tbl_length])]; exact boolsAV_plain _) .nil)) rfl (by rw [List.drop_zero, List.take_of_length_le (by simp [boolsAV, tbl_length])]) rfl rfl (boolsAV_noRow _) (boolsAV_plain _) rfl rfl rfl ?_
    refine srp (trimLeftA_spec l _) rfl rfl rfl rfl (rfl : [tblO l][0]? = _) (.plain rfl (.refP (i := 0) (sz := 256) (rfl : [tblO l][0]? = _) (by simp [boolsAV, tbl_length]) (fun _ => by rw [List.drop_zero, List.take_of_length_le (by simp [boolsAV, tbl_length])]; exact boolsAV_plain _) .nil)) rfl (by rw [List.drop_zero, List.take_of_length_le (by simp [boolsAV, tbl_length])]) rfl rfl (boolsAV_noRow _) (boolsAV_plain _) rfl rfl rfl ?_
    refine sp (v_pure rfl) rfl rfl rfl ?_
    refine WL.nil ?_
    exact W.ret (fin rfl (.shut (.plain rfl) .nil) rfl)

end Go.Proofs.YtnlikbgcnofjiaaDoor
