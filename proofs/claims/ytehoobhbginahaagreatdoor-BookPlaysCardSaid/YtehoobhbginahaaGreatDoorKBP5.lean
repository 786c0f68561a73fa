/- strings: makeASCIISet, Trim of plain signs. digits: Parse. whole: Parse. date: what its first functions do, and the reference's. chart: is, Check. nat: Limbs, Cmp, Sub. -/
import Derived.Test.YtehoobhbginahaaGreatDoorKBP4

set_option linter.unusedVariables false
set_option linter.unusedSimpArgs false
set_option maxRecDepth 20000
namespace Go.Proofs.YtehoobhbginahaaGreatDoor
open Go Go.Lens
theorem ofVals_rep (n : Nat) : ofVals (List.replicate n (.bool false)) = some (boolsAV (List.replicate n false)) := by
 induction n with
 | zero => rfl
 | succ n ih => simp only [List.replicate_succ, ofVals, ofVal, ih, boolsAV, List.map_cons]
theorem tbl_nil : tbl [] = List.replicate 256 false := by decide
theorem zeros256 : ofVals (List.replicate 256 (.bool false)) = some (boolsAV (tbl [])) := by rw [ofVals_rep, tbl_nil]
theorem loadc_tbl {y : Ty} {l : List UInt8} (hk : y.k.agg = true) (hs : y.size = 256) : loadc y (boolsAV (tbl l)) 0 = some (.agg (boolsAV (tbl l))) := by
 have : (boolsAV (tbl l)).length = 256 := by simp [boolsAV, tbl_length]
 simp [loadc, hk, hs, this, List.take_of_length_le]
theorem boolsAV_oneB (l : List Bool) : (boolsAV l).all AV.oneB = true := by
 induction l with
 | nil => rfl
 | cons x l ih => simp only [boolsAV, List.map_cons, List.all_cons, AV.oneB, Bool.true_and]; exact ih
theorem tbl_set (l : List UInt8) (c : UInt8) : (boolsAV (tbl l)).set c.toNat (.bool true) = boolsAV (tbl (l ++ [c])) := by
 apply List.ext_getElem?
 intro k
 simp only [List.getElem?_set, boolsAV, List.length_map, tbl_length, List.getElem?_map]
 have hc := c.toNat_lt
 by_cases hk : k < 256
 ·simp only [tbl, List.getElem?_map, List.getElem?_range hk, Option.map_some]
  by_cases e : c.toNat = k
  ·subst e; simp; omega
  ·simp [e]
 ·simp only [tbl, List.getElem?_map, List.getElem?_eq_none (show (List.range 256).length ≤ k by simp; omega), Option.map_none]
  rw [if_neg (by omega)]
theorem makeSet_spec (l : List UInt8) (ha : ∀ c ∈ l, c.toNat < 128) (hl : l.length ≤ 9223372036854775807) : Does Tryz.prog 79 [.str l] (.tup [.agg (boolsAV (tbl l)), .bool true]) := by
 refine does tab_ok Tryz.func79 rfl rfl rfl rfl rfl fun w0 H0 hk hj => ?_
 refine W.seq (W.region ?_)
 refine sn (a_alloc rfl rfl rfl zeros256) (rfl : _ = AV.ptr 0 0 0) (rfl : _ = [tblO []]) rfl rfl rfl ?_
 refine z_p ?_
 refine WL.nil ?_
 refine W.seq (W.seq (W.region ?_))
 refine z_p ?_
 refine WL.nil ?_
 refine W.block ?_
 refine W.while (fun m st => ∃ j : Nat, j ≤ l.length ∧ m = l.length - j ∧ st = ⟨[(0, .str l), (2, .ptr 0 0 0), (4, .int .i64 j)], [tblO (l.take j)]⟩) l.length ⟨0, by omega, by omega, rfl⟩ ⟨⟨rfl, rfl, rfl, trivial⟩, ⟨.inr ⟨rfl, boolsAV_in _ _⟩, trivial⟩, rfl, Nat.le_of_ble_eq_true rfl⟩ ?_
 rintro m _ ⟨j, hj1, rfl, rfl⟩
 by_cases hlt : j < l.length
 ·have hc := ha _ (List.getElem_mem hlt)
  have hset : (boolsAV (tbl (l.take j))).set (0 + (l[j].toNat : Int).toNat * 1) (.bool true) = boolsAV (tbl (l.take (j + 1))) := by
   rw [List.take_succ_eq_append_getElem hlt, ← tbl_set]; simp
  refine W.seq (W.seq (W.region ?_))
  refine z_p ?_
  refine z_p ?_
  refine sp (v_len rfl rfl rfl rfl rfl trivial) rfl rfl rfl ?_
  refine z_T (show (j : Int) < l.length by omega) ?_
  refine WL.nil ?_
  refine W.cond_true rfl (W.skip ?_)
  refine W.seq (W.block ?_)
  refine W.seq (W.region ?_)
  refine z_p ?_
  refine z_p ?_
  refine sp (v_index_str (b := l[j]) rfl rfl rfl rfl rfl (by omega) (by simp [hlt])) rfl rfl rfl ?_
  refine z_p ?_
  refine WL.nil ?_
  refine W.seq (W.seq (W.region ?_))
  refine z_p ?_
  refine z_F (show ¬ ((l[j].toNat : Int) ≥ 128) by omega) ?_
  refine WL.nil ?_
  refine W.cond_false rfl (W.skip ?_)
  refine W.region ?_
  refine z_p ?_
  refine sp (v_indexAddr_arr rfl rfl (rfl : [tblO (l.take j)][0]? = _) rfl rfl rfl rfl (by omega) (by omega)) rfl rfl rfl ?_
  refine ss (a_store1 rfl rfl (rfl : [tblO (l.take j)][0]? = _) rfl trivial (fun h => by cases h) rfl rfl (by simp [boolsAV, tbl_length]; omega)) (Eq.trans (rfl : _ = [_]) (congrArg (fun q => [AObj.cells q 0 1 false none]) hset)) rfl rfl ?_
  refine WL.nil ?_
  refine W.region ?_
  refine z_p ?_
  refine z_i ?_
  refine z_p ?_
  refine WL.nil ?_
  exact ⟨l.length - (j + 1), _, _, by omega, ⟨j + 1, by omega, rfl, rfl⟩, ⟨⟨rfl, rfl, rfl, trivial⟩, ⟨.inr ⟨rfl, boolsAV_in _ _⟩, trivial⟩, rfl, Nat.le_of_ble_eq_true rfl⟩⟩
 ·have hj : j = l.length := by omega
  subst hj
  rw [List.take_length]
  refine W.seq (W.seq (W.region ?_))
  refine z_p ?_
  refine z_p ?_
  refine sp (v_len rfl rfl rfl rfl rfl trivial) rfl rfl rfl ?_
  refine z_F (show ¬ ((l.length : Int) < l.length) by omega) ?_
  refine WL.nil ?_
  refine W.cond_false rfl (W.exit ?_)
  refine W.seq (W.region ?_)
  refine sp (v_load rfl rfl (rfl : [tblO l][0]? = _) rfl (loadc_tbl rfl rfl)) rfl rfl rfl ?_
  refine ss (a_storeA rfl rfl (rfl : [tblO l][0]? = _) rfl (boolsAV_oneB _) (fun h => by cases h) rfl (by simp [boolsAV, tbl_length]) (by simp [boolsAV, tbl_length]) (by simp)) (Eq.trans (rfl : _ = [_]) (congrArg (fun q => [AObj.cells q 0 1 false none]) (splice_self _))) rfl rfl ?_
  refine z_p ?_
  refine WL.nil ?_
  exact W.ret (fin (resAV_cell rfl (rfl : [tblO l][0]? = _) rfl (loadc_tbl rfl rfl) rfl) (.shut (.plain (by simp [AV.plain, boolsAV_plain])) (.shut (.plain rfl) .nil)) rfl)
/-- what is left once signs of a set are taken off both ends -/
def trimF (l s : List UInt8) : List UInt8 := (dropR l.contains s).dropWhile l.contains
theorem trim_spec (l s : List UInt8) (ha : ∀ c ∈ l, c.toNat < 128) (hl : l.length ≤ 9223372036854775807) (h2 : 2 ≤ l.length) (hs : s.length ≤ 9223372036854775807) : Does Tryz.prog 58 [.str s, .str l] (.str (trimF l s)) := by
 have hle : (l == ([] : List UInt8)) = false := by cases l with | nil => simp at h2 | cons c l => rfl
 refine does tab_ok Tryz.func58 rfl rfl rfl rfl rfl fun w0 H0 hk hj => ?_
 by_cases he : s = []
 ·subst he
  refine W.seq (W.region ?_)
  refine z_p ?_
  refine WL.nil ?_
  refine W.seq (W.seq (W.region ?_))
  refine z_p ?_
  refine z_p ?_
  refine z_p ?_
  refine z_o ?_
  refine z_o ?_
  refine z_p ?_
  refine WL.nil ?_
  refine W.cond_true rfl ?_
  refine W.seq (W.region ?_)
  refine z_p ?_
  refine z_p ?_
  refine WL.nil ?_
  exact W.ret (fin rfl (.shut (.plain rfl) .nil) rfl)
 ·have hse : (s == ([] : List UInt8)) = false := by cases s with | nil => exact absurd rfl he | cons c s => rfl
  refine W.seq (W.region ?_)
  refine z_p ?_
  refine WL.nil ?_
  refine W.seq (W.seq (W.region ?_))
  refine z_p ?_
  refine sp (v_is false rfl rfl rfl rfl hse) rfl rfl rfl ?_
  refine z_p ?_
  refine z_p ?_
  refine sp (v_is false rfl rfl rfl rfl hle) rfl rfl rfl ?_
  refine z_p ?_
  refine WL.nil ?_
  refine W.cond_false rfl (W.skip ?_)
  refine W.seq (W.seq (W.region ?_))
  refine z_p ?_
  refine sp (v_len rfl rfl rfl rfl rfl trivial) rfl rfl rfl ?_
  refine sp (v_is false rfl rfl rfl rfl (beq_eq_false_iff_ne.2 (by omega))) rfl rfl rfl ?_
  refine z_p ?_
  refine z_o ?_
  refine z_o ?_
  refine z_o ?_
  refine z_p ?_
  refine WL.nil ?_
  refine W.cond_false rfl (W.skip ?_)
  refine W.seq (W.seq (W.region ?_))
  refine z_p ?_
  refine sc (makeSet_spec l ha hl) rfl rfl rfl rfl rfl (by simp [AV.plain, plainL, boolsAV_plain]) rfl rfl rfl ?_
  refine z_p ?_
  refine z_p ?_
  refine z_p ?_
  refine sn (a_alloc rfl rfl rfl zeros256) (rfl : _ = AV.ptr 0 0 0) (rfl : _ = [tblO []]) rfl rfl rfl ?_
  refine ss (a_storeA rfl rfl (rfl : [tblO []][0]? = _) rfl (boolsAV_oneB _) (fun h => by cases h) rfl (by simp [boolsAV, tbl_length]) (by simp [boolsAV, tbl_length]) (by simp [boolsAV, tbl_length])) (Eq.trans (rfl : _ = [_]) (congrArg (fun q => [AObj.cells q 0 1 false none]) (show splice (boolsAV (tbl [])) 0 (boolsAV (tbl l)) = boolsAV (tbl l) from by simp [splice, boolsAV, tbl_length, List.drop_eq_nil_of_le]))) rfl rfl ?_
  refine z_p ?_
  refine WL.nil ?_
  refine W.seq (W.region ?_)
  refine z_p ?_
  refine WL.nil ?_
  refine W.cond_true rfl ?_
  refine W.seq (W.region ?_)
  refine z_p ?_
  refine srp (trimRightA_spec l s hs) rfl rfl rfl rfl (rfl : [tblO l][0]? = _) (.plain rfl (.refP (i := 0) (sz := 256) (rfl : [tblO l][0]? = _) (by simp [boolsAV, tbl_length]) (fun _ => by rw [List.drop_zero, List.take_of_length_le (by simp [boolsAV, tbl_length])]; exact boolsAV_plain _) .nil)) rfl (by rw [List.drop_zero, List.take_of_length_le (by simp [boolsAV, tbl_length])]) rfl rfl (boolsAV_noRow _) (boolsAV_plain _) rfl rfl rfl ?_
  refine srp (trimLeftA_spec l _) rfl rfl rfl rfl (rfl : [tblO l][0]? = _) (.plain rfl (.refP (i := 0) (sz := 256) (rfl : [tblO l][0]? = _) (by simp [boolsAV, tbl_length]) (fun _ => by rw [List.drop_zero, List.take_of_length_le (by simp [boolsAV, tbl_length])]; exact boolsAV_plain _) .nil)) rfl (by rw [List.drop_zero, List.take_of_length_le (by simp [boolsAV, tbl_length])]) rfl rfl (boolsAV_noRow _) (boolsAV_plain _) rfl rfl rfl ?_
  refine z_p ?_
  refine WL.nil ?_
  exact W.ret (fin rfl (.shut (.plain rfl) .nil) rfl)
end Go.Proofs.YtehoobhbginahaaGreatDoor

set_option linter.unusedVariables false
set_option linter.unusedSimpArgs false
namespace Go.Proofs.YtehoobhbginahaaGreatDoor
open Go Go.Lens
def digitL : List UInt8 := [48, 49, 50, 51, 52, 53, 54, 55, 56, 57]
/-- the number of decimal signs -/
def decF (l : List UInt8) : Nat := l.foldl (fun n c => 10 * n + (c.toNat - 48)) 0
theorem decF_snoc (l : List UInt8) (c : UInt8) : decF (l ++ [c]) = 10 * decF l + (c.toNat - 48) := by simp [decF]
theorem decF_append (l m : List UInt8) : decF (l ++ m) = decF l * 10 ^ m.length + decF m := by
 refine list_snoc_ind (P := fun m => decF (l ++ m) = decF l * 10 ^ m.length + decF m) (by simp [decF]) (fun m c ih => ?_) m
 ·rw [← List.append_assoc, decF_snoc, decF_snoc, ih, List.length_append, List.length_singleton, Nat.pow_succ, Nat.mul_add]
  rw [Nat.add_assoc, ← Nat.mul_assoc]
  congr 1
  rw [Nat.mul_comm 10 (decF l), Nat.mul_assoc, Nat.mul_comm 10]
def isDig (c : UInt8) : Bool := digitL.contains c
theorem isDig_iff (c : UInt8) : isDig c = true ↔ 48 ≤ c.toNat ∧ c.toNat ≤ 57 := by
 constructor
 ·intro h
  simp only [isDig, digitL, List.contains_cons, List.contains_nil, Bool.or_false, Bool.or_eq_true, beq_iff_eq] at h
  rcases h with rfl | rfl | rfl | rfl | rfl | rfl | rfl | rfl | rfl | rfl <;> decide
 ·intro h
  have h1 : c = UInt8.ofNat c.toNat := by simp
  have h2 : c.toNat = 48 ∨ c.toNat = 49 ∨ c.toNat = 50 ∨ c.toNat = 51 ∨ c.toNat = 52 ∨ c.toNat = 53 ∨ c.toNat = 54 ∨ c.toNat = 55 ∨ c.toNat = 56 ∨ c.toNat = 57 := by omega
  rcases h2 with h2 | h2 | h2 | h2 | h2 | h2 | h2 | h2 | h2 | h2 <;> (rw [h2] at h1; rw [h1]; decide)
theorem decF_lt {l : List UInt8} (h : ∀ c ∈ l, isDig c = true) : decF l < 10 ^ l.length := by
 revert h
 refine list_snoc_ind (P := fun l => (∀ c ∈ l, isDig c = true) → decF l < 10 ^ l.length) (fun _ => by simp [decF]) (fun l c ih h => ?_) l
 ·have h1 := ih fun x hx => h x (by simp [hx])
  have h2 := (isDig_iff c).1 (h c (by simp))
  rw [decF_snoc, List.length_append, List.length_singleton, Nat.pow_succ]
  omega
/-- is a text a number's? -/
def numText (s : List UInt8) : Bool := !(s == []) && s.all isDig && !(decide (1 < s.length) && s.head? == some 48)
theorem trimF_nil (s : List UInt8) : trimF digitL s = [] ↔ s.all isDig = true := by
 have key : ∀ (p : UInt8 → Bool) (l : List UInt8), l.dropWhile p = [] ↔ l.all p = true := by
  intro p l
  induction l with
  | nil => simp
  | cons c l ih =>
   rw [List.dropWhile_cons, List.all_cons]
   split
   ·rename_i h; rw [ih]; simp [h]
   ·rename_i h; simp [h]
 rw [trimF, key]
 have e : (dropR digitL.contains s).all digitL.contains = true ↔ s.all isDig = true := by
  show (dropR digitL.contains s).all isDig = true ↔ _
  constructor
  ·intro h
   rcases List.eq_nil_or_concat (dropR digitL.contains s) with h0 | ⟨l, c, h0⟩
   ·have : s.reverse.dropWhile digitL.contains = [] := by simpa [dropR] using h0
    rw [key] at this
    have h2 : s.reverse.all isDig = true := this
    simpa using h2
   ·exfalso
    have h1 : s.reverse.dropWhile digitL.contains = c :: l.reverse := by
     have := congrArg List.reverse h0
     simpa [dropR] using this
    have h2 : digitL.contains c = false := by
     have := List.head?_dropWhile_not digitL.contains s.reverse
     rw [h1] at this; simpa using this
    rw [h0] at h
    simp only [List.concat_eq_append, List.all_append, List.all_cons, List.all_nil, Bool.and_true, Bool.and_eq_true, isDig, h2] at h
    exact absurd h.2 (by simp)
  ·intro h
   have h1 : s.reverse.dropWhile digitL.contains = [] := by
    rw [key]
    have : s.reverse.all isDig = true := by simpa using h
    exact this
   simp [dropR, h1]
 exact e
theorem digit_ascii : ∀ c ∈ digitL, c.toNat < 128 := by decide
theorem natRow_nils : Sub (.agg [.nils]) (natRow []) := Sub.agg1 Sub.nils
/-- what Parse tells -/
def digParse (s : List UInt8) : AV := if s.length > 4096 then .tup [natRow [], .int .i64 7] else if numText s then .tup [natAV (decF s), .int .i64 0] else .tup [natRow [], .int .i64 5]
theorem digParse_spec (s : List UInt8) (hs : s.length ≤ 9223372036854775807) : Does Tryz.prog 35 [.str s] (digParse s) := by
 have htrim := trim_spec digitL s digit_ascii (by decide) (by decide) hs
 refine does tab_ok Tryz.func35 rfl rfl rfl rfl rfl fun w0 H0 hk hj => ?_
 by_cases hlong : s.length > 4096
 ·skip
  refine W.seq (W.region ?_)
  refine z_a 0 [_] ?_
  refine z_p ?_
  refine WL.nil ?_
  refine W.seq (W.seq (W.region ?_))
  refine z_p ?_
  refine sp (v_len rfl rfl rfl rfl rfl trivial) rfl rfl rfl ?_
  refine z_T (show (s.length : Int) > 4096 by omega) ?_
  refine WL.nil ?_
  refine W.cond_true rfl ?_
  refine W.seq (W.region ?_)
  refine sq (v_build rfl rfl rfl rfl rfl rfl rfl) (rfl : _ = AV.agg [_]) rfl rfl rfl ?_
  refine WL.sub 13 rfl natRow_nils ?_
  refine z_s [_] ?_
  refine z_p ?_
  refine WL.nil ?_
  refine W.ret (fin (cs := [natRow [], .int .i64 7]) rfl (.shut (.plain (natRow_plain _)) (.shut (.plain rfl) .nil)) ?_)
  simp [tupAV, digParse, hlong]
 have hlong' : ¬ ((s.length : Int) > 4096) := by omega
 by_cases he : s = []
 ·subst he
  refine W.seq (W.region ?_)
  refine z_a 0 [_] ?_
  refine z_p ?_
  refine WL.nil ?_
  refine W.seq (W.seq (W.region ?_))
  refine z_p ?_
  refine sp (v_len rfl rfl rfl rfl rfl trivial) rfl rfl rfl ?_
  refine z_F hlong' ?_
  refine WL.nil ?_
  refine W.cond_false rfl (W.skip ?_)
  refine W.seq (W.seq (W.region ?_))
  refine z_p ?_
  refine sp (v_is true rfl rfl rfl rfl rfl) rfl rfl rfl ?_
  refine z_p ?_
  refine z_o ?_
  refine z_o ?_
  refine z_o ?_
  refine z_p ?_
  refine z_p ?_
  refine z_o ?_
  refine z_o ?_
  refine z_o ?_
  refine z_o ?_
  refine z_o ?_
  refine z_o ?_
  refine z_o ?_
  refine z_o ?_
  refine z_p ?_
  refine WL.nil ?_
  refine W.cond_true rfl ?_
  refine W.seq (W.region ?_)
  refine sq (v_build rfl rfl rfl rfl rfl rfl rfl) (rfl : _ = AV.agg [_]) rfl rfl rfl ?_
  refine WL.sub 31 rfl natRow_nils ?_
  refine z_s [_] ?_
  refine z_p ?_
  refine WL.nil ?_
  refine W.ret (fin (cs := [natRow [], .int .i64 5]) rfl (.shut (.plain (natRow_plain _)) (.shut (.plain rfl) .nil)) ?_)
  simp [tupAV, digParse, numText]
 have hse : (s == ([] : List UInt8)) = false := by cases s with | nil => exact absurd rfl he | cons c s => rfl
 by_cases hd : s.all isDig = true
 rotate_left
 ·have hst : (!(trimF digitL s == ([] : List UInt8))) = true := by
   rw [Bool.not_eq_true', beq_eq_false_iff_ne]
   exact fun h => hd ((trimF_nil s).1 h)
  refine W.seq (W.region ?_)
  refine z_a 0 [_] ?_
  refine z_p ?_
  refine WL.nil ?_
  refine W.seq (W.seq (W.region ?_))
  refine z_p ?_
  refine sp (v_len rfl rfl rfl rfl rfl trivial) rfl rfl rfl ?_
  refine z_F hlong' ?_
  refine WL.nil ?_
  refine W.cond_false rfl (W.skip ?_)
  refine W.seq (W.seq (W.region ?_))
  refine z_p ?_
  refine sp (v_is false rfl rfl rfl rfl hse) rfl rfl rfl ?_
  refine z_p ?_
  refine z_p ?_
  refine z_c (htrim) ?_
  refine sp (v_is true rfl rfl rfl rfl hst) rfl rfl rfl ?_
  refine z_p ?_
  refine z_p ?_
  refine z_o ?_
  refine z_o ?_
  refine z_o ?_
  refine z_o ?_
  refine z_o ?_
  refine z_o ?_
  refine z_o ?_
  refine z_o ?_
  refine z_p ?_
  refine WL.nil ?_
  refine W.cond_true rfl ?_
  refine W.seq (W.region ?_)
  refine sq (v_build rfl rfl rfl rfl rfl rfl rfl) (rfl : _ = AV.agg [_]) rfl rfl rfl ?_
  refine WL.sub 31 rfl natRow_nils ?_
  refine z_s [_] ?_
  refine z_p ?_
  refine WL.nil ?_
  refine W.ret (fin (cs := [natRow [], .int .i64 5]) rfl (.shut (.plain (natRow_plain _)) (.shut (.plain rfl) .nil)) ?_)
  have : s.all isDig = false := by simpa using hd
  simp [tupAV, digParse, hlong, numText, this]
 have hst : (!(trimF digitL s == ([] : List UInt8))) = false := by
  rw [(trimF_nil s).2 hd]; rfl
 have hdig : ∀ c ∈ s, isDig c = true := by simpa using hd
 by_cases hz : 1 < s.length ∧ s.head? = some 48
 ·have hget : s[(0 : Int).toNat]? = some 48 := by rw [← hz.2]; cases s <;> rfl
  refine W.seq (W.region ?_)
  refine z_a 0 [_] ?_
  refine z_p ?_
  refine WL.nil ?_
  refine W.seq (W.seq (W.region ?_))
  refine z_p ?_
  refine sp (v_len rfl rfl rfl rfl rfl trivial) rfl rfl rfl ?_
  refine z_F hlong' ?_
  refine WL.nil ?_
  refine W.cond_false rfl (W.skip ?_)
  refine W.seq (W.seq (W.region ?_))
  refine z_p ?_
  refine sp (v_is false rfl rfl rfl rfl hse) rfl rfl rfl ?_
  refine z_p ?_
  refine z_p ?_
  refine z_c (htrim) ?_
  refine sp (v_is false rfl rfl rfl rfl hst) rfl rfl rfl ?_
  refine z_p ?_
  refine z_p ?_
  refine z_p ?_
  refine sp (v_len rfl rfl rfl rfl rfl trivial) rfl rfl rfl ?_
  refine z_T (show (s.length : Int) > 1 by omega) ?_
  refine z_p ?_
  refine z_p ?_
  refine sp (v_index_str (b := 48) rfl rfl rfl rfl rfl (by omega) hget) rfl rfl rfl ?_
  refine sp (v_is true rfl rfl rfl rfl rfl) rfl rfl rfl ?_
  refine z_p ?_
  refine z_p ?_
  refine WL.nil ?_
  refine W.cond_true rfl ?_
  refine W.seq (W.region ?_)
  refine sq (v_build rfl rfl rfl rfl rfl rfl rfl) (rfl : _ = AV.agg [_]) rfl rfl rfl ?_
  refine WL.sub 31 rfl natRow_nils ?_
  refine z_s [_] ?_
  refine z_p ?_
  refine WL.nil ?_
  refine W.ret (fin (cs := [natRow [], .int .i64 5]) rfl (.shut (.plain (natRow_plain _)) (.shut (.plain rfl) .nil)) ?_)
  simp [tupAV, digParse, hlong, numText, hz]
 have hnum : numText s = true := by
  simp only [numText, hse, hd, Bool.not_false, Bool.true_and, Bool.not_eq_true', Bool.and_eq_false_iff, decide_eq_false_iff_not]
  by_cases h1 : 1 < s.length
  ·right; rw [beq_eq_false_iff_ne]; exact fun h => hz ⟨h1, h⟩
  ·exact .inl h1
 have hres : digParse s = .tup [natAV (decF s), .int .i64 0] := by simp only [digParse, if_neg hlong, hnum, if_true]
 rw [hres]
 refine W.seq (W.region ?_)
 refine z_a 0 [_] ?_
 refine z_p ?_
 refine WL.nil ?_
 refine W.seq (W.seq (W.region ?_))
 refine z_p ?_
 refine sp (v_len rfl rfl rfl rfl rfl trivial) rfl rfl rfl ?_
 refine z_F hlong' ?_
 refine WL.nil ?_
 refine W.cond_false rfl (W.skip ?_)
 refine W.seq (W.seq (W.cut [(0, .str s), (2, .ptr 0 0 0), (30, .bool false)] [.cells [.nils] 0 1 false none] ?_ ?_))
 ·by_cases h1 : 1 < s.length
  ·have hh : s.head? ≠ some 48 := fun h => hz ⟨h1, h⟩
   obtain ⟨c, hc⟩ : ∃ c, s[(0 : Int).toNat]? = some c := ⟨s[0], by simp⟩
   have hc48 : ((c.toNat : Int) == 48) = false := by
    rw [beq_eq_false_iff_ne]
    intro h
    refine hh ?_
    have : s.head? = some c := by rw [← hc]; cases s <;> rfl
    rw [this]
    congr 1
    exact UInt8.toNat_inj.1 (by have : (48 : UInt8).toNat = 48 := rfl; omega)
   refine W.region ?_
   refine z_p ?_
   refine sp (v_is false rfl rfl rfl rfl hse) rfl rfl rfl ?_
   refine z_p ?_
   refine z_p ?_
   refine z_c (htrim) ?_
   refine sp (v_is false rfl rfl rfl rfl hst) rfl rfl rfl ?_
   refine z_p ?_
   refine z_p ?_
   refine z_p ?_
   refine sp (v_len rfl rfl rfl rfl rfl trivial) rfl rfl rfl ?_
   refine z_T (show (s.length : Int) > 1 by omega) ?_
   refine z_p ?_
   refine z_p ?_
   refine sp (v_index_str (b := c) rfl rfl rfl rfl rfl (by omega) hc) rfl rfl rfl ?_
   refine sp (v_is false rfl rfl rfl rfl hc48) rfl rfl rfl ?_
   refine z_p ?_
   refine z_p ?_
   refine WL.nil ?_
   exact ⟨rfl, (by refine ⟨?_, ?_, rfl, Nat.le_of_ble_eq_true rfl⟩ <;> repeat (first | exact trivial | exact rfl | refine ⟨rfl, ?_⟩ | refine ⟨.inr ⟨rfl, ?_⟩, ?_⟩ | refine ⟨.inl rfl, ?_⟩))⟩
  ·skip
   refine W.region ?_
   refine z_p ?_
   refine sp (v_is false rfl rfl rfl rfl hse) rfl rfl rfl ?_
   refine z_p ?_
   refine z_p ?_
   refine z_c (htrim) ?_
   refine sp (v_is false rfl rfl rfl rfl hst) rfl rfl rfl ?_
   refine z_p ?_
   refine z_p ?_
   refine z_p ?_
   refine sp (v_len rfl rfl rfl rfl rfl trivial) rfl rfl rfl ?_
   refine z_F (show ¬ ((s.length : Int) > 1) by omega) ?_
   refine z_p ?_
   refine z_o ?_
   refine z_o ?_
   refine z_o ?_
   refine z_p ?_
   refine z_p ?_
   refine WL.nil ?_
   exact ⟨rfl, (by refine ⟨?_, ?_, rfl, Nat.le_of_ble_eq_true rfl⟩ <;> repeat (first | exact trivial | exact rfl | refine ⟨rfl, ?_⟩ | refine ⟨.inr ⟨rfl, ?_⟩, ?_⟩ | refine ⟨.inl rfl, ?_⟩))⟩
 refine W.cond_false rfl (W.skip ?_)
 refine W.seq (W.region ?_)
 refine sq (v_build rfl rfl rfl rfl rfl rfl rfl) (rfl : _ = AV.agg [_]) rfl rfl rfl ?_
 refine WL.sub 32 rfl natRow_nils ?_
 refine z_a 1 [_, _] ?_
 refine z_s [_, _] ?_
 refine WL.nil ?_
 refine W.seq (W.seq (W.region ?_))
 refine z_p ?_
 refine WL.nil ?_
 refine W.block ?_
 refine W.while (fun m st => ∃ (dn l : List UInt8) (f : Bool), s = dn ++ l ∧ m = l.length ∧ (f = true → dn = []) ∧ (f = false → l.length % 18 = 0) ∧
  st = ⟨[(0, .str l), (2, .ptr 0 0 0), (4, .ptr 1 0 0), (5, .bool f)], [.cells [.nils] 0 1 false none, .cells [.row (u64AV (digs LB (decF dn))) (digs LB (decF dn)).length] 0 1 false none]⟩) s.length
  (env0 := [(0, .str s), (2, .ptr 0 0 0), (4, .ptr 1 0 0), (5, .bool true)]) (objs0 := [.cells [.nils] 0 1 false none, .cells [.row [] 0] 0 1 false none])
  ⟨[], s, true, rfl, rfl, fun _ => rfl, fun h => (by cases h), by rw [show decF [] = 0 from rfl, digs_zero]; rfl⟩ (by refine ⟨?_, ?_, rfl, Nat.le_of_ble_eq_true rfl⟩ <;> repeat (first | exact trivial | exact rfl | refine ⟨rfl, ?_⟩ | refine ⟨.inr ⟨rfl, ?_⟩, ?_⟩ | refine ⟨.inl rfl, ?_⟩)) ?_
 rintro m _ ⟨dn, l, f, hsl, rfl, hf1, hf2, rfl⟩
 have hdl : ∀ c ∈ dn, isDig c = true := fun c hc => hdig c (by rw [hsl]; simp [hc])
 have hlen : s.length = dn.length + l.length := by rw [hsl]; simp
 have hle : s.length ≤ 4096 := by omega
 by_cases hl : l = []
 ·subst hl
  refine W.seq (W.seq (W.region ?_))
  refine z_p ?_
  refine sp (v_is false rfl rfl rfl rfl rfl) rfl rfl rfl ?_
  refine WL.nil ?_
  refine W.cond_false rfl (W.exit ?_)
  refine W.seq (W.region ?_)
  first | refine z_l1 ?_ | refine z_r1 ?_
  refine z_s [_, _] ?_
  refine z_p ?_
  refine WL.nil ?_
  have hsd : decF dn = decF s := by rw [hsl]; simp
  refine W.ret (fin (cs := [natAV (decF dn), .int .i64 0]) rfl (.shut (.plain (natRow_plain _)) (.shut (.plain rfl) .nil)) ?_)
  rw [hsd]; rfl
 have hle' : (!(l == ([] : List UInt8))) = true := by cases l with | nil => exact absurd rfl hl | cons c l => rfl
 have hlp : 0 < l.length := by cases l with | nil => exact absurd rfl hl | cons c l => simp
 have hdig' : ∀ c ∈ l, isDig c = true := fun c hc => hdig c (by rw [hsl]; simp [hc])
 refine W.seq (W.seq (W.region ?_))
 refine z_p ?_
 refine sp (v_is true rfl rfl rfl rfl hle') rfl rfl rfl ?_
 refine WL.nil ?_
 refine W.cond_true rfl (W.skip ?_)
 refine W.seq (W.block ?_)
 refine W.seq (W.region ?_)
 refine z_p ?_
 refine sp (v_len rfl rfl rfl rfl rfl trivial) rfl rfl rfl ?_
 refine sq (v_bin rfl rfl rfl (rem_nn (by omega) (by omega))) (show _ = AV.int .i64 (l.length % 18 : Nat) from by simp) rfl rfl rfl ?_
 refine z_p ?_
 refine WL.nil ?_
 obtain ⟨k, hk1, hk2, hk3, hk4, hk5, hk6⟩ : ∃ k : Nat, 1 ≤ k ∧ k ≤ 18 ∧ k ≤ l.length ∧ (l.length - k) % 18 = 0 ∧ (dn = [] ∨ k = 18) ∧ ((f = false ∨ l.length % 18 = 0) → k = 18) ∧ (¬ (f = false ∨ l.length % 18 = 0) → k = l.length % 18) := by
  by_cases hc : f = false ∨ l.length % 18 = 0
  ·have : l.length % 18 = 0 := hc.elim hf2 id
   exact ⟨18, by omega, by omega, by omega, by omega, .inr rfl, fun _ => rfl, fun h => absurd hc h⟩
  ·refine ⟨l.length % 18, by omega, by omega, by omega, by omega, .inl (hf1 ?_), fun h => absurd h hc, fun _ => rfl⟩
   cases f with
   | true => rfl
   | false => exact absurd (.inl rfl) hc
 refine W.seq (W.cut [(0, .str l), (2, .ptr 0 0 0), (4, .ptr 1 0 0), (5, .bool f), (6, .int .i64 k)] [.cells [.nils] 0 1 false none, .cells [.row (u64AV (digs LB (decF dn))) (digs LB (decF dn)).length] 0 1 false none] ?_ ?_)
 ·cases f with
  | false =>
   have hk18 := hk6.1 (.inl rfl)
   refine W.seq (W.region ?_)
   refine z_p ?_
   refine z_p ?_
   refine z_p ?_
   refine z_o ?_
   refine z_o ?_
   refine z_p ?_
   refine WL.nil ?_
   refine W.cond_true rfl ?_
   refine W.region ?_
   refine z_p ?_
   refine WL.nil ?_
   rw [hk18]
   exact ⟨rfl, (by refine ⟨?_, ?_, rfl, Nat.le_of_ble_eq_true rfl⟩ <;> repeat (first | exact trivial | exact rfl | refine ⟨rfl, ?_⟩ | refine ⟨.inr ⟨rfl, ?_⟩, ?_⟩ | refine ⟨.inl rfl, ?_⟩))⟩
  | true =>
   by_cases hr : l.length % 18 = 0
   ·have hk18 := hk6.1 (.inr hr)
    refine W.seq (W.region ?_)
    refine z_p ?_
    refine z_p ?_
    refine z_p ?_
    refine z_p ?_
    refine sp (v_is true rfl rfl rfl rfl (beq_iff_eq.2 (by omega))) rfl rfl rfl ?_
    refine z_p ?_
    refine WL.nil ?_
    refine W.cond_true rfl ?_
    refine W.region ?_
    refine z_p ?_
    refine WL.nil ?_
    rw [hk18]
    exact ⟨rfl, (by refine ⟨?_, ?_, rfl, Nat.le_of_ble_eq_true rfl⟩ <;> repeat (first | exact trivial | exact rfl | refine ⟨rfl, ?_⟩ | refine ⟨.inr ⟨rfl, ?_⟩, ?_⟩ | refine ⟨.inl rfl, ?_⟩))⟩
   ·have hk18 := hk6.2 (by simp [hr])
    refine W.seq (W.region ?_)
    refine z_p ?_
    refine z_p ?_
    refine z_p ?_
    refine z_p ?_
    refine sp (v_is false rfl rfl rfl rfl (beq_eq_false_iff_ne.2 (by omega))) rfl rfl rfl ?_
    refine z_p ?_
    refine WL.nil ?_
    refine W.cond_false rfl (W.skip ?_)
    rw [hk18]
    exact ⟨rfl, (by refine ⟨?_, ?_, rfl, Nat.le_of_ble_eq_true rfl⟩ <;> repeat (first | exact trivial | exact rfl | refine ⟨rfl, ?_⟩ | refine ⟨.inr ⟨rfl, ?_⟩, ?_⟩ | refine ⟨.inl rfl, ?_⟩))⟩
 refine W.seq (W.region ?_)
 refine z_p ?_
 refine WL.nil ?_
 refine W.seq (W.seq (W.region ?_))
 refine z_p ?_
 refine z_p ?_
 refine sq (v_slice_str rfl rfl rfl rfl rfl ⟨_, _, rfl, by omega, rfl⟩ (by omega) (by omega)) (show _ = AV.str (l.take k) from by simp) rfl rfl rfl ?_
 refine sn (v_range rfl rfl rfl rfl) (rfl : _ = AV.ptr 2 0 0) (rfl : _ = [_, _, _]) rfl rfl rfl ?_
 refine WL.nil ?_
 refine W.block ?_
 refine W.while (fun m st => ∃ j : Nat, j ≤ k ∧ m = k - j ∧
  st = ⟨[(0, .str l), (2, .ptr 0 0 0), (4, .ptr 1 0 0), (5, .bool f), (6, .int .i64 k), (7, .int .u64 (decF (l.take j) : Nat)), (47, .ptr 2 0 0)],
   [.cells [.nils] 0 1 false none, .cells [.row (u64AV (digs LB (decF dn))) (digs LB (decF dn)).length] 0 1 false none, .iter (l.take k) j]⟩) k ⟨0, by omega, by omega, rfl⟩ (by refine ⟨?_, ?_, rfl, Nat.le_of_ble_eq_true rfl⟩ <;> repeat (first | exact trivial | exact rfl | refine ⟨rfl, ?_⟩ | refine ⟨.inr ⟨rfl, ?_⟩, ?_⟩ | refine ⟨.inl rfl, ?_⟩)) ?_
 rintro m _ ⟨j, hj, rfl, rfl⟩
 by_cases hjk : j < k
 ·have hjl : j < l.length := by omega
  have hcj : isDig l[j] = true := hdig' _ (List.getElem_mem hjl)
  have hcd := (isDig_iff _).1 hcj
  have hb1 := decF_lt (l := l.take j) fun c hc => hdig' c (List.mem_of_mem_take hc)
  have hb2 : (10 : Nat) ^ (l.take j).length ≤ 10 ^ 17 := Nat.pow_le_pow_right (by decide) (by simp; omega)
  have hb3 : decF (l.take j) < 100000000000000000 := Nat.lt_of_lt_of_le hb1 hb2
  have hget : (l.take k)[j]? = some l[j] := by rw [List.getElem?_take, if_pos hjk]; simp [hjl]
  refine W.seq (W.region ?_)
  refine sn (v_next_ascii rfl rfl rfl hget (by omega)) rfl (rfl : _ = [_, _, _]) rfl rfl rfl ?_
  refine z_p ?_
  refine WL.nil ?_
  refine W.seq (W.cond_true rfl (W.skip ?_))
  refine W.block ?_
  refine W.seq (W.region ?_)
  refine z_p ?_
  refine z_p ?_
  refine WL.nil ?_
  refine W.region ?_
  refine z_p ?_
  refine sp (v_mulN (a := 10) rfl rfl rfl (by omega)) rfl rfl rfl ?_
  refine z_p ?_
  refine sq (v_pure rfl) (show _ = AV.int .i32 (l[j].toNat - 48 : Nat) from by rw [IntKind.wrap_i32]; congr 1; omega) rfl rfl rfl ?_
  refine sp (v_cvt rfl rfl rfl rfl rfl (by first | rfl | (rw [IntKind.wrap_i64]; omega) | (rw [IntKind.wrap_u64]; omega) | (rw [IntKind.wrap_u8]; omega) | (rw [IntKind.wrap_i32]; omega))) rfl rfl rfl ?_
  refine sq (v_addN rfl rfl rfl (by omega)) (show _ = AV.int .u64 (decF (l.take (j + 1)) : Nat) from by rw [List.take_succ_eq_append_getElem hjl, decF_snoc]) rfl rfl rfl ?_
  refine z_p ?_
  refine WL.nil ?_
  exact ⟨k - (j + 1), _, _, by omega, ⟨j + 1, by omega, rfl, rfl⟩, (by refine ⟨?_, ?_, rfl, Nat.le_of_ble_eq_true rfl⟩ <;> repeat (first | exact trivial | exact rfl | refine ⟨rfl, ?_⟩ | refine ⟨.inr ⟨rfl, ?_⟩, ?_⟩ | refine ⟨.inl rfl, ?_⟩))⟩
 ·have hj' : j = k := by omega
  subst hj'
  refine W.seq (W.region ?_)
  refine sp (v_next_end rfl rfl rfl (by simp; omega)) rfl rfl rfl ?_
  refine z_p ?_
  refine WL.nil ?_
  refine W.seq (W.cond_false rfl (W.exit ?_))
  obtain ⟨E, hE⟩ : ∃ E : Nat, E = 4096 := ⟨_, rfl⟩
  have hpow : (10 : Nat) ^ dn.length ≤ LB ^ E := Nat.le_trans (Nat.pow_le_pow_right (by decide) (show dn.length ≤ E by omega)) (Nat.pow_le_pow_left (by decide) E)
  have hd1 := Nat.lt_of_lt_of_le (decF_lt hdl) hpow
  have hn1 : (digs LB (decF dn)).length ≤ 4096 := hE ▸ digs_length (by decide) hd1
  have hpb := decF_lt (l := l.take j) fun c hc => hdig' c (List.mem_of_mem_take hc)
  have hpb2 : (10 : Nat) ^ (l.take j).length ≤ 10 ^ 18 := Nat.pow_le_pow_right (by decide) (by simp; omega)
  have hpb3 : decF (l.take j) < 1000000000000000000 := Nat.lt_of_lt_of_le hpb hpb2
  have hmul : Does Tryz.prog 59 [natRow (digs LB (decF dn)), natRow (trim [1000000000000000000])] (natAV (decF dn * 1000000000000000000)) := by
   have := mul_spec (digs LB (decF dn)) (trim [1000000000000000000]) (digs_canon (by decide) _).1 (trim_canon (B := LB) (fun x hx => by rw [List.mem_singleton] at hx; subst hx; decide)).1 (by omega) (Nat.le_trans (trim_length _) (by simp))
   rw [digs_val (by decide), trim_val] at this
   simpa [val] using this
  have hsum : decF (dn ++ l.take j) = decF dn * 1000000000000000000 + decF (l.take j) := by
   rw [decF_append]
   rcases hk5 with h | h
   ·subst h; simp [decF]
   ·rw [show (l.take j).length = 18 by simp; omega]
  have hn2 : (digs LB (decF dn * 1000000000000000000)).length ≤ 4097 := by
   have hlt : decF dn * 1000000000000000000 < LB ^ (E + 1) := by
    rw [Nat.pow_succ]
    exact Nat.mul_lt_mul'' hd1 (by decide)
   exact Nat.le_trans (digs_length (by decide) hlt) (by omega)
  have hadd : Does Tryz.prog 39 [natAV (decF dn * 1000000000000000000), natRow (trim [decF (l.take j)])] (natAV (decF (dn ++ l.take j))) := by
   have := add_spec (digs LB (decF dn * 1000000000000000000)) (trim [decF (l.take j)]) (digs_canon (by decide) _).1 (trim_canon (B := LB) (fun x hx => by rw [List.mem_singleton] at hx; subst hx; simp only [LB]; omega)).1 (by omega) (Nat.le_trans (trim_length _) (by simp))
   rw [digs_val (by decide), trim_val] at this
   rw [hsum]
   simpa [val, natAV] using this
  refine W.seq (W.drawnR mixed [57, 58, 59, 60, 61, 62] (by kernel_rfl) ?_)
  apply DrawFrom.stepR
  ·intro more
   first | refine z_l1 ?_ | refine z_r1 ?_
   exact z_e
  apply DrawFrom.stepR
  ·intro more
   refine sq (v_buildRow rfl rfl rfl rfl rfl rfl rfl (Nat.le_of_ble_eq_true rfl) (Nat.le_of_ble_eq_true rfl) rfl rfl rfl rfl) (rfl : _ = AV.row [_] 1) rfl rfl rfl ?_
   exact z_e
  apply DrawFrom.stepR
  ·intro more
   refine z_c (of_spec [1000000000000000000] (by decide)) ?_
   exact z_e
  apply DrawFrom.stepR
  ·intro more
   refine z_c (hmul) ?_
   exact z_e
  apply DrawFrom.stepR
  ·intro more
   refine z_p ?_
   exact z_e
  apply DrawFrom.stepR
  ·intro more
   refine sq (v_buildRow rfl rfl rfl rfl rfl rfl rfl (Nat.le_of_ble_eq_true rfl) (Nat.le_of_ble_eq_true rfl) rfl rfl rfl rfl) (rfl : _ = AV.row [_] 1) rfl rfl rfl ?_
   exact z_e
  refine DrawFrom.doneR (rfl : _ = (_, _) :: (_, _) :: (_, _) :: (_, _) :: (_, _) :: (_, _) :: _) ?_
  refine z_c (of_spec [decF (l.take j)] (by simp)) ?_
  refine z_c (hadd) ?_
  refine z_s [_, _, _] ?_
  refine WL.nil ?_
  refine W.region ?_
  refine z_p ?_
  refine z_p ?_
  refine sq (v_slice_str rfl rfl rfl rfl ⟨_, _, rfl, by omega, rfl⟩ rfl (by omega) (by omega)) (show _ = AV.str (l.drop j) from by simp [List.take_of_length_le]) rfl rfl rfl ?_
  refine z_p ?_
  refine WL.nil ?_
  refine W.region ?_
  refine z_p ?_
  refine WL.nil ?_
  exact ⟨(l.drop j).length, _, _, by simp; omega, ⟨dn ++ l.take j, l.drop j, false, by rw [List.append_assoc, List.take_append_drop]; exact hsl, rfl, fun h => (by cases h), fun _ => by rw [List.length_drop]; exact hk4, rfl⟩, (by refine ⟨?_, ?_, rfl, Nat.le_of_ble_eq_true rfl⟩ <;> repeat (first | exact trivial | exact rfl | refine ⟨rfl, ?_⟩ | refine ⟨.inr ⟨rfl, ?_⟩, ?_⟩ | refine ⟨.inl rfl, ?_⟩))⟩
end Go.Proofs.YtehoobhbginahaaGreatDoor

set_option linter.unusedVariables false
set_option linter.unusedSimpArgs false
namespace Go.Proofs.YtehoobhbginahaaGreatDoor
open Go Go.Lens
theorem wholeRow_nils : Sub (.agg [.nils, .bool false]) (wholeRow [] false) := Sub.agg1 Sub.nils
def signP (s : List UInt8) : Bool := hasP s [45]
def plainP (s : List UInt8) : List UInt8 := if hasP s [45] then s.drop 1 else s
/-- what Parse tells of a whole number's text -/
def wholeParse (s : List UInt8) : AV :=
  if (plainP s).length > 4096 then .tup [wholeRow [] false, .int .i64 7] else if numText (plainP s) = false then .tup [wholeRow [] false, .int .i64 5] else
  if signP s && (digs LB (decF (plainP s)) == []) then .tup [wholeRow [] false, .int .i64 5] else .tup [wholeRow (digs LB (decF (plainP s))) (signP s && !(digs LB (decF (plainP s)) == [])), .int .i64 0]
theorem wholeParse_err (s : List UInt8) (e : Int) (he : e ≠ 0) (hs : s.length ≤ 9223372036854775807) (h : Does Tryz.prog 35 [.str (plainP s)] (.tup [natRow [], .int .i64 e])) :
  Does Tryz.prog 11 [.str s] (.tup [wholeRow [] false, .int .i64 e]) := by
 have hcut := cutPrefix_spec s [45]
 refine does tab_ok Tryz.func11 rfl rfl rfl rfl rfl fun w0 H0 hk hj => ?_
 refine W.seq (W.region ?_)
 refine z_a 0 [_] ?_
 refine z_p ?_
 refine WL.nil ?_
 refine W.seq (W.region ?_)
 refine z_p ?_
 refine z_c (hcut) ?_
 refine z_p ?_
 refine z_p ?_
 refine z_p ?_
 refine z_p ?_
 refine z_p ?_
 refine WL.nil ?_
 refine W.seq (W.region ?_)
 refine z_p ?_
 refine z_c (h) ?_
 refine z_p ?_
 refine z_p ?_
 refine z_p ?_
 refine z_a 1 [_, _] ?_
 refine z_s [_, _] ?_
 refine z_p ?_
 refine WL.nil ?_
 refine W.seq (W.block ?_)
 refine W.seq (W.region ?_)
 refine z_p ?_
 refine sp (v_is true rfl rfl rfl rfl (show (e != 0) = true by simp [he])) rfl rfl rfl ?_
 refine z_p ?_
 refine WL.nil ?_
 refine W.cond_true rfl ?_
 refine W.seq (W.region ?_)
 refine sq (v_build rfl rfl rfl rfl rfl rfl rfl) (rfl : _ = AV.agg [_, _]) rfl rfl rfl ?_
 refine WL.sub 21 rfl wholeRow_nils ?_
 refine z_p ?_
 refine z_s [_, _] ?_
 refine z_p ?_
 refine WL.nil ?_
 exact W.ret (fin (cs := [wholeRow [] false, .int .i64 e]) rfl (.shut (.plain (wholeRow_plain _ _)) (.shut (.plain rfl) .nil)) rfl)
theorem wholeParse_ok (s : List UInt8) (l : List Nat) (hs : s.length ≤ 9223372036854775807) (h : Does Tryz.prog 35 [.str (plainP s)] (.tup [natRow l, .int .i64 0])) :
  Does Tryz.prog 11 [.str s] (if signP s && (l == []) then .tup [wholeRow [] false, .int .i64 5] else .tup [wholeRow l (signP s && !(l == [])), .int .i64 0]) := by
 have hcut := cutPrefix_spec s [45]
 refine does tab_ok Tryz.func11 rfl rfl rfl rfl rfl fun w0 H0 hk hj => ?_
 refine W.seq (W.region ?_)
 refine z_a 0 [_] ?_
 refine z_p ?_
 refine WL.nil ?_
 refine W.seq (W.region ?_)
 refine z_p ?_
 refine z_c (hcut) ?_
 refine z_p ?_
 refine z_p ?_
 refine z_p ?_
 refine z_p ?_
 refine z_p ?_
 refine WL.nil ?_
 refine W.seq (W.region ?_)
 refine z_p ?_
 refine z_c (h) ?_
 refine z_p ?_
 refine z_p ?_
 refine z_p ?_
 refine z_a 1 [_, _] ?_
 refine z_s [_, _] ?_
 refine z_p ?_
 refine WL.nil ?_
 refine W.seq (W.block ?_)
 refine W.seq (W.region ?_)
 refine z_p ?_
 refine sp (v_is false rfl rfl rfl rfl rfl) rfl rfl rfl ?_
 refine z_p ?_
 refine WL.nil ?_
 refine W.cond_false rfl ?_
 by_cases hb : hasP s [45] = true
 ·skip
  refine W.seq (W.region ?_)
  refine sq (v_pure rfl) (show _ = AV.bool true from by rw [hb]) rfl rfl rfl ?_
  refine z_p ?_
  first | refine z_l1 ?_ | refine z_r1 ?_
  refine z_c (zero_spec l) ?_
  refine z_p ?_
  refine z_p ?_
  refine WL.nil ?_
  refine W.cond rfl (fun hc => ?_) (fun hc => ?_)
  ·skip
   refine W.seq (W.region ?_)
   refine sq (v_build rfl rfl rfl rfl rfl rfl rfl) (rfl : _ = AV.agg [_, _]) rfl rfl rfl ?_
   refine WL.sub 29 rfl wholeRow_nils ?_
   refine z_s [_, _] ?_
   refine z_p ?_
   refine WL.nil ?_
   refine W.ret (fin (cs := [wholeRow [] false, .int .i64 5]) rfl (.shut (.plain (wholeRow_plain _ _)) (.shut (.plain rfl) .nil)) ?_)
   rw [if_pos (by simp only [signP, hb, hc, Bool.and_self])]; rfl
  ·refine W.skip ?_
   refine W.seq (W.region ?_)
   first | refine z_l1 ?_ | refine z_r1 ?_
   refine z_p ?_
   refine z_c (wholeOf_spec l (hasP s [45])) ?_
   refine z_s [_, _] ?_
   refine z_p ?_
   refine WL.nil ?_
   refine W.ret (fin (cs := [wholeRow l (hasP s [45] && !(l == [])), .int .i64 0]) rfl (.shut (.plain (wholeRow_plain _ _)) (.shut (.plain rfl) .nil)) ?_)
   rw [if_neg (by simp only [signP, hb, hc]; decide)]; rfl
 ·have hb' : hasP s [45] = false := by simpa using hb
  refine W.seq (W.region ?_)
  refine sq (v_pure rfl) (show _ = AV.bool false from by rw [hb']) rfl rfl rfl ?_
  refine z_p ?_
  refine z_o ?_
  refine z_o ?_
  refine z_p ?_
  refine z_p ?_
  refine WL.nil ?_
  refine W.cond_false rfl (W.skip ?_)
  refine W.seq (W.region ?_)
  first | refine z_l1 ?_ | refine z_r1 ?_
  refine z_p ?_
  refine z_c (wholeOf_spec l (hasP s [45])) ?_
  refine z_s [_, _] ?_
  refine z_p ?_
  refine WL.nil ?_
  refine W.ret (fin (cs := [wholeRow l (hasP s [45] && !(l == [])), .int .i64 0]) rfl (.shut (.plain (wholeRow_plain _ _)) (.shut (.plain rfl) .nil)) ?_)
  rw [if_neg (by simp only [signP, hb', Bool.false_and]; decide)]; rfl
theorem wholeParse_spec (s : List UInt8) (hs : s.length ≤ 9223372036854775807) : Does Tryz.prog 11 [.str s] (wholeParse s) := by
 have hp : (plainP s).length ≤ 9223372036854775807 := by
  simp only [plainP]; split
  ·simp; omega
  ·exact hs
 have h := digParse_spec (plainP s) hp
 simp only [digParse] at h
 simp only [wholeParse]
 by_cases h1 : (plainP s).length > 4096
 ·rw [if_pos h1] at h ⊢
  exact wholeParse_err s 7 (by decide) hs h
 ·rw [if_neg h1] at h ⊢
  by_cases h2 : numText (plainP s) = true
  ·rw [if_pos h2] at h
   rw [if_neg (by simp [h2])]
   exact wholeParse_ok s _ hs h
  ·rw [if_neg h2] at h
   rw [if_pos (by simpa using h2)]
   exact wholeParse_err s 5 (by decide) hs h
def wE (s : List UInt8) : Int := if (plainP s).length > 4096 then 7 else if numText (plainP s) = false then 5 else if signP s && (digs LB (decF (plainP s)) == []) then 5 else 0
def wL (s : List UInt8) : List Nat := if wE s = 0 then digs LB (decF (plainP s)) else []
def wB (s : List UInt8) : Bool := if wE s = 0 then signP s && !(digs LB (decF (plainP s)) == []) else false
theorem wholeParse_eq (s : List UInt8) : wholeParse s = .tup [wholeRow (wL s) (wB s), .int .i64 (wE s)] := by
 simp only [wholeParse, wL, wB, wE]
 by_cases h1 : (plainP s).length > 4096
 ·simp [h1]
 ·by_cases h2 : numText (plainP s) = false
  ·simp [h1, h2]
  ·by_cases h3 : (signP s && (digs LB (decF (plainP s)) == [])) = true
   ·simp only [if_neg h1, if_neg h2, if_pos h3]; rfl
   ·simp only [if_neg h1, if_neg h2, if_neg h3]; rfl
/-! ### whole numbers -/
def wAV (z : Int) : AV := wholeRow (digs LB z.natAbs) (decide (z < 0))
@[simp] theorem wAV_plain (z : Int) : (wAV z).plain = true := wholeRow_plain _ _
theorem wOf (n : Nat) (b : Bool) (z : Int) (h : z = if b then -(n : Int) else n) : Does Tryz.prog 37 [natAV n, .bool b] (wAV z) := by
 have h1 := wholeOf_spec (digs LB n) b
 have e1 : z.natAbs = n := by rw [h]; split <;> omega
 have e2 : decide (z < 0) = (b && !(digs LB n == [])) := by
  have e3 : (digs LB n == []) = decide (n = 0) := by rw [Bool.eq_iff_iff, beq_iff_eq, decide_eq_true_eq, digs_eq_nil (by decide)]
  rw [e3, h, Bool.eq_iff_iff]
  cases b <;> simp <;> omega
 rw [wAV, e1, e2]; exact h1
end Go.Proofs.YtehoobhbginahaaGreatDoor

set_option linter.unusedVariables false
set_option linter.unusedSimpArgs false
namespace Go.Proofs.YtehoobhbginahaaGreatDoor
open Go Go.Lens
def goodF (y : Int) : Bool := decide (1 ≤ y) && decide (y ≤ 9999)
theorem good_spec (y : Int) : Does Tryz.prog 99 [.int .i64 y] (.bool (goodF y)) := by
 refine does tab_ok Tryz.func99 rfl rfl rfl rfl rfl fun w0 H0 hk hj => ?_
 refine W.seq (W.region ?_)
 refine z_p ?_
 refine WL.nil ?_
 refine W.seq (W.region ?_)
 refine z_p ?_
 refine spb (v_pure rfl) rfl rfl rfl (fun h4 => ?_) (fun h4 => ?_)
 ·skip
  rw [decide_eq_true_eq] at h4
  refine z_p ?_
  refine z_p ?_
  refine z_p ?_
  refine z_p ?_
  refine z_p ?_
  refine WL.nil ?_
  refine W.ret (fin rfl (.shut (.plain (by first | rfl | simp [plainL, AV.plain])) .nil) ?_)
  simp [tupAV, goodF]; omega
 ·skip
  rw [decide_eq_false_iff_not] at h4
  refine z_p ?_
  refine z_o ?_
  refine z_o ?_
  refine z_p ?_
  refine z_p ?_
  refine WL.nil ?_
  refine W.ret (fin rfl (.shut (.plain (by first | rfl | simp [plainL, AV.plain])) .nil) ?_)
  simp [tupAV, goodF]; omega
theorem goodF_true {y : Int} : goodF y = true ↔ 1 ≤ y ∧ y ≤ 9999 := by simp [goodF]
theorem goodF_false {y : Int} : goodF y = false ↔ ¬ (1 ≤ y ∧ y ≤ 9999) := by rw [← goodF_true]; simp
def leapF (y : Int) : Bool := decide ((1 ≤ y ∧ y ≤ 9999) ∧ ((y % 4 = 0 ∧ y % 100 ≠ 0) ∨ y % 400 = 0))
theorem leap_spec (y : Int) : Does Tryz.prog 100 [.int .i64 y] (.bool (leapF y)) := by
 refine does tab_ok Tryz.func100 rfl rfl rfl rfl rfl fun w0 H0 hk hj => ?_
 refine W.seq (W.region ?_)
 refine z_p ?_
 refine WL.nil ?_
 refine W.seq (W.region ?_)
 refine z_p ?_
 refine scb (good_spec y) rfl rfl rfl rfl (by first | rfl | simp [plainL, AV.plain]) rfl rfl rfl (fun h4 => ?_) (fun h4 => ?_)
 ·skip
  simp only [goodF_true, goodF_false] at h4
  refine z_p ?_
  refine z_p ?_
  refine sp (v_bin rfl rfl rfl (rem_nn (by omega) (by omega))) rfl rfl rfl ?_
  refine spb (v_pure rfl) rfl rfl rfl (fun h8 => ?_) (fun h8 => ?_)
  ·skip
   rw [beq_iff_eq] at h8
   refine z_p ?_
   refine z_p ?_
   refine sp (v_bin rfl rfl rfl (rem_nn (by omega) (by omega))) rfl rfl rfl ?_
   refine z_p ?_
   refine spb (v_pure rfl) rfl rfl rfl (fun h13 => ?_) (fun h13 => ?_)
   ·skip
    rw [bne_iff_ne] at h13
    refine z_p ?_
    refine z_o ?_
    refine z_o ?_
    refine z_o ?_
    refine z_p ?_
    refine z_p ?_
    refine z_p ?_
    refine WL.nil ?_
    refine W.ret (fin rfl (.shut (.plain (by first | rfl | simp [plainL, AV.plain])) .nil) ?_)
    refine congrArg AV.bool ?_; rw [Bool.eq_iff_iff]; simp [leapF] <;> omega
   ·skip
    rw [bne_eq_false_iff_eq] at h13
    refine z_p ?_
    refine z_p ?_
    refine sp (v_bin rfl rfl rfl (rem_nn (by omega) (by omega))) rfl rfl rfl ?_
    refine z_p ?_
    refine z_p ?_
    refine z_p ?_
    refine z_p ?_
    refine WL.nil ?_
    refine W.ret (fin rfl (.shut (.plain (by first | rfl | simp [plainL, AV.plain])) .nil) ?_)
    refine congrArg AV.bool ?_; rw [Bool.eq_iff_iff]; simp [leapF] <;> omega
  ·skip
   rw [beq_eq_false_iff_ne] at h8
   refine z_p ?_
   refine z_o ?_
   refine z_o ?_
   refine z_o ?_
   refine z_p ?_
   refine z_p ?_
   refine z_p ?_
   refine sp (v_bin rfl rfl rfl (rem_nn (by omega) (by omega))) rfl rfl rfl ?_
   refine z_p ?_
   refine z_p ?_
   refine z_p ?_
   refine z_p ?_
   refine WL.nil ?_
   refine W.ret (fin rfl (.shut (.plain (by first | rfl | simp [plainL, AV.plain])) .nil) ?_)
   refine congrArg AV.bool ?_; rw [Bool.eq_iff_iff]; simp [leapF] <;> omega
 ·skip
  simp only [goodF_true, goodF_false] at h4
  refine z_p ?_
  refine z_o ?_
  refine z_o ?_
  refine z_o ?_
  refine z_o ?_
  refine z_o ?_
  refine z_o ?_
  refine z_o ?_
  refine z_o ?_
  refine z_o ?_
  refine z_o ?_
  refine z_o ?_
  refine z_o ?_
  refine z_o ?_
  refine z_p ?_
  refine z_p ?_
  refine WL.nil ?_
  refine W.ret (fin rfl (.shut (.plain (by first | rfl | simp [plainL, AV.plain])) .nil) ?_)
  refine congrArg AV.bool ?_; rw [Bool.eq_iff_iff]; simp [leapF] <;> omega
theorem leapR_spec (y : Int) : Does Tryz.prog 73 [.int .i64 y] (.bool (leapF y)) := by
 refine does tab_ok Tryz.func73 rfl rfl rfl rfl rfl fun w0 H0 hk hj => ?_
 refine W.seq (W.region ?_)
 refine z_p ?_
 refine WL.nil ?_
 refine W.seq (W.seq (W.region ?_))
 refine z_p ?_
 refine spb (v_pure rfl) rfl rfl rfl (fun h4 => ?_) (fun h4 => ?_)
 ·skip
  rw [decide_eq_true_eq] at h4
  refine z_p ?_
  refine z_o ?_
  refine z_o ?_
  refine z_p ?_
  refine WL.nil ?_
  refine W.cond_true rfl ?_
  refine W.seq (W.region ?_)
  refine z_p ?_
  refine WL.nil ?_
  refine W.ret (fin rfl (.shut (.plain (by first | rfl | simp [plainL, AV.plain])) .nil) ?_)
  refine congrArg AV.bool ?_; rw [Bool.eq_iff_iff]; simp [leapF] <;> omega
 ·skip
  rw [decide_eq_false_iff_not] at h4
  refine z_p ?_
  refine z_p ?_
  refine z_p ?_
  refine z_p ?_
  refine WL.nil ?_
  refine W.cond rfl (fun hc8 => ?_) (fun hc8 => ?_)
  ·rw [decide_eq_true_eq] at hc8
   refine W.seq (W.region ?_)
   refine z_p ?_
   refine WL.nil ?_
   refine W.ret (fin rfl (.shut (.plain (by first | rfl | simp [plainL, AV.plain])) .nil) ?_)
   refine congrArg AV.bool ?_; rw [Bool.eq_iff_iff]; simp [leapF] <;> omega
  ·rw [decide_eq_false_iff_not] at hc8
   refine W.skip ?_
   refine W.seq (W.seq (W.region ?_))
   refine z_p ?_
   refine sp (v_bin rfl rfl rfl (rem_nn (by omega) (by omega))) rfl rfl rfl ?_
   refine z_p ?_
   refine WL.nil ?_
   refine W.cond rfl (fun hc11 => ?_) (fun hc11 => ?_)
   ·rw [beq_iff_eq] at hc11
    refine W.seq (W.region ?_)
    refine z_p ?_
    refine WL.nil ?_
    refine W.ret (fin rfl (.shut (.plain (by first | rfl | simp [plainL, AV.plain])) .nil) ?_)
    refine congrArg AV.bool ?_; rw [Bool.eq_iff_iff]; simp [leapF] <;> omega
   ·rw [beq_eq_false_iff_ne] at hc11
    refine W.skip ?_
    refine W.seq (W.region ?_)
    refine z_p ?_
    refine sp (v_bin rfl rfl rfl (rem_nn (by omega) (by omega))) rfl rfl rfl ?_
    refine spb (v_pure rfl) rfl rfl rfl (fun h14 => ?_) (fun h14 => ?_)
    ·skip
     rw [beq_iff_eq] at h14
     refine z_p ?_
     refine z_p ?_
     refine sp (v_bin rfl rfl rfl (rem_nn (by omega) (by omega))) rfl rfl rfl ?_
     refine z_p ?_
     refine z_p ?_
     refine z_p ?_
     refine WL.nil ?_
     refine W.ret (fin rfl (.shut (.plain (by first | rfl | simp [plainL, AV.plain])) .nil) ?_)
     refine congrArg AV.bool ?_; rw [Bool.eq_iff_iff]; simp [leapF] <;> omega
    ·skip
     rw [beq_eq_false_iff_ne] at h14
     refine z_p ?_
     refine z_o ?_
     refine z_o ?_
     refine z_o ?_
     refine z_p ?_
     refine z_p ?_
     refine WL.nil ?_
     refine W.ret (fin rfl (.shut (.plain (by first | rfl | simp [plainL, AV.plain])) .nil) ?_)
     refine congrArg AV.bool ?_; rw [Bool.eq_iff_iff]; simp [leapF] <;> omega
def daysF (y m : Int) : Int := if ¬ (1 ≤ y ∧ y ≤ 9999) ∨ m < 1 ∨ m > 12 then 0 else if m = 2 then (if leapF y then 29 else 28) else if m = 4 ∨ m = 6 ∨ m = 9 ∨ m = 11 then 30 else 31
theorem daysF_lo {y m : Int} (h : ¬ (1 ≤ y ∧ y ≤ 9999) ∨ m < 1 ∨ m > 12) : daysF y m = 0 := by simp only [daysF, if_pos h]
theorem daysF_29 {y m : Int} (h : 1 ≤ y ∧ y ≤ 9999) (hm : m = 2) (hl : leapF y = true) : daysF y m = 29 := by subst hm; simp [daysF, h, hl]
theorem daysF_28 {y m : Int} (h : 1 ≤ y ∧ y ≤ 9999) (hm : m = 2) (hl : leapF y = false) : daysF y m = 28 := by subst hm; simp [daysF, h, hl]
theorem daysF_30 {y m : Int} (h : 1 ≤ y ∧ y ≤ 9999) (hm : m = 4 ∨ m = 6 ∨ m = 9 ∨ m = 11) : daysF y m = 30 := by
 have h1 : ¬ (¬ (1 ≤ y ∧ y ≤ 9999) ∨ m < 1 ∨ m > 12) := by omega
 have h2 : ¬ m = 2 := by omega
 simp only [daysF, if_neg h1, if_neg h2, if_pos hm]
theorem daysF_31 {y m : Int} (h : 1 ≤ y ∧ y ≤ 9999) (h0 : 1 ≤ m ∧ m ≤ 12) (h2 : ¬ m = 2) (hm : ¬ (m = 4 ∨ m = 6 ∨ m = 9 ∨ m = 11)) : daysF y m = 31 := by
 have h1 : ¬ (¬ (1 ≤ y ∧ y ≤ 9999) ∨ m < 1 ∨ m > 12) := by omega
 simp only [daysF, if_neg h1, if_neg h2, if_neg hm]
theorem daysR_spec (y m : Int) : Does Tryz.prog 49 [.int .i64 y, .int .i64 m] (.int .i64 (daysF y m)) := by
 refine does tab_ok Tryz.func49 rfl rfl rfl rfl rfl fun w0 H0 hk hj => ?_
 refine W.seq (W.region ?_)
 refine z_p ?_
 refine WL.nil ?_
 refine W.seq (W.seq (W.region ?_))
 refine z_p ?_
 refine spb (v_pure rfl) rfl rfl rfl (fun h7 => ?_) (fun h7 => ?_)
 ·skip
  rw [decide_eq_true_eq] at h7
  refine z_p ?_
  refine z_o ?_
  refine z_o ?_
  refine z_p ?_
  refine z_p ?_
  refine z_o ?_
  refine z_o ?_
  refine z_p ?_
  refine z_p ?_
  refine z_o ?_
  refine z_o ?_
  refine z_p ?_
  refine WL.nil ?_
  refine W.cond_true rfl ?_
  refine W.seq (W.region ?_)
  refine z_p ?_
  refine WL.nil ?_
  refine W.ret (fin rfl (.shut (.plain (by first | rfl | simp [plainL, AV.plain])) .nil) ?_)
  refine congrArg (AV.int .i64) ?_; first | exact (daysF_lo (by omega)).symm | exact (daysF_29 (by omega) (by omega) (by assumption)).symm | exact (daysF_28 (by omega) (by omega) (by assumption)).symm | exact (daysF_30 (by omega) (by omega)).symm | exact (daysF_31 (by omega) (by omega) (by omega) (by omega)).symm
 ·skip
  rw [decide_eq_false_iff_not] at h7
  refine z_p ?_
  refine z_p ?_
  refine z_p ?_
  refine spb (v_pure rfl) rfl rfl rfl (fun h11 => ?_) (fun h11 => ?_)
  ·skip
   rw [decide_eq_true_eq] at h11
   refine z_p ?_
   refine z_o ?_
   refine z_o ?_
   refine z_p ?_
   refine z_p ?_
   refine z_o ?_
   refine z_o ?_
   refine z_p ?_
   refine WL.nil ?_
   refine W.cond_true rfl ?_
   refine W.seq (W.region ?_)
   refine z_p ?_
   refine WL.nil ?_
   refine W.ret (fin rfl (.shut (.plain (by first | rfl | simp [plainL, AV.plain])) .nil) ?_)
   refine congrArg (AV.int .i64) ?_; first | exact (daysF_lo (by omega)).symm | exact (daysF_29 (by omega) (by omega) (by assumption)).symm | exact (daysF_28 (by omega) (by omega) (by assumption)).symm | exact (daysF_30 (by omega) (by omega)).symm | exact (daysF_31 (by omega) (by omega) (by omega) (by omega)).symm
  ·skip
   rw [decide_eq_false_iff_not] at h11
   refine z_p ?_
   refine z_p ?_
   refine z_p ?_
   refine spb (v_pure rfl) rfl rfl rfl (fun h15 => ?_) (fun h15 => ?_)
   ·skip
    rw [decide_eq_true_eq] at h15
    refine z_p ?_
    refine z_o ?_
    refine z_o ?_
    refine z_p ?_
    refine WL.nil ?_
    refine W.cond_true rfl ?_
    refine W.seq (W.region ?_)
    refine z_p ?_
    refine WL.nil ?_
    refine W.ret (fin rfl (.shut (.plain (by first | rfl | simp [plainL, AV.plain])) .nil) ?_)
    refine congrArg (AV.int .i64) ?_; first | exact (daysF_lo (by omega)).symm | exact (daysF_29 (by omega) (by omega) (by assumption)).symm | exact (daysF_28 (by omega) (by omega) (by assumption)).symm | exact (daysF_30 (by omega) (by omega)).symm | exact (daysF_31 (by omega) (by omega) (by omega) (by omega)).symm
   ·skip
    rw [decide_eq_false_iff_not] at h15
    refine z_p ?_
    refine z_p ?_
    refine z_p ?_
    refine z_p ?_
    refine WL.nil ?_
    refine W.cond rfl (fun hc19 => ?_) (fun hc19 => ?_)
    ·rw [decide_eq_true_eq] at hc19
     refine W.seq (W.region ?_)
     refine z_p ?_
     refine WL.nil ?_
     refine W.ret (fin rfl (.shut (.plain (by first | rfl | simp [plainL, AV.plain])) .nil) ?_)
     refine congrArg (AV.int .i64) ?_; first | exact (daysF_lo (by omega)).symm | exact (daysF_29 (by omega) (by omega) (by assumption)).symm | exact (daysF_28 (by omega) (by omega) (by assumption)).symm | exact (daysF_30 (by omega) (by omega)).symm | exact (daysF_31 (by omega) (by omega) (by omega) (by omega)).symm
    ·rw [decide_eq_false_iff_not] at hc19
     refine W.skip ?_
     refine W.seq (W.seq (W.region ?_))
     refine z_p ?_
     refine z_p ?_
     refine WL.nil ?_
     refine W.cond rfl (fun hc21 => ?_) (fun hc21 => ?_)
     ·rw [beq_iff_eq] at hc21
      refine W.seq (W.region ?_)
      refine z_p ?_
      refine z_c (leapR_spec y) ?_
      refine z_p ?_
      refine WL.nil ?_
      refine W.seq (W.seq (W.region ?_))
      refine z_p ?_
      refine WL.nil ?_
      refine W.cond rfl (fun hc24 => ?_) (fun hc24 => ?_)
      ·skip
       refine W.seq (W.region ?_)
       refine z_p ?_
       refine WL.nil ?_
       refine W.ret (fin rfl (.shut (.plain (by first | rfl | simp [plainL, AV.plain])) .nil) ?_)
       refine congrArg (AV.int .i64) ?_; first | exact (daysF_lo (by omega)).symm | exact (daysF_29 (by omega) (by omega) (by assumption)).symm | exact (daysF_28 (by omega) (by omega) (by assumption)).symm | exact (daysF_30 (by omega) (by omega)).symm | exact (daysF_31 (by omega) (by omega) (by omega) (by omega)).symm
      ·skip
       refine W.skip ?_
       refine W.seq (W.region ?_)
       refine z_p ?_
       refine WL.nil ?_
       refine W.ret (fin rfl (.shut (.plain (by first | rfl | simp [plainL, AV.plain])) .nil) ?_)
       refine congrArg (AV.int .i64) ?_; first | exact (daysF_lo (by omega)).symm | exact (daysF_29 (by omega) (by omega) (by assumption)).symm | exact (daysF_28 (by omega) (by omega) (by assumption)).symm | exact (daysF_30 (by omega) (by omega)).symm | exact (daysF_31 (by omega) (by omega) (by omega) (by omega)).symm
     ·rw [beq_eq_false_iff_ne] at hc21
      refine W.skip ?_
      refine W.seq (W.seq (W.region ?_))
      refine z_p ?_
      refine spb (v_pure rfl) rfl rfl rfl (fun h26 => ?_) (fun h26 => ?_)
      ·skip
       rw [beq_iff_eq] at h26
       refine z_p ?_
       refine z_o ?_
       refine z_o ?_
       refine z_p ?_
       refine z_p ?_
       refine z_o ?_
       refine z_o ?_
       refine z_p ?_
       refine z_p ?_
       refine z_o ?_
       refine z_o ?_
       refine z_p ?_
       refine WL.nil ?_
       refine W.cond_true rfl ?_
       refine W.seq (W.region ?_)
       refine z_p ?_
       refine WL.nil ?_
       refine W.ret (fin rfl (.shut (.plain (by first | rfl | simp [plainL, AV.plain])) .nil) ?_)
       refine congrArg (AV.int .i64) ?_; first | exact (daysF_lo (by omega)).symm | exact (daysF_29 (by omega) (by omega) (by assumption)).symm | exact (daysF_28 (by omega) (by omega) (by assumption)).symm | exact (daysF_30 (by omega) (by omega)).symm | exact (daysF_31 (by omega) (by omega) (by omega) (by omega)).symm
      ·skip
       rw [beq_eq_false_iff_ne] at h26
       refine z_p ?_
       refine z_p ?_
       refine z_p ?_
       refine spb (v_pure rfl) rfl rfl rfl (fun h30 => ?_) (fun h30 => ?_)
       ·skip
        rw [beq_iff_eq] at h30
        refine z_p ?_
        refine z_o ?_
        refine z_o ?_
        refine z_p ?_
        refine z_p ?_
        refine z_o ?_
        refine z_o ?_
        refine z_p ?_
        refine WL.nil ?_
        refine W.cond_true rfl ?_
        refine W.seq (W.region ?_)
        refine z_p ?_
        refine WL.nil ?_
        refine W.ret (fin rfl (.shut (.plain (by first | rfl | simp [plainL, AV.plain])) .nil) ?_)
        refine congrArg (AV.int .i64) ?_; first | exact (daysF_lo (by omega)).symm | exact (daysF_29 (by omega) (by omega) (by assumption)).symm | exact (daysF_28 (by omega) (by omega) (by assumption)).symm | exact (daysF_30 (by omega) (by omega)).symm | exact (daysF_31 (by omega) (by omega) (by omega) (by omega)).symm
       ·skip
        rw [beq_eq_false_iff_ne] at h30
        refine z_p ?_
        refine z_p ?_
        refine z_p ?_
        refine spb (v_pure rfl) rfl rfl rfl (fun h34 => ?_) (fun h34 => ?_)
        ·skip
         rw [beq_iff_eq] at h34
         refine z_p ?_
         refine z_o ?_
         refine z_o ?_
         refine z_p ?_
         refine WL.nil ?_
         refine W.cond_true rfl ?_
         refine W.seq (W.region ?_)
         refine z_p ?_
         refine WL.nil ?_
         refine W.ret (fin rfl (.shut (.plain (by first | rfl | simp [plainL, AV.plain])) .nil) ?_)
         refine congrArg (AV.int .i64) ?_; first | exact (daysF_lo (by omega)).symm | exact (daysF_29 (by omega) (by omega) (by assumption)).symm | exact (daysF_28 (by omega) (by omega) (by assumption)).symm | exact (daysF_30 (by omega) (by omega)).symm | exact (daysF_31 (by omega) (by omega) (by omega) (by omega)).symm
        ·skip
         rw [beq_eq_false_iff_ne] at h34
         refine z_p ?_
         refine z_p ?_
         refine z_p ?_
         refine z_p ?_
         refine WL.nil ?_
         refine W.cond rfl (fun hc38 => ?_) (fun hc38 => ?_)
         ·rw [beq_iff_eq] at hc38
          refine W.seq (W.region ?_)
          refine z_p ?_
          refine WL.nil ?_
          refine W.ret (fin rfl (.shut (.plain (by first | rfl | simp [plainL, AV.plain])) .nil) ?_)
          refine congrArg (AV.int .i64) ?_; first | exact (daysF_lo (by omega)).symm | exact (daysF_29 (by omega) (by omega) (by assumption)).symm | exact (daysF_28 (by omega) (by omega) (by assumption)).symm | exact (daysF_30 (by omega) (by omega)).symm | exact (daysF_31 (by omega) (by omega) (by omega) (by omega)).symm
         ·rw [beq_eq_false_iff_ne] at hc38
          refine W.skip ?_
          refine W.seq (W.region ?_)
          refine z_p ?_
          refine WL.nil ?_
          refine W.ret (fin rfl (.shut (.plain (by first | rfl | simp [plainL, AV.plain])) .nil) ?_)
          refine congrArg (AV.int .i64) ?_; first | exact (daysF_lo (by omega)).symm | exact (daysF_29 (by omega) (by omega) (by assumption)).symm | exact (daysF_28 (by omega) (by omega) (by assumption)).symm | exact (daysF_30 (by omega) (by omega)).symm | exact (daysF_31 (by omega) (by omega) (by omega) (by omega)).symm
def monthL : List Int := [31, 28, 31, 30, 31, 30, 31, 31, 30, 31, 30, 31]
def monthF (m : Int) : Int := monthL.getD (m - 1).toNat 0
theorem month_get (m : Int) (h0 : 1 ≤ m) (h1 : m ≤ 12) : (monthL.map (AV.int .i64))[(m - 1).toNat * 1]? = some (.int .i64 (monthF m)) := by
 have : m = 1 ∨ m = 2 ∨ m = 3 ∨ m = 4 ∨ m = 5 ∨ m = 6 ∨ m = 7 ∨ m = 8 ∨ m = 9 ∨ m = 10 ∨ m = 11 ∨ m = 12 := by omega
 rcases this with rfl | rfl | rfl | rfl | rfl | rfl | rfl | rfl | rfl | rfl | rfl | rfl <;> rfl
theorem month_days (y m : Int) (h0 : 1 ≤ m) (h1 : m ≤ 12) (hg : 1 ≤ y ∧ y ≤ 9999) (hl : m = 2 → leapF y = false) : monthF m = daysF y m := by
 have : m = 1 ∨ m = 2 ∨ m = 3 ∨ m = 4 ∨ m = 5 ∨ m = 6 ∨ m = 7 ∨ m = 8 ∨ m = 9 ∨ m = 10 ∨ m = 11 ∨ m = 12 := by omega
 rcases this with rfl | rfl | rfl | rfl | rfl | rfl | rfl | rfl | rfl | rfl | rfl | rfl <;> simp [monthF, monthL, daysF, hg, hl]
theorem days_spec (y m : Int) : Does Tryz.prog 74 [.int .i64 y, .int .i64 m] (.int .i64 (daysF y m)) := by
 refine does tab_ok Tryz.func74 rfl rfl rfl rfl rfl fun w0 H0 hk hj => ?_
 refine W.seq (W.region ?_)
 refine z_p ?_
 refine WL.nil ?_
 refine W.seq (W.seq (W.region ?_))
 refine z_p ?_
 refine z_c (good_spec y) ?_
 refine spb (v_pure rfl) rfl rfl rfl (fun h7 => ?_) (fun h7 => ?_)
 ·skip
  simp only [Bool.not_eq_true', Bool.not_eq_false', goodF_true, goodF_false] at h7
  refine z_p ?_
  refine z_o ?_
  refine z_o ?_
  refine z_p ?_
  refine z_p ?_
  refine z_o ?_
  refine z_o ?_
  refine z_p ?_
  refine WL.nil ?_
  refine W.cond_true rfl ?_
  refine W.seq (W.region ?_)
  refine z_p ?_
  refine WL.nil ?_
  refine W.ret (fin rfl (.shut (.plain (by first | rfl | simp [plainL, AV.plain])) .nil) ?_)
  refine congrArg (AV.int .i64) ?_; first | exact (daysF_lo (by omega)).symm | exact (daysF_29 (by omega) (by omega) (by assumption)).symm | exact (daysF_28 (by omega) (by omega) (by assumption)).symm | exact (daysF_30 (by omega) (by omega)).symm | exact (daysF_31 (by omega) (by omega) (by omega) (by omega)).symm | exact month_days y m (by omega) (by omega) (by omega) (by first | (intro; omega) | (intro; assumption))
 ·skip
  simp only [Bool.not_eq_true', Bool.not_eq_false', goodF_true, goodF_false] at h7
  refine z_p ?_
  refine z_p ?_
  refine z_p ?_
  refine spb (v_pure rfl) rfl rfl rfl (fun h11 => ?_) (fun h11 => ?_)
  ·skip
   rw [decide_eq_true_eq] at h11
   refine z_p ?_
   refine z_o ?_
   refine z_o ?_
   refine z_p ?_
   refine WL.nil ?_
   refine W.cond_true rfl ?_
   refine W.seq (W.region ?_)
   refine z_p ?_
   refine WL.nil ?_
   refine W.ret (fin rfl (.shut (.plain (by first | rfl | simp [plainL, AV.plain])) .nil) ?_)
   refine congrArg (AV.int .i64) ?_; first | exact (daysF_lo (by omega)).symm | exact (daysF_29 (by omega) (by omega) (by assumption)).symm | exact (daysF_28 (by omega) (by omega) (by assumption)).symm | exact (daysF_30 (by omega) (by omega)).symm | exact (daysF_31 (by omega) (by omega) (by omega) (by omega)).symm | exact month_days y m (by omega) (by omega) (by omega) (by first | (intro; omega) | (intro; assumption))
  ·skip
   rw [decide_eq_false_iff_not] at h11
   refine z_p ?_
   refine z_p ?_
   refine z_p ?_
   refine z_p ?_
   refine WL.nil ?_
   refine W.cond rfl (fun hc15 => ?_) (fun hc15 => ?_)
   ·rw [decide_eq_true_eq] at hc15
    refine W.seq (W.region ?_)
    refine z_p ?_
    refine WL.nil ?_
    refine W.ret (fin rfl (.shut (.plain (by first | rfl | simp [plainL, AV.plain])) .nil) ?_)
    refine congrArg (AV.int .i64) ?_; first | exact (daysF_lo (by omega)).symm | exact (daysF_29 (by omega) (by omega) (by assumption)).symm | exact (daysF_28 (by omega) (by omega) (by assumption)).symm | exact (daysF_30 (by omega) (by omega)).symm | exact (daysF_31 (by omega) (by omega) (by omega) (by omega)).symm | exact month_days y m (by omega) (by omega) (by omega) (by first | (intro; omega) | (intro; assumption))
   ·rw [decide_eq_false_iff_not] at hc15
    refine W.skip ?_
    refine W.seq (W.seq (W.region ?_))
    refine z_p ?_
    refine spb (v_pure rfl) rfl rfl rfl (fun h17 => ?_) (fun h17 => ?_)
    ·skip
     rw [beq_iff_eq] at h17
     refine z_p ?_
     refine z_p ?_
     refine z_c (leap_spec y) ?_
     refine z_p ?_
     refine WL.nil ?_
     refine W.cond rfl (fun hc21 => ?_) (fun hc21 => ?_)
     ·skip
      refine W.seq (W.region ?_)
      refine z_p ?_
      refine WL.nil ?_
      refine W.ret (fin rfl (.shut (.plain (by first | rfl | simp [plainL, AV.plain])) .nil) ?_)
      refine congrArg (AV.int .i64) ?_; first | exact (daysF_lo (by omega)).symm | exact (daysF_29 (by omega) (by omega) (by assumption)).symm | exact (daysF_28 (by omega) (by omega) (by assumption)).symm | exact (daysF_30 (by omega) (by omega)).symm | exact (daysF_31 (by omega) (by omega) (by omega) (by omega)).symm | exact month_days y m (by omega) (by omega) (by omega) (by first | (intro; omega) | (intro; assumption))
     ·skip
      refine W.skip ?_
      refine W.seq (W.region ?_)
      refine sq (v_build rfl rfl rfl rfl rfl rfl rfl) (rfl : _ = AV.agg [_, _, _, _, _, _, _, _, _, _, _, _]) rfl rfl rfl ?_
      refine z_p ?_
      refine z_i ?_
      refine sp (v_index_arr rfl rfl rfl rfl rfl rfl (by omega) (by omega) (month_get m (by omega) (by omega))) rfl rfl rfl ?_
      refine z_p ?_
      refine WL.nil ?_
      refine W.ret (fin rfl (.shut (.plain (by first | rfl | simp [plainL, AV.plain])) .nil) ?_)
      refine congrArg (AV.int .i64) ?_; first | exact (daysF_lo (by omega)).symm | exact (daysF_29 (by omega) (by omega) (by assumption)).symm | exact (daysF_28 (by omega) (by omega) (by assumption)).symm | exact (daysF_30 (by omega) (by omega)).symm | exact (daysF_31 (by omega) (by omega) (by omega) (by omega)).symm | exact month_days y m (by omega) (by omega) (by omega) (by first | (intro; omega) | (intro; assumption))
    ·skip
     rw [beq_eq_false_iff_ne] at h17
     refine z_p ?_
     refine z_o ?_
     refine z_o ?_
     refine z_p ?_
     refine WL.nil ?_
     refine W.cond_false rfl ?_
     refine W.skip ?_
     refine W.seq (W.region ?_)
     refine sq (v_build rfl rfl rfl rfl rfl rfl rfl) (rfl : _ = AV.agg [_, _, _, _, _, _, _, _, _, _, _, _]) rfl rfl rfl ?_
     refine z_p ?_
     refine z_i ?_
     refine sp (v_index_arr rfl rfl rfl rfl rfl rfl (by omega) (by omega) (month_get m (by omega) (by omega))) rfl rfl rfl ?_
     refine z_p ?_
     refine WL.nil ?_
     refine W.ret (fin rfl (.shut (.plain (by first | rfl | simp [plainL, AV.plain])) .nil) ?_)
     refine congrArg (AV.int .i64) ?_; first | exact (daysF_lo (by omega)).symm | exact (daysF_29 (by omega) (by omega) (by assumption)).symm | exact (daysF_28 (by omega) (by omega) (by assumption)).symm | exact (daysF_30 (by omega) (by omega)).symm | exact (daysF_31 (by omega) (by omega) (by omega) (by omega)).symm | exact month_days y m (by omega) (by omega) (by omega) (by first | (intro; omega) | (intro; assumption))
def rightF (y m d : Int) : Bool := decide (1 ≤ d ∧ d ≤ daysF y m)
def dateAV (y m d : Int) : AV := .agg [.int .i64 y, .int .i64 m, .int .i64 d]
theorem right_spec (y m d : Int) : Does Tryz.prog 71 [dateAV y m d] (.bool (rightF y m d)) := by
 refine does tab_ok Tryz.func71 rfl rfl rfl rfl rfl fun w0 H0 hk hj => ?_
 refine W.seq (W.region ?_)
 first | refine z_B 0 [_] ?_ | refine sn (a_box rfl rfl (.inr ⟨trivial, rfl⟩)) (rfl : _ = AV.ptr 0 0 0) (rfl : _ = [_]) rfl rfl rfl ?_
 refine z_p ?_
 refine WL.nil ?_
 refine W.seq (W.region ?_)
 first | refine z_f ?_ | refine z_g ?_
 first | refine z_l ?_ | refine z_r ?_
 first | refine z_f ?_ | refine z_g ?_
 first | refine z_l ?_ | refine z_r ?_
 refine z_c (daysR_spec y m) ?_
 refine z_p ?_
 refine WL.nil ?_
 refine W.seq (W.region ?_)
 first | refine z_f ?_ | refine z_g ?_
 first | refine z_l ?_ | refine z_r ?_
 refine spb (v_pure rfl) rfl rfl rfl (fun h11 => ?_) (fun h11 => ?_)
 ·skip
  rw [decide_eq_true_eq] at h11
  refine z_p ?_
  first | refine z_f ?_ | refine z_g ?_
  first | refine z_l ?_ | refine z_r ?_
  refine z_p ?_
  refine z_p ?_
  refine z_p ?_
  refine z_p ?_
  refine WL.nil ?_
  refine W.ret (fin rfl (.shut (.plain (by first | rfl | simp [plainL, AV.plain])) .nil) ?_)
  refine congrArg AV.bool ?_; rw [Bool.eq_iff_iff]; simp [rightF] <;> omega
 ·skip
  rw [decide_eq_false_iff_not] at h11
  refine z_p ?_
  refine z_o ?_
  refine z_o ?_
  refine z_o ?_
  refine z_o ?_
  refine z_p ?_
  refine z_p ?_
  refine WL.nil ?_
  refine W.ret (fin rfl (.shut (.plain (by first | rfl | simp [plainL, AV.plain])) .nil) ?_)
  refine congrArg AV.bool ?_; rw [Bool.eq_iff_iff]; simp [rightF] <;> omega
theorem dcheck_spec (y m d : Int) : Does Tryz.prog 53 [dateAV y m d] (.int .i64 (if rightF y m d then 0 else 11)) := by
 refine does tab_ok Tryz.func53 rfl rfl rfl rfl rfl fun w0 H0 hk hj => ?_
 refine W.seq (W.region ?_)
 first | refine z_B 0 [_] ?_ | refine sn (a_box rfl rfl (.inr ⟨trivial, rfl⟩)) (rfl : _ = AV.ptr 0 0 0) (rfl : _ = [_]) rfl rfl rfl ?_
 refine z_p ?_
 refine WL.nil ?_
 refine W.seq (W.seq (W.drawnR mixed [3, 4, 5, 6, 7, 8, 9, 10, 11, 12, 13] (by kernel_rfl) ?_))
 apply DrawFrom.stepR
 ·intro more
  first | refine z_f ?_ | refine z_g ?_
  exact z_e
 apply DrawFrom.stepR
 ·intro more
  first | refine z_l ?_ | refine z_r ?_
  exact z_e
 apply DrawFrom.stepRB
 ·intro more
  refine z_p ?_
  exact z_e
 ·intro h5
  rw [decide_eq_true_eq] at h5
  apply DrawFrom.stepR
  ·intro more
   refine z_p ?_
   exact z_e
  apply DrawFrom.stepR
  ·intro more
   refine z_o ?_
   exact z_e
  apply DrawFrom.stepR
  ·intro more
   refine z_o ?_
   exact z_e
  apply DrawFrom.stepR
  ·intro more
   refine z_o ?_
   exact z_e
  apply DrawFrom.stepR
  ·intro more
   refine z_o ?_
   exact z_e
  apply DrawFrom.stepR
  ·intro more
   refine z_o ?_
   exact z_e
  apply DrawFrom.stepR
  ·intro more
   refine z_o ?_
   exact z_e
  apply DrawFrom.stepR
  ·intro more
   refine z_o ?_
   exact z_e
  refine DrawFrom.doneR (rfl : _ = (_, _) :: (_, _) :: (_, _) :: (_, _) :: (_, _) :: (_, _) :: (_, _) :: (_, _) :: (_, _) :: (_, _) :: (_, _) :: _) ?_
  refine z_o ?_
  refine z_p ?_
  refine WL.nil ?_
  refine W.cond_true rfl ?_
  refine W.seq (W.region ?_)
  refine z_p ?_
  refine WL.nil ?_
  refine W.ret (fin rfl (.shut (.plain (by first | rfl | simp [plainL, AV.plain])) .nil) ?_)
  refine congrArg (AV.int .i64) ?_; simp only [rightF, decide_eq_true_eq]; split <;> first | rfl | omega
 ·intro h5
  rw [decide_eq_false_iff_not] at h5
  apply DrawFrom.stepR
  ·intro more
   refine z_p ?_
   exact z_e
  apply DrawFrom.stepR
  ·intro more
   first | refine z_f ?_ | refine z_g ?_
   exact z_e
  apply DrawFrom.stepR
  ·intro more
   first | refine z_l ?_ | refine z_r ?_
   exact z_e
  apply DrawFrom.stepR
  ·intro more
   first | refine z_f ?_ | refine z_g ?_
   exact z_e
  apply DrawFrom.stepR
  ·intro more
   first | refine z_l ?_ | refine z_r ?_
   exact z_e
  apply DrawFrom.stepR
  ·intro more
   first | refine z_f ?_ | refine z_g ?_
   exact z_e
  apply DrawFrom.stepR
  ·intro more
   first | refine z_l ?_ | refine z_r ?_
   exact z_e
  apply DrawFrom.stepR
  ·intro more
   refine z_c (days_spec y m) ?_
   exact z_e
  refine DrawFrom.doneR (rfl : _ = (_, _) :: (_, _) :: (_, _) :: (_, _) :: (_, _) :: (_, _) :: (_, _) :: (_, _) :: (_, _) :: (_, _) :: (_, _) :: _) ?_
  refine z_p ?_
  refine z_p ?_
  refine WL.nil ?_
  refine W.cond rfl (fun hc15 => ?_) (fun hc15 => ?_)
  ·rw [decide_eq_true_eq] at hc15
   refine W.seq (W.region ?_)
   refine z_p ?_
   refine WL.nil ?_
   refine W.ret (fin rfl (.shut (.plain (by first | rfl | simp [plainL, AV.plain])) .nil) ?_)
   refine congrArg (AV.int .i64) ?_; simp only [rightF, decide_eq_true_eq]; split <;> first | rfl | omega
  ·rw [decide_eq_false_iff_not] at hc15
   refine W.skip ?_
   refine W.seq (W.region ?_)
   refine z_p ?_
   refine WL.nil ?_
   refine W.ret (fin rfl (.shut (.plain (by first | rfl | simp [plainL, AV.plain])) .nil) ?_)
   refine congrArg (AV.int .i64) ?_; simp only [rightF, decide_eq_true_eq]; split <;> first | rfl | omega
end Go.Proofs.YtehoobhbginahaaGreatDoor

set_option linter.unusedVariables false
set_option linter.unusedSimpArgs false
namespace Go.Proofs.YtehoobhbginahaaGreatDoor
open Go Go.Lens
def isF (a : Int) : Bool := decide (0 ≤ a) && decide (a < 5)
theorem is_spec (a : Int) : Does Tryz.prog 54 [.int .i64 a] (.bool (isF a)) := by
 refine does tab_ok Tryz.func54 rfl rfl rfl rfl rfl fun w0 H0 hk hj => ?_
 refine W.seq (W.region ?_)
 refine z_p ?_
 refine WL.nil ?_
 refine W.seq (W.region ?_)
 refine z_p ?_
 refine spb (v_pure rfl) rfl rfl rfl (fun h4 => ?_) (fun h4 => ?_)
 ·skip
  rw [decide_eq_true_eq] at h4
  refine z_p ?_
  refine z_p ?_
  refine z_p ?_
  refine z_p ?_
  refine z_p ?_
  refine WL.nil ?_
  refine W.ret (fin rfl (.shut (.plain (by first | rfl | simp [plainL, AV.plain])) .nil) ?_)
  refine congrArg AV.bool ?_; rw [Bool.eq_iff_iff]; simp [isF] <;> omega
 ·skip
  rw [decide_eq_false_iff_not] at h4
  refine z_p ?_
  refine z_o ?_
  refine z_o ?_
  refine z_p ?_
  refine z_p ?_
  refine WL.nil ?_
  refine W.ret (fin rfl (.shut (.plain (by first | rfl | simp [plainL, AV.plain])) .nil) ?_)
  refine congrArg AV.bool ?_; rw [Bool.eq_iff_iff]; simp [isF] <;> omega
def entryAV (y m d db cr : Int) (am : List UInt8) : AV := .agg [.int .i64 y, .int .i64 m, .int .i64 d, .int .i64 db, .int .i64 cr, .str am]
def chartF (y m d db cr : Int) (am : List UInt8) : Int :=
  if rightF y m d = false then 11 else if isF db = false ∨ isF cr = false then 2 else if db = cr then 13 else if wE am ≠ 0 then wE am else
  if (if wL am = [] then (0 : Int) else if wB am then -1 else 1) ≤ 0 then 19 else 0
theorem chartCheck_spec (y m d db cr : Int) (am : List UInt8) (hs : am.length ≤ 9223372036854775807) : Does Tryz.prog 30 [entryAV y m d db cr am] (.int .i64 (chartF y m d db cr am)) := by
 have hw := wholeParse_spec am hs
 rw [wholeParse_eq] at hw
 refine does tab_ok Tryz.func30 rfl rfl rfl rfl rfl fun w0 H0 hk hj => ?_
 refine W.seq (W.region ?_)
 first | refine z_B 0 [_] ?_ | refine sn (a_box rfl rfl (.inr ⟨trivial, rfl⟩)) (rfl : _ = AV.ptr 0 0 0) (rfl : _ = [_]) rfl rfl rfl ?_
 refine z_p ?_
 refine WL.nil ?_
 refine W.seq (W.block ?_)
 refine W.seq (W.region ?_)
 first | refine z_f ?_ | refine z_g ?_
 first | refine z_l3 ?_ | refine z_r3 ?_
 refine z_c (dcheck_spec y m d) ?_
 refine z_p ?_
 refine z_p ?_
 refine WL.nil ?_
 refine W.cond rfl (fun hc5 => ?_) (fun hc5 => ?_)
 ·rw [bne_iff_ne] at hc5
  refine W.seq (W.region ?_)
  refine z_p ?_
  refine WL.nil ?_
  refine W.ret (fin rfl (.shut (.plain (by first | rfl | simp [plainL, AV.plain])) .nil) ?_)
  refine congrArg (AV.int .i64) ?_; clear hk hj hw; cases hr : rightF y m d <;> simp_all [chartF]
 ·rw [bne_eq_false_iff_eq] at hc5
  refine W.seq (W.region ?_)
  first | refine z_f ?_ | refine z_g ?_
  first | refine z_l ?_ | refine z_r ?_
  refine z_c (is_spec db) ?_
  refine spb (v_pure rfl) rfl rfl rfl (fun h14 => ?_) (fun h14 => ?_)
  ·skip
   refine z_p ?_
   refine z_o ?_
   refine z_o ?_
   refine z_o ?_
   refine z_o ?_
   refine z_p ?_
   refine z_p ?_
   refine WL.nil ?_
   refine W.cond_true rfl ?_
   refine W.seq (W.region ?_)
   refine z_p ?_
   refine WL.nil ?_
   refine W.ret (fin rfl (.shut (.plain (by first | rfl | simp [plainL, AV.plain])) .nil) ?_)
   refine congrArg (AV.int .i64) ?_; clear hk hj hw; cases hr : rightF y m d <;> simp_all [chartF]
  ·skip
   refine z_p ?_
   first | refine z_f ?_ | refine z_g ?_
   first | refine z_l ?_ | refine z_r ?_
   refine z_c (is_spec cr) ?_
   refine z_p ?_
   refine z_p ?_
   refine z_p ?_
   refine WL.nil ?_
   refine W.cond rfl (fun hc10 => ?_) (fun hc10 => ?_)
   ·skip
    refine W.seq (W.region ?_)
    refine z_p ?_
    refine WL.nil ?_
    refine W.ret (fin rfl (.shut (.plain (by first | rfl | simp [plainL, AV.plain])) .nil) ?_)
    refine congrArg (AV.int .i64) ?_; clear hk hj hw; cases hr : rightF y m d <;> simp_all [chartF]
   ·skip
    refine W.seq (W.region ?_)
    first | refine z_f ?_ | refine z_g ?_
    first | refine z_l ?_ | refine z_r ?_
    first | refine z_f ?_ | refine z_g ?_
    first | refine z_l ?_ | refine z_r ?_
    refine z_p ?_
    refine z_p ?_
    refine WL.nil ?_
    refine W.cond rfl (fun hc21 => ?_) (fun hc21 => ?_)
    ·rw [beq_iff_eq] at hc21
     refine W.seq (W.region ?_)
     refine z_p ?_
     refine WL.nil ?_
     refine W.ret (fin rfl (.shut (.plain (by first | rfl | simp [plainL, AV.plain])) .nil) ?_)
     refine congrArg (AV.int .i64) ?_; clear hk hj hw; cases hr : rightF y m d <;> simp_all [chartF]
    ·rw [beq_eq_false_iff_ne] at hc21
     refine W.skip ?_
     refine W.seq (W.region ?_)
     first | refine z_f ?_ | refine z_g ?_
     first | refine z_l ?_ | refine z_r ?_
     refine sc hw rfl rfl rfl rfl (by simp [plainL, AV.plain]) (by simp [plainL, AV.plain, wholeRow_plain]) rfl rfl rfl ?_
     refine z_p ?_
     refine z_p ?_
     refine z_p ?_
     refine z_a 1 [_, _] ?_
     refine z_s [_, _] ?_
     refine z_p ?_
     refine WL.nil ?_
     refine W.seq (W.seq (W.region ?_))
     refine z_p ?_
     refine z_p ?_
     refine WL.nil ?_
     refine W.cond rfl (fun hc34 => ?_) (fun hc34 => ?_)
     ·rw [bne_iff_ne] at hc34
      refine W.seq (W.region ?_)
      refine z_p ?_
      refine z_p ?_
      refine WL.nil ?_
      refine W.ret (fin rfl (.shut (.plain (by first | rfl | simp [plainL, AV.plain])) .nil) ?_)
      refine congrArg (AV.int .i64) ?_; clear hk hj hw; cases hr : rightF y m d <;> simp_all [chartF]
     ·rw [bne_eq_false_iff_eq] at hc34
      refine W.skip ?_
      refine W.seq (W.seq (W.region ?_))
      first | refine z_l2 ?_ | refine z_r2 ?_
      refine z_c (sign_spec (wL am) (wB am)) ?_
      refine z_p ?_
      refine WL.nil ?_
      refine W.cond rfl (fun hc38 => ?_) (fun hc38 => ?_)
      ·rw [decide_eq_true_eq] at hc38
       refine W.seq (W.region ?_)
       refine z_p ?_
       refine WL.nil ?_
       refine W.ret (fin rfl (.shut (.plain (by first | rfl | simp [plainL, AV.plain])) .nil) ?_)
       refine congrArg (AV.int .i64) ?_; clear hk hj hw; cases hr : rightF y m d <;> simp_all [chartF]
      ·rw [decide_eq_false_iff_not] at hc38
       refine W.skip ?_
       refine W.seq (W.region ?_)
       refine z_p ?_
       refine WL.nil ?_
       refine W.ret (fin rfl (.shut (.plain (by first | rfl | simp [plainL, AV.plain])) .nil) ?_)
       refine congrArg (AV.int .i64) ?_; clear hk hj hw; cases hr : rightF y m d <;> simp_all [chartF]
end Go.Proofs.YtehoobhbginahaaGreatDoor

set_option linter.unusedVariables false
set_option linter.unusedSimpArgs false
namespace Go.Proofs.YtehoobhbginahaaGreatDoor
open Go Go.Lens
def cmpZ (a b : Int) : Int := if a < b then -1 else if a > b then 1 else 0
theorem cmpI_spec (a b : Int) : Does Tryz.prog 56 [.int .i64 a, .int .i64 b] (.int .i64 (cmpZ a b)) := by
 have hnan : ∀ x : Int, Does Tryz.prog 75 [.int .i64 x] (.bool false) := fun x => by
  refine does tab_ok Tryz.func75 rfl rfl rfl rfl rfl fun w0 H0 hk hj => ?_
  refine W.seq (W.region ?_)
  refine z_p ?_
  refine WL.nil ?_
  refine W.seq (W.region ?_)
  refine z_p ?_
  refine z_p ?_
  refine z_p ?_
  refine z_p ?_
  refine WL.nil ?_
  refine W.ret (fin rfl (.shut (.plain (by first | rfl | simp [plainL, AV.plain])) .nil) ?_)
  exact congrArg AV.bool (by simp)
 refine does tab_ok Tryz.func56 rfl rfl rfl rfl rfl fun w0 H0 hk hj => ?_
 refine W.seq (W.region ?_)
 refine z_p ?_
 refine WL.nil ?_
 refine W.seq (W.region ?_)
 refine z_p ?_
 refine z_c (hnan a) ?_
 refine z_p ?_
 refine WL.nil ?_
 refine W.seq (W.region ?_)
 refine z_p ?_
 refine z_c (hnan b) ?_
 refine z_p ?_
 refine WL.nil ?_
 refine W.seq (W.seq (W.region ?_))
 refine z_p ?_
 refine WL.nil ?_
 refine W.cond rfl (fun hc11 => ?_) (fun hc11 => ?_)
 ·skip
  refine W.seq (W.seq (W.region ?_))
  refine z_p ?_
  refine WL.nil ?_
  refine W.cond rfl (fun hc12 => ?_) (fun hc12 => ?_)
  ·skip
   refine W.seq (W.region ?_)
   refine z_p ?_
   refine WL.nil ?_
   refine W.ret (fin rfl (.shut (.plain (by first | rfl | simp [plainL, AV.plain])) .nil) ?_)
   first | (cases hc11; done) | (cases hc13; done) | exact congrArg (AV.int .i64) (by simp [cmpZ, *])
  ·skip
   refine W.skip ?_
   refine W.seq (W.region ?_)
   refine z_p ?_
   refine WL.nil ?_
   refine W.ret (fin rfl (.shut (.plain (by first | rfl | simp [plainL, AV.plain])) .nil) ?_)
   first | (cases hc11; done) | (cases hc13; done) | exact congrArg (AV.int .i64) (by simp [cmpZ, *])
 ·skip
  refine W.skip ?_
  refine W.seq (W.seq (W.region ?_))
  refine z_p ?_
  refine WL.nil ?_
  refine W.cond rfl (fun hc13 => ?_) (fun hc13 => ?_)
  ·skip
   refine W.seq (W.region ?_)
   refine z_p ?_
   refine WL.nil ?_
   refine W.ret (fin rfl (.shut (.plain (by first | rfl | simp [plainL, AV.plain])) .nil) ?_)
   first | (cases hc11; done) | (cases hc13; done) | exact congrArg (AV.int .i64) (by simp [cmpZ, *])
  ·skip
   refine W.skip ?_
   refine W.seq (W.seq (W.region ?_))
   refine z_p ?_
   refine z_p ?_
   refine z_p ?_
   refine WL.nil ?_
   refine W.cond rfl (fun hc16 => ?_) (fun hc16 => ?_)
   ·rw [decide_eq_true_eq] at hc16
    refine W.seq (W.region ?_)
    refine z_p ?_
    refine WL.nil ?_
    refine W.ret (fin rfl (.shut (.plain (by first | rfl | simp [plainL, AV.plain])) .nil) ?_)
    first | (cases hc11; done) | (cases hc13; done) | exact congrArg (AV.int .i64) (by simp [cmpZ, *])
   ·rw [decide_eq_false_iff_not] at hc16
    refine W.skip ?_
    refine W.seq (W.seq (W.region ?_))
    refine z_p ?_
    refine z_p ?_
    refine z_p ?_
    refine WL.nil ?_
    refine W.cond rfl (fun hc19 => ?_) (fun hc19 => ?_)
    ·rw [decide_eq_true_eq] at hc19
     refine W.seq (W.region ?_)
     refine z_p ?_
     refine WL.nil ?_
     refine W.ret (fin rfl (.shut (.plain (by first | rfl | simp [plainL, AV.plain])) .nil) ?_)
     first | (cases hc11; done) | (cases hc13; done) | exact congrArg (AV.int .i64) (by simp [cmpZ, *])
    ·rw [decide_eq_false_iff_not] at hc19
     refine W.skip ?_
     refine W.seq (W.region ?_)
     refine z_p ?_
     refine WL.nil ?_
     refine W.ret (fin rfl (.shut (.plain (by first | rfl | simp [plainL, AV.plain])) .nil) ?_)
     first | (cases hc11; done) | (cases hc13; done) | exact congrArg (AV.int .i64) (by simp [cmpZ, *])
theorem cmpU_spec (a b : Nat) : Does Tryz.prog 86 [.int .u64 a, .int .u64 b] (.int .i64 (cmpZ a b)) := by
 have hnan : ∀ x : Nat, Does Tryz.prog 106 [.int .u64 x] (.bool false) := fun x => by
  refine does tab_ok Tryz.func106 rfl rfl rfl rfl rfl fun w0 H0 hk hj => ?_
  refine W.seq (W.region ?_)
  refine z_p ?_
  refine WL.nil ?_
  refine W.seq (W.region ?_)
  refine z_p ?_
  refine z_p ?_
  refine z_p ?_
  refine z_p ?_
  refine WL.nil ?_
  refine W.ret (fin rfl (.shut (.plain (by first | rfl | simp [plainL, AV.plain])) .nil) ?_)
  exact congrArg AV.bool (by simp)
 refine does tab_ok Tryz.func86 rfl rfl rfl rfl rfl fun w0 H0 hk hj => ?_
 refine W.seq (W.region ?_)
 refine z_p ?_
 refine WL.nil ?_
 refine W.seq (W.region ?_)
 refine z_p ?_
 refine z_c (hnan a) ?_
 refine z_p ?_
 refine WL.nil ?_
 refine W.seq (W.region ?_)
 refine z_p ?_
 refine z_c (hnan b) ?_
 refine z_p ?_
 refine WL.nil ?_
 refine W.seq (W.seq (W.region ?_))
 refine z_p ?_
 refine WL.nil ?_
 refine W.cond rfl (fun hc11 => ?_) (fun hc11 => ?_)
 ·skip
  refine W.seq (W.seq (W.region ?_))
  refine z_p ?_
  refine WL.nil ?_
  refine W.cond rfl (fun hc12 => ?_) (fun hc12 => ?_)
  ·skip
   refine W.seq (W.region ?_)
   refine z_p ?_
   refine WL.nil ?_
   refine W.ret (fin rfl (.shut (.plain (by first | rfl | simp [plainL, AV.plain])) .nil) ?_)
   first | (cases hc11; done) | (cases hc13; done) | exact congrArg (AV.int .i64) (by simp only [cmpZ]; first | rw [if_pos (by omega)] | rw [if_neg (by omega), if_pos (by omega)] | rw [if_neg (by omega), if_neg (by omega)])
  ·skip
   refine W.skip ?_
   refine W.seq (W.region ?_)
   refine z_p ?_
   refine WL.nil ?_
   refine W.ret (fin rfl (.shut (.plain (by first | rfl | simp [plainL, AV.plain])) .nil) ?_)
   first | (cases hc11; done) | (cases hc13; done) | exact congrArg (AV.int .i64) (by simp only [cmpZ]; first | rw [if_pos (by omega)] | rw [if_neg (by omega), if_pos (by omega)] | rw [if_neg (by omega), if_neg (by omega)])
 ·skip
  refine W.skip ?_
  refine W.seq (W.seq (W.region ?_))
  refine z_p ?_
  refine WL.nil ?_
  refine W.cond rfl (fun hc13 => ?_) (fun hc13 => ?_)
  ·skip
   refine W.seq (W.region ?_)
   refine z_p ?_
   refine WL.nil ?_
   refine W.ret (fin rfl (.shut (.plain (by first | rfl | simp [plainL, AV.plain])) .nil) ?_)
   first | (cases hc11; done) | (cases hc13; done) | exact congrArg (AV.int .i64) (by simp only [cmpZ]; first | rw [if_pos (by omega)] | rw [if_neg (by omega), if_pos (by omega)] | rw [if_neg (by omega), if_neg (by omega)])
  ·skip
   refine W.skip ?_
   refine W.seq (W.seq (W.region ?_))
   refine z_p ?_
   refine z_p ?_
   refine z_p ?_
   refine WL.nil ?_
   refine W.cond rfl (fun hc16 => ?_) (fun hc16 => ?_)
   ·rw [decide_eq_true_eq] at hc16
    refine W.seq (W.region ?_)
    refine z_p ?_
    refine WL.nil ?_
    refine W.ret (fin rfl (.shut (.plain (by first | rfl | simp [plainL, AV.plain])) .nil) ?_)
    first | (cases hc11; done) | (cases hc13; done) | exact congrArg (AV.int .i64) (by simp only [cmpZ]; first | rw [if_pos (by omega)] | rw [if_neg (by omega), if_pos (by omega)] | rw [if_neg (by omega), if_neg (by omega)])
   ·rw [decide_eq_false_iff_not] at hc16
    refine W.skip ?_
    refine W.seq (W.seq (W.region ?_))
    refine z_p ?_
    refine z_p ?_
    refine z_p ?_
    refine WL.nil ?_
    refine W.cond rfl (fun hc19 => ?_) (fun hc19 => ?_)
    ·rw [decide_eq_true_eq] at hc19
     refine W.seq (W.region ?_)
     refine z_p ?_
     refine WL.nil ?_
     refine W.ret (fin rfl (.shut (.plain (by first | rfl | simp [plainL, AV.plain])) .nil) ?_)
     first | (cases hc11; done) | (cases hc13; done) | exact congrArg (AV.int .i64) (by simp only [cmpZ]; first | rw [if_pos (by omega)] | rw [if_neg (by omega), if_pos (by omega)] | rw [if_neg (by omega), if_neg (by omega)])
    ·rw [decide_eq_false_iff_not] at hc19
     refine W.skip ?_
     refine W.seq (W.region ?_)
     refine z_p ?_
     refine WL.nil ?_
     refine W.ret (fin rfl (.shut (.plain (by first | rfl | simp [plainL, AV.plain])) .nil) ?_)
     first | (cases hc11; done) | (cases hc13; done) | exact congrArg (AV.int .i64) (by simp only [cmpZ]; first | rw [if_pos (by omega)] | rw [if_neg (by omega), if_pos (by omega)] | rw [if_neg (by omega), if_neg (by omega)])
theorem limbs_spec (l : List Nat) (hl : l.length * 8 ≤ 140737488355328) : Does Tryz.prog 88 [natRow l] (.row (u64AV l) l.length) := by
 refine does tab_ok Tryz.func88 rfl rfl rfl rfl rfl fun w0 H0 hk hj => ?_
 refine W.seq (W.region ?_)
 first | refine z_B 0 [_] ?_ | refine sn (a_box rfl rfl (.inr ⟨trivial, rfl⟩)) (rfl : _ = AV.ptr 0 0 0) (rfl : _ = [_]) rfl rfl rfl ?_
 refine z_p ?_
 refine WL.nil ?_
 refine W.seq (W.region ?_)
 first | refine z_f ?_ | refine z_g ?_
 first | refine z_l ?_ | refine z_r ?_
 refine z_c (clone_spec l hl) ?_
 refine z_p ?_
 refine WL.nil ?_
 exact W.ret (fin rfl (.shut (.plain (by simp [AV.plain])) .nil) rfl)
/-! ### order -/
theorem len_lt {a b : List Nat} (ha : Canon LB a) (hb : Canon LB b) (h : a.length < b.length) : val LB a < val LB b := by
 rcases list_snoc_ind (P := fun b => b = [] ∨ ∃ l x, b = l ++ [x]) (.inl rfl) (fun l x _ => .inr ⟨l, x, rfl⟩) b with rfl | ⟨l, x, rfl⟩
 ·simp at h
 ·have hx : x ≠ 0 := by
   intro e; subst e; exact hb.2 (by simp)
  rw [val_snoc]
  have h1 := val_lt ha.1
  have h2 : LB ^ a.length ≤ LB ^ l.length := Nat.pow_le_pow_right (by decide) (by simp at h; omega)
  have h3 : LB ^ l.length * 1 ≤ LB ^ l.length * x := Nat.mul_le_mul_left _ (by omega)
  omega
theorem val_split (l : List Nat) (i : Nat) (hi : i < l.length) : val LB l = pv LB l i + LB ^ i * (l[i] + LB * val LB (l.drop (i + 1))) := by
 have e : l = l.take i ++ l[i] :: l.drop (i + 1) := by rw [List.getElem_cons_drop, List.take_append_drop]
 conv => lhs; rw [e]
 rw [val_append, List.length_take, Nat.min_eq_left (by omega)]
 rfl
theorem pv_lt {l : List Nat} (h : Small LB l) (i : Nat) (hi : i ≤ l.length) : pv LB l i < LB ^ i := by
 have := val_lt (B := LB) (l := l.take i) fun x hx => h x (List.mem_of_mem_take hx)
 rw [List.length_take, Nat.min_eq_left hi] at this
 exact this
theorem digit_lt {a b : List Nat} (ha : Small LB a) (hb : Small LB b) (i : Nat) (hia : i < a.length) (hib : i < b.length) (hd : a.drop (i + 1) = b.drop (i + 1)) (h : a[i] < b[i]) : val LB a < val LB b := by
 rw [val_split a i hia, val_split b i hib, hd]
 have h1 := pv_lt ha i (by omega)
 have h2 : LB ^ i * (a[i] + LB * val LB (b.drop (i + 1)) + 1) ≤ LB ^ i * (b[i] + LB * val LB (b.drop (i + 1))) := Nat.mul_le_mul_left _ (by omega)
 rw [Nat.mul_add, Nat.mul_one] at h2
 omega
def cmpN (x y : Nat) : Int := cmpZ x y
theorem cmp_specL (a b : List Nat) (ha : Canon LB a) (hb : Canon LB b) (hla : a.length ≤ 1000000) (hlb : b.length ≤ 1000000) : Does Tryz.prog 64 [natRow a, natRow b] (.int .i64 (cmpN (val LB a) (val LB b))) := by
 refine does tab_ok Tryz.func64 rfl rfl rfl rfl rfl fun w0 H0 hk hj => ?_
 refine W.seq (W.region ?_)
 first | refine z_B 0 [_] ?_ | refine sn (a_box rfl rfl (.inr ⟨trivial, rfl⟩)) (rfl : _ = AV.ptr 0 0 0) (rfl : _ = [_]) rfl rfl rfl ?_
 first | refine z_B 1 [_, _] ?_ | refine sn (a_box rfl rfl (.inr ⟨trivial, rfl⟩)) (rfl : _ = AV.ptr 1 0 0) (rfl : _ = [_, _]) rfl rfl rfl ?_
 refine z_p ?_
 refine WL.nil ?_
 refine W.seq (W.seq (W.region ?_))
 first | refine z_f ?_ | refine z_g ?_
 first | refine z_l ?_ | refine z_r ?_
 first | refine z_n ?_ | refine z_m ?_ | refine z_k ?_
 first | refine z_f ?_ | refine z_g ?_
 first | refine z_l ?_ | refine z_r ?_
 first | refine z_n ?_ | refine z_m ?_ | refine z_k ?_
 refine z_c (cmpI_spec a.length b.length) ?_
 refine z_p ?_
 refine WL.nil ?_
 by_cases hne : a.length = b.length
 ·have hz : cmpZ a.length b.length = 0 := by rw [hne]; simp [cmpZ]
  rw [hz]
  refine W.seq (W.region ?_)
  refine z_p ?_
  refine sp (v_is false rfl rfl rfl rfl rfl) rfl rfl rfl ?_
  refine WL.nil ?_
  refine W.cond_false rfl (W.skip ?_)
  refine W.seq (W.seq (W.region ?_))
  first | refine z_f ?_ | refine z_g ?_
  first | refine z_l ?_ | refine z_r ?_
  first | refine z_n ?_ | refine z_m ?_ | refine z_k ?_
  refine z_i ?_
  refine z_p ?_
  refine WL.nil ?_
  refine W.block ?_
  refine W.while (fun m st => ∃ i : Int, -1 ≤ i ∧ i < a.length ∧ m = (i + 1).toNat ∧ a.drop (i + 1).toNat = b.drop (i + 1).toNat ∧ st = ⟨[(2, .ptr 0 0 0), (3, .ptr 1 0 0), (6, .int .i64 i)], [.cells [.row (u64AV a) a.length] 0 1 false none, .cells [.row (u64AV b) b.length] 0 1 false none]⟩) a.length
   ⟨(a.length : Int) - 1, by omega, by omega, by omega, by rw [List.drop_of_length_le (by omega), List.drop_of_length_le (by omega)], rfl⟩ (by refine ⟨?_, ?_, rfl, Nat.le_of_ble_eq_true rfl⟩ <;> repeat (first | exact trivial | exact rfl | refine ⟨rfl, ?_⟩ | refine ⟨.inr ⟨rfl, ?_⟩, ?_⟩ | refine ⟨.inl rfl, ?_⟩)) ?_
  rintro m _ ⟨i, hi0, hi1, rfl, hd, rfl⟩
  by_cases hp : i ≥ 0
  ·obtain ⟨j, rfl⟩ : ∃ j : Nat, i = j := ⟨i.toNat, by omega⟩
   have hja : j < a.length := by omega
   have hjb : j < b.length := by omega
   have hna := u64AV_ne hja
   have hnb := u64AV_ne hjb
   rw [show ((j : Int) + 1).toNat = j + 1 by omega] at hd
   refine W.seq (W.seq (W.region ?_))
   refine z_p ?_
   refine z_T hp ?_
   refine WL.nil ?_
   refine W.cond_true rfl (W.skip ?_)
   refine W.seq (W.block ?_)
   refine W.seq (W.drawnR mixed [26, 27, 28, 29, 30, 31, 32, 33, 34, 35] (by kernel_rfl) ?_)
   apply DrawFrom.stepR
   ·intro more
    first | refine z_f ?_ | refine z_g ?_
    exact z_e
   apply DrawFrom.stepR
   ·intro more
    first | refine z_l ?_ | refine z_r ?_
    exact z_e
   apply DrawFrom.stepR
   ·intro more
    refine z_p ?_
    exact z_e
   apply DrawFrom.stepR
   ·intro more
    refine sp (v_indexAddr_row rfl rfl rfl rfl rfl rfl (by omega) (by omega) hna) rfl rfl rfl ?_
    exact z_e
   apply DrawFrom.stepR
   ·intro more
    refine sp (v_load_radr rfl rfl rfl (loadc_at rfl (Nat.mul_one _) (u64AV_get hja))) rfl rfl rfl ?_
    exact z_e
   apply DrawFrom.stepR
   ·intro more
    first | refine z_f ?_ | refine z_g ?_
    exact z_e
   apply DrawFrom.stepR
   ·intro more
    first | refine z_l ?_ | refine z_r ?_
    exact z_e
   apply DrawFrom.stepR
   ·intro more
    refine z_p ?_
    exact z_e
   apply DrawFrom.stepR
   ·intro more
    refine sp (v_indexAddr_row rfl rfl rfl rfl rfl rfl (by omega) (by omega) hnb) rfl rfl rfl ?_
    exact z_e
   apply DrawFrom.stepR
   ·intro more
    refine sp (v_load_radr rfl rfl rfl (loadc_at rfl (Nat.mul_one _) (u64AV_get hjb))) rfl rfl rfl ?_
    exact z_e
   refine DrawFrom.doneR (rfl : _ = (_, _) :: (_, _) :: (_, _) :: (_, _) :: (_, _) :: (_, _) :: (_, _) :: (_, _) :: (_, _) :: (_, _) :: _) ?_
   refine z_c (cmpU_spec a[j] b[j]) ?_
   refine z_p ?_
   refine WL.nil ?_
   rcases Nat.lt_trichotomy a[j] b[j] with h | h | h
   ·have hz : cmpZ a[j] b[j] = -1 := by simp only [cmpZ]; rw [if_pos (by omega)]
    have hv := digit_lt ha.1 hb.1 j hja hjb hd h
    rw [hz]
    refine W.seq (W.region ?_)
    refine z_p ?_
    refine sp (v_is true rfl rfl rfl rfl rfl) rfl rfl rfl ?_
    refine WL.nil ?_
    refine W.cond_true rfl ?_
    refine W.seq (W.region ?_)
    refine z_p ?_
    refine z_p ?_
    refine WL.nil ?_
    refine W.ret (fin rfl (.shut (.plain rfl) .nil) (congrArg (AV.int .i64) ?_))
    simp only [cmpN, cmpZ]; rw [if_pos (by omega)]
   ·have hz : cmpZ a[j] b[j] = 0 := by simp only [cmpZ]; rw [if_neg (by omega), if_neg (by omega)]
    rw [hz]
    refine W.seq (W.region ?_)
    refine z_p ?_
    refine sp (v_is false rfl rfl rfl rfl rfl) rfl rfl rfl ?_
    refine WL.nil ?_
    refine W.cond_false rfl (W.skip ?_)
    refine W.region ?_
    refine z_p ?_
    refine z_i ?_
    refine z_p ?_
    refine WL.nil ?_
    refine ⟨j, _, _, by omega, ⟨(j : Int) - 1, by omega, by omega, by omega, ?_, rfl⟩, (by refine ⟨?_, ?_, rfl, Nat.le_of_ble_eq_true rfl⟩ <;> repeat (first | exact trivial | exact rfl | refine ⟨rfl, ?_⟩ | refine ⟨.inr ⟨rfl, ?_⟩, ?_⟩ | refine ⟨.inl rfl, ?_⟩))⟩
    rw [show ((j : Int) - 1 + 1).toNat = j by omega, List.drop_eq_getElem_cons hja, List.drop_eq_getElem_cons hjb, h, hd]
   ·have hz : cmpZ a[j] b[j] = 1 := by simp only [cmpZ]; rw [if_neg (by omega), if_pos (by omega)]
    have hv := digit_lt hb.1 ha.1 j hjb hja hd.symm h
    rw [hz]
    refine W.seq (W.region ?_)
    refine z_p ?_
    refine sp (v_is true rfl rfl rfl rfl rfl) rfl rfl rfl ?_
    refine WL.nil ?_
    refine W.cond_true rfl ?_
    refine W.seq (W.region ?_)
    refine z_p ?_
    refine z_p ?_
    refine WL.nil ?_
    refine W.ret (fin rfl (.shut (.plain rfl) .nil) (congrArg (AV.int .i64) ?_))
    simp only [cmpN, cmpZ]; rw [if_neg (by omega), if_pos (by omega)]
  ·have hi : i = -1 := by omega
   subst hi
   have hab : a = b := by simpa using hd
   refine W.seq (W.seq (W.region ?_))
   refine z_p ?_
   refine z_F hp ?_
   refine WL.nil ?_
   refine W.cond_false rfl (W.exit ?_)
   refine W.seq (W.region ?_)
   refine z_p ?_
   refine WL.nil ?_
   refine W.ret (fin rfl (.shut (.plain rfl) .nil) (congrArg (AV.int .i64) ?_))
   rw [hab]; simp [cmpN, cmpZ]
 ·rcases Nat.lt_or_gt_of_ne hne with h | h
  ·have hz : cmpZ a.length b.length = -1 := by simp only [cmpZ]; rw [if_pos (by omega)]
   have hv := len_lt ha hb h
   rw [hz]
   refine W.seq (W.region ?_)
   refine z_p ?_
   refine sp (v_is true rfl rfl rfl rfl rfl) rfl rfl rfl ?_
   refine WL.nil ?_
   refine W.cond_true rfl ?_
   refine W.seq (W.region ?_)
   refine z_p ?_
   refine z_p ?_
   refine WL.nil ?_
   refine W.ret (fin rfl (.shut (.plain rfl) .nil) (congrArg (AV.int .i64) ?_))
   simp only [cmpN, cmpZ]; rw [if_pos (by omega)]
  ·have hz : cmpZ a.length b.length = 1 := by simp only [cmpZ]; rw [if_neg (by omega), if_pos (by omega)]
   have hv := len_lt hb ha h
   rw [hz]
   refine W.seq (W.region ?_)
   refine z_p ?_
   refine sp (v_is true rfl rfl rfl rfl rfl) rfl rfl rfl ?_
   refine WL.nil ?_
   refine W.cond_true rfl ?_
   refine W.seq (W.region ?_)
   refine z_p ?_
   refine z_p ?_
   refine WL.nil ?_
   refine W.ret (fin rfl (.shut (.plain rfl) .nil) (congrArg (AV.int .i64) ?_))
   simp only [cmpN, cmpZ]; rw [if_neg (by omega), if_pos (by omega)]
/-- of numbers -/
def Lim (x : Nat) : Prop := (digs LB x).length ≤ 1000000
theorem Lim.of_le {x y : Nat} (h : Lim y) (hxy : x ≤ y) : Lim x := by
 have h1 := digs_val (B := LB) (by decide) y
 have h2 := val_lt (digs_canon (B := LB) (by decide) y).1
 rw [h1] at h2
 exact Nat.le_trans (digs_length (by decide) (Nat.lt_of_le_of_lt hxy h2)) h
theorem cmp_spec (x y : Nat) (hx : Lim x) (hy : Lim y) : Does Tryz.prog 64 [natAV x, natAV y] (.int .i64 (cmpN x y)) := by
 have := cmp_specL (digs LB x) (digs LB y) (digs_canon (by decide) x) (digs_canon (by decide) y) hx hy
 rwa [digs_val (by decide), digs_val (by decide)] at this
theorem sub64_ext (x y c : Nat) (hc : c ≤ 1) : Ext Tryz.prog 65 [.int .u64 x, .int .u64 y, .int .u64 c] (.tup [.int .u64 ((x + 18446744073709551616 - y - c) % 18446744073709551616 : Nat), .int .u64 (if x < y + c then 1 else 0 : Nat)]) :=
 Ext.of Tryz.func65 (by kernel_rfl) (by kernel_rfl) (by kernel_rfl) (show Extern.find Tryz.f65 = some (Extern.MathBitsCarry.rows[1]'(by decide)).2 by kernel_rfl) (sub64_row x y c hc)
theorem sub_no (x y : Nat) (hx : Lim x) (hy : Lim y) (h : x < y) : Does Tryz.prog 40 [natAV x, natAV y] (.tup [natRow [], .bool false]) := by
 have hc := cmp_spec x y hx hy
 have hz : cmpN x y = -1 := by simp only [cmpN, cmpZ]; rw [if_pos (by omega)]
 rw [hz] at hc
 refine does tab_ok Tryz.func40 rfl rfl rfl rfl rfl fun w0 H0 hk hj => ?_
 refine W.seq (W.region ?_)
 first | refine z_B 0 [_] ?_ | refine sn (a_box rfl rfl (.inr ⟨trivial, rfl⟩)) (rfl : _ = AV.ptr 0 0 0) (rfl : _ = [_]) rfl rfl rfl ?_
 first | refine z_B 1 [_, _] ?_ | refine sn (a_box rfl rfl (.inr ⟨trivial, rfl⟩)) (rfl : _ = AV.ptr 1 0 0) (rfl : _ = [_, _]) rfl rfl rfl ?_
 refine z_a 2 [_, _, _] ?_
 refine z_p ?_
 refine WL.nil ?_
 refine W.seq (W.seq (W.region ?_))
 first | refine z_l1 ?_ | refine z_r1 ?_
 first | refine z_l1 ?_ | refine z_r1 ?_
 refine z_c (hc) ?_
 refine z_T (show (-1 : Int) < 0 by decide) ?_
 refine WL.nil ?_
 refine W.cond_true rfl ?_
 refine W.seq (W.region ?_)
 refine sq (v_build rfl rfl rfl rfl rfl rfl rfl) (rfl : _ = AV.agg [_]) rfl rfl rfl ?_
 refine WL.sub 13 rfl natRow_nils ?_
 refine z_s [_, _, _] ?_
 refine z_p ?_
 refine WL.nil ?_
 exact W.ret (fin (cs := [natRow [], .bool false]) rfl (.shut (.plain (natRow_plain _)) (.shut (.plain rfl) .nil)) rfl)
theorem sub_ok (x y : Nat) (hx : Lim x) (h : y ≤ x) : Does Tryz.prog 40 [natAV x, natAV y] (.tup [natAV (x - y), .bool true]) := by
 have hy := hx.of_le h
 have hc := cmp_spec x y hx hy
 have hz : ¬ cmpN x y < 0 := by simp only [cmpN, cmpZ]; rw [if_neg (by omega)]; split <;> decide
 obtain ⟨a, hae⟩ : ∃ a, a = digs LB x := ⟨_, rfl⟩
 obtain ⟨b, hbe⟩ : ∃ b, b = digs LB y := ⟨_, rfl⟩
 have ha : Small LB a := hae ▸ (digs_canon (by decide) x).1
 have hb : Small LB b := hbe ▸ (digs_canon (by decide) y).1
 have hva : val LB a = x := by rw [hae, digs_val (by decide)]
 have hvb : val LB b = y := by rw [hbe, digs_val (by decide)]
 have hlim : a.length ≤ 1000000 := hae ▸ hx
 have hlen : b.length ≤ a.length := by
  rcases Nat.lt_or_ge a.length b.length with hlt | hge
  ·have := len_lt (hae ▸ digs_canon (by decide) x) (hbe ▸ digs_canon (by decide) y) hlt
   omega
  ·exact hge
 obtain ⟨N, hN⟩ : ∃ N, N = a.length := ⟨_, rfl⟩
 simp only [natAV] at hc
 rw [← hae, ← hbe] at hc
 simp only [natAV]
 rw [← hae, ← hbe]
 refine does tab_ok Tryz.func40 rfl rfl rfl rfl rfl fun w0 H0 hk hj => ?_
 refine W.seq (W.region ?_)
 first | refine z_B 0 [_] ?_ | refine sn (a_box rfl rfl (.inr ⟨trivial, rfl⟩)) (rfl : _ = AV.ptr 0 0 0) (rfl : _ = [_]) rfl rfl rfl ?_
 first | refine z_B 1 [_, _] ?_ | refine sn (a_box rfl rfl (.inr ⟨trivial, rfl⟩)) (rfl : _ = AV.ptr 1 0 0) (rfl : _ = [_, _]) rfl rfl rfl ?_
 refine z_a 2 [_, _, _] ?_
 refine z_p ?_
 refine WL.nil ?_
 refine W.seq (W.seq (W.region ?_))
 first | refine z_l1 ?_ | refine z_r1 ?_
 first | refine z_l1 ?_ | refine z_r1 ?_
 refine z_c (hc) ?_
 refine z_F hz ?_
 refine WL.nil ?_
 refine W.cond_false rfl (W.skip ?_)
 refine W.seq (W.region ?_)
 first | refine z_f ?_ | refine z_g ?_
 first | refine z_l ?_ | refine z_r ?_
 first | refine z_n ?_ | refine z_m ?_ | refine z_k ?_
 refine sn (a_make64 N rfl rfl rfl (by omega) rfl rfl rfl rfl rfl rfl (by omega)) (rfl : _ = AV.sl 3 0 0 N true) (rfl : _ = [_, _, _, _]) rfl rfl rfl ?_
 refine z_p ?_
 refine WL.nil ?_
 refine W.seq (W.region ?_)
 refine z_p ?_
 refine WL.nil ?_
 refine W.seq (W.seq (W.region ?_))
 refine z_p ?_
 first | refine z_n ?_ | refine z_m ?_ | refine z_k ?_
 refine z_p ?_
 refine WL.nil ?_
 refine W.block ?_
 refine W.while (fun m st => ∃ (i : Nat) (pre : List Nat) (c : Nat), i ≤ N ∧ m = N - i ∧ pre.length = i ∧ Small LB pre ∧ c ≤ 1 ∧ val LB pre + pv LB b i = pv LB a i + LB ^ i * c ∧
  st = ⟨[(2, .ptr 0 0 0), (3, .ptr 1 0 0), (4, .ptr 2 0 0), (6, .sl 3 0 0 N true), (7, .int .u64 c), (19, .int .i64 N), (20, .int .i64 i)],
   [.cells [.row (u64AV a) a.length] 0 1 false none, .cells [.row (u64AV b) b.length] 0 1 false none, .cells [.nils] 0 1 false none, .cells (u64AV (pre ++ List.replicate (N - i) 0)) 0 1 true (some 106)]⟩) N
  ⟨0, [], 0, by omega, by omega, rfl, fun x hx => (by cases hx), by omega, by simp [pv, val], rfl⟩ (by refine ⟨?_, ?_, rfl, Nat.le_of_ble_eq_true rfl⟩ <;> repeat (first | exact trivial | exact rfl | refine ⟨rfl, ?_⟩ | refine ⟨.inr ⟨rfl, ?_⟩, ?_⟩ | refine ⟨.inl rfl, ?_⟩)) ?_
 rintro m _ ⟨i, pre, c, hi, rfl, hpl, hps, hcc, hv, rfl⟩
 by_cases hlt : i < N
 ·have hset : ∀ x : Nat, (u64AV (pre ++ List.replicate (N - i) 0)).set (0 + (i : Int).toNat * 1) (.int .u64 x) = u64AV ((pre ++ [x]) ++ List.replicate (N - (i + 1)) 0) := fun x => by
   rw [show N - i = N - (i + 1) + 1 by omega]
   exact u64AV_set pre 0 _ x _ (by simp [hpl])
  have hia : i < a.length := by omega
  have hna := u64AV_ne hia
  refine W.seq (W.region ?_)
  refine z_T (show (i : Int) < N by omega) ?_
  refine WL.nil ?_
  refine W.seq (W.cond_true rfl (W.skip ?_))
  refine W.seq (W.block ?_)
  refine W.seq (W.region ?_)
  refine z_p ?_
  refine z_p ?_
  refine WL.nil ?_
  refine W.middle mixed [24, 25, 26, 27, 28, 29, 30, 31, 32, 33, 34, 35, 23, 36, 37, 38] [14] [0, 1, 2, 3, 4, 5, 6, 7, 8, 9, 10, 11, 12, 13, 15] 1 rfl rfl rfl rfl rfl rfl ?_
  apply MidV.step
  ·intro more
   refine z_p ?_
   exact z_e
  apply MidV.step
  ·intro more
   refine z_p ?_
   exact z_e
  apply MidV.step
  ·intro more
   first | refine z_f ?_ | refine z_g ?_
   exact z_e
  apply MidV.step
  ·intro more
   first | refine z_l ?_ | refine z_r ?_
   exact z_e
  apply MidV.step
  ·intro more
   refine z_p ?_
   exact z_e
  apply MidV.step
  ·intro more
   refine sp (v_indexAddr_row rfl rfl rfl rfl rfl rfl (by omega) (by omega) hna) rfl rfl rfl ?_
   exact z_e
  apply MidV.step
  ·intro more
   refine sp (v_load_radr rfl rfl rfl (loadc_at rfl (Nat.mul_one _) (u64AV_get hia))) rfl rfl rfl ?_
   exact z_e
  apply MidV.step
  ·intro more
   first | refine z_l1 ?_ | refine z_r1 ?_
   exact z_e
  apply MidV.step
  ·intro more
   refine z_p ?_
   exact z_e
  apply MidV.step
  ·intro more
   refine z_c (limb_spec b i (by omega) (by omega) (by omega)) ?_
   exact z_e
  apply MidV.step
  ·intro more
   refine z_p ?_
   exact z_e
  apply MidV.step
  ·intro more
   refine sp (v_ext (sub64_ext _ _ c hcc) rfl rfl rfl) rfl rfl rfl ?_
   exact z_e
  apply MidV.step
  ·intro more
   refine z_p ?_
   exact z_e
  apply MidV.step
  ·intro more
   refine z_p ?_
   exact z_e
  apply MidV.step
  ·intro more
   first | refine sp (v_indexAddr rfl rfl rfl rfl rfl rfl rfl (by omega) (by omega)) rfl rfl rfl ?_ | refine sp (v_indexAddr_row rfl rfl rfl rfl rfl rfl (by omega) (by omega) (by assumption)) rfl rfl rfl ?_
   exact z_e
  refine MidV.done ?_
  apply MidM.eff rfl
  ·intro more
   refine ss (a_store1 rfl rfl rfl rfl trivial (fun _ => rfl) rfl rfl (by simp [u64AV]; omega)) (Eq.trans (rfl : _ = [_, _, _, _]) (congrArg (fun q => [_, _, _, AObj.cells q 0 1 true (some 106)]) (hset _))) rfl rfl ?_
   exact z_e
  refine MidM.done ?_
  apply MidF.step
  ·refine ⟨fun more => ?_, fun more => ?_, trivial⟩
   refine z_p ?_
   exact z_e
   refine z_p ?_
   exact z_e
  refine MidF.done ?_
  refine z_p ?_
  refine WL.nil ?_
  refine W.region ?_
  refine z_i ?_
  refine z_p ?_
  refine WL.nil ?_
  have h1 : a[i] < LB := ha _ (List.getElem_mem hia)
  have h2 := small_getD hb i
  have hga : a.getD i 0 = a[i] := by simp [List.getD, hia]
  refine ⟨N - (i + 1), _, _, by omega, ⟨i + 1, pre ++ [(a[i] + 18446744073709551616 - b.getD i 0 - c) % 18446744073709551616], (if a[i] < b.getD i 0 + c then 1 else 0), by omega, rfl, by simp [hpl], ?_, ?_, ?_, rfl⟩, (by refine ⟨?_, ?_, rfl, Nat.le_of_ble_eq_true rfl⟩ <;> repeat (first | exact trivial | exact rfl | refine ⟨rfl, ?_⟩ | refine ⟨.inr ⟨rfl, ?_⟩, ?_⟩ | refine ⟨.inl rfl, ?_⟩))⟩
  ·intro x hx
   rcases List.mem_append.1 hx with hx | hx
   ·exact hps x hx
   ·simp at hx; subst hx; exact Nat.mod_lt _ (by decide)
  ·split <;> omega
  ·rw [val_snoc, pv_succ, pv_succ, hpl, Nat.pow_succ, hga]
   simp only [LB] at h1 h2
   have h3 : (a[i] + 18446744073709551616 - b.getD i 0 - c) % 18446744073709551616 + b.getD i 0 + c = a[i] + 18446744073709551616 * (if a[i] < b.getD i 0 + c then 1 else 0) := by
    split <;> omega
   generalize (a[i] + 18446744073709551616 - b.getD i 0 - c) % 18446744073709551616 = x at h3 ⊢
   generalize (if a[i] < b.getD i 0 + c then 1 else 0) = y at h3 ⊢
   have h4 : LB ^ i * x + LB ^ i * b.getD i 0 + LB ^ i * c = LB ^ i * a[i] + LB ^ i * LB * y := by
    rw [Nat.mul_assoc, ← Nat.mul_add, ← Nat.mul_add, ← Nat.mul_add]
    exact congrArg _ h3
   omega
 ·have hiN : i = N := by omega
  have hlt' : ¬ (i : Int) < N := by omega
  subst hiN
  rw [pv_all LB (show a.length ≤ i by omega), pv_all LB (show b.length ≤ i by omega), hva, hvb] at hv
  have hc0 : c = 0 := by
   have := val_lt hps
   rw [hpl] at this
   rcases (show c = 0 ∨ c = 1 by omega) with h | h
   ·exact h
   ·subst h; omega
  have hs : Does Tryz.prog 63 [.row (u64AV pre) pre.length] (natAV (x - y)) := by
   have := trimmed_spec pre (by omega)
   rw [trim_digs (B := LB) (by decide) hps, show val LB pre = x - y by rw [hc0] at hv; omega] at this
   exact this
  refine W.seq (W.region ?_)
  refine z_F hlt' ?_
  refine WL.nil ?_
  refine W.seq (W.cond_false rfl (W.exit ?_))
  refine W.seq (W.region ?_)
  refine z_p ?_
  refine sk hs rfl rfl rfl rfl (.lend rfl (by simp [u64AV]; omega) .nil) (by rw [hpl]; simp [u64AV, List.take_of_length_le, hpl]) (natRow_plain _) (one_mine rfl) rfl rfl rfl rfl ?_
  refine z_s [_, _, _, _] ?_
  refine z_p ?_
  refine WL.nil ?_
  exact W.ret (fin (cs := [natAV (x - y), .bool true]) rfl (.shut (.plain (natRow_plain _)) (.shut (.plain rfl) .nil)) rfl)
end Go.Proofs.YtehoobhbginahaaGreatDoor
