/- digits: Parse. Lens, part 18: a slice that begins as nil and grows, one element at a time. nat: Limbs, Cmp, Sub. Lens, part 19: what strings.Builder is made of: pointers compared, unsafe pointers, texts appended to bytes, bytes as a text. -/
import Derived.Test.YtejpblopbdgkaaaGreatDoorKDL3
import Derived.Lib.Builder
import Derived.Lib.AppendStr
import Derived.Lib.UnsafeStr
import Derived.Laws.BytesString
import Derived.Laws.Pointers

set_option linter.unusedVariables false
set_option linter.unusedSimpArgs false
namespace Go.Proofs.YtejpblopbdgkaaaGreatDoor
open Go Go.Lens
def digitL : List UInt8 := [48, 49, 50, 51, 52, 53, 54, 55, 56, 57]
/-- the number of decimal signs -/
def decF (l : List UInt8) : Nat := l.foldl (fun n c => 10 * n + (c.toNat - 48)) 0
theorem decF_snoc (l : List UInt8) (c : UInt8) : decF (l ++ [c]) = 10 * decF l + (c.toNat - 48) := by simp [decF]
theorem decF_append (l m : List UInt8) : decF (l ++ m) = decF l * 10 ^ m.length + decF m := by
 refine list_snoc_ind (P := fun m => decF (l ++ m) = decF l * 10 ^ m.length + decF m) (by simp [decF]) (fun m c ih => ?_) m
 ·rw [← List.append_assoc, decF_snoc, decF_snoc, ih, List.length_append, List.length_singleton, Nat.pow_succ, Nat.mul_add]
  rw [Nat.add_assoc, ← Nat.mul_assoc]
  congr 1
  rw [Nat.mul_comm 10 (decF l), Nat.mul_assoc, Nat.mul_comm 10]
def isDig (c : UInt8) : Bool := digitL.contains c
theorem isDig_iff (c : UInt8) : isDig c = true ↔ 48 ≤ c.toNat ∧ c.toNat ≤ 57 := by
 constructor
 ·intro h
  simp only [isDig, digitL, List.contains_cons, List.contains_nil, Bool.or_false, Bool.or_eq_true, beq_iff_eq] at h
  rcases h with rfl | rfl | rfl | rfl | rfl | rfl | rfl | rfl | rfl | rfl <;> decide
 ·intro h
  have h1 : c = UInt8.ofNat c.toNat := by simp
  have h2 : c.toNat = 48 ∨ c.toNat = 49 ∨ c.toNat = 50 ∨ c.toNat = 51 ∨ c.toNat = 52 ∨ c.toNat = 53 ∨ c.toNat = 54 ∨ c.toNat = 55 ∨ c.toNat = 56 ∨ c.toNat = 57 := by omega
  rcases h2 with h2 | h2 | h2 | h2 | h2 | h2 | h2 | h2 | h2 | h2 <;> (rw [h2] at h1; rw [h1]; decide)
theorem decF_lt {l : List UInt8} (h : ∀ c ∈ l, isDig c = true) : decF l < 10 ^ l.length := by
 revert h
 refine list_snoc_ind (P := fun l => (∀ c ∈ l, isDig c = true) → decF l < 10 ^ l.length) (fun _ => by simp [decF]) (fun l c ih h => ?_) l
 ·have h1 := ih fun x hx => h x (by simp [hx])
  have h2 := (isDig_iff c).1 (h c (by simp))
  rw [decF_snoc, List.length_append, List.length_singleton, Nat.pow_succ]
  omega
/-- is a text a number's? -/
def numText (s : List UInt8) : Bool := !(s == []) && s.all isDig && !(decide (1 < s.length) && s.head? == some 48)
theorem trimF_nil (s : List UInt8) : trimF digitL s = [] ↔ s.all isDig = true := by
 have key : ∀ (p : UInt8 → Bool) (l : List UInt8), l.dropWhile p = [] ↔ l.all p = true := by
  intro p l
  induction l with
  | nil => simp
  | cons c l ih =>
   rw [List.dropWhile_cons, List.all_cons]
   split
   ·rename_i h; rw [ih]; simp [h]
   ·rename_i h; simp [h]
 rw [trimF, key]
 have e : (dropR digitL.contains s).all digitL.contains = true ↔ s.all isDig = true := by
  show (dropR digitL.contains s).all isDig = true ↔ _
  constructor
  ·intro h
   rcases List.eq_nil_or_concat (dropR digitL.contains s) with h0 | ⟨l, c, h0⟩
   ·have : s.reverse.dropWhile digitL.contains = [] := by simpa [dropR] using h0
    rw [key] at this
    have h2 : s.reverse.all isDig = true := this
    simpa using h2
   ·exfalso
    have h1 : s.reverse.dropWhile digitL.contains = c :: l.reverse := by
     have := congrArg List.reverse h0
     simpa [dropR] using this
    have h2 : digitL.contains c = false := by
     have := List.head?_dropWhile_not digitL.contains s.reverse
     rw [h1] at this; simpa using this
    rw [h0] at h
    simp only [List.concat_eq_append, List.all_append, List.all_cons, List.all_nil, Bool.and_true, Bool.and_eq_true, isDig, h2] at h
    exact absurd h.2 (by simp)
  ·intro h
   have h1 : s.reverse.dropWhile digitL.contains = [] := by
    rw [key]
    have : s.reverse.all isDig = true := by simpa using h
    exact this
   simp [dropR, h1]
 exact e
theorem digit_ascii : ∀ c ∈ digitL, c.toNat < 128 := by decide
theorem natRow_nils : Sub (.agg [.nils]) (natRow []) := Sub.agg1 Sub.nils
/-- what Parse tells -/
def digParse (s : List UInt8) : AV := if s.length > 4096 then .tup [natRow [], .int .i64 7] else if numText s then .tup [natAV (decF s), .int .i64 0] else .tup [natRow [], .int .i64 5]
theorem digParse_spec (s : List UInt8) (hs : s.length ≤ 9223372036854775807) : Does Tryz.prog 74 [.str s] (digParse s) := by
 have htrim := trim_spec digitL s digit_ascii (by decide) (by decide) hs
 refine does tab_ok Tryz.func74 rfl rfl rfl rfl rfl fun w0 H0 hk hj => ?_
 by_cases hlong : s.length > 4096
 ·skip
  refine W.seq (W.region ?_)
  refine z_a 0 [_] ?_
  refine z_p ?_
  refine WL.nil ?_
  refine W.seq (W.seq (W.region ?_))
  refine z_p ?_
  refine sp (v_len rfl rfl rfl rfl rfl trivial) rfl rfl rfl ?_
  refine z_T (show (s.length : Int) > 4096 by omega) ?_
  refine WL.nil ?_
  refine W.cond_true rfl ?_
  refine W.seq (W.region ?_)
  refine sq (v_build rfl rfl rfl rfl rfl rfl rfl) (rfl : _ = AV.agg [_]) rfl rfl rfl ?_
  refine WL.sub 13 rfl natRow_nils ?_
  refine z_s [_] ?_
  refine z_p ?_
  refine WL.nil ?_
  refine W.ret (fin (cs := [natRow [], .int .i64 7]) rfl (.shut (.plain (natRow_plain _)) (.shut (.plain rfl) .nil)) ?_)
  simp [tupAV, digParse, hlong]
 have hlong' : ¬ ((s.length : Int) > 4096) := by omega
 by_cases he : s = []
 ·subst he
  refine W.seq (W.region ?_)
  refine z_a 0 [_] ?_
  refine z_p ?_
  refine WL.nil ?_
  refine W.seq (W.seq (W.region ?_))
  refine z_p ?_
  refine sp (v_len rfl rfl rfl rfl rfl trivial) rfl rfl rfl ?_
  refine z_F hlong' ?_
  refine WL.nil ?_
  refine W.cond_false rfl (W.skip ?_)
  refine W.seq (W.seq (W.region ?_))
  refine z_p ?_
  refine sp (v_is true rfl rfl rfl rfl rfl) rfl rfl rfl ?_
  refine z_p ?_
  refine z_o ?_
  refine z_o ?_
  refine z_o ?_
  refine z_p ?_
  refine z_p ?_
  refine z_o ?_
  refine z_o ?_
  refine z_o ?_
  refine z_o ?_
  refine z_o ?_
  refine z_o ?_
  refine z_o ?_
  refine z_o ?_
  refine z_p ?_
  refine WL.nil ?_
  refine W.cond_true rfl ?_
  refine W.seq (W.region ?_)
  refine sq (v_build rfl rfl rfl rfl rfl rfl rfl) (rfl : _ = AV.agg [_]) rfl rfl rfl ?_
  refine WL.sub 31 rfl natRow_nils ?_
  refine z_s [_] ?_
  refine z_p ?_
  refine WL.nil ?_
  refine W.ret (fin (cs := [natRow [], .int .i64 5]) rfl (.shut (.plain (natRow_plain _)) (.shut (.plain rfl) .nil)) ?_)
  simp [tupAV, digParse, numText]
 have hse : (s == ([] : List UInt8)) = false := by cases s with | nil => exact absurd rfl he | cons c s => rfl
 by_cases hd : s.all isDig = true
 rotate_left
 ·have hst : (!(trimF digitL s == ([] : List UInt8))) = true := by
   rw [Bool.not_eq_true', beq_eq_false_iff_ne]
   exact fun h => hd ((trimF_nil s).1 h)
  refine W.seq (W.region ?_)
  refine z_a 0 [_] ?_
  refine z_p ?_
  refine WL.nil ?_
  refine W.seq (W.seq (W.region ?_))
  refine z_p ?_
  refine sp (v_len rfl rfl rfl rfl rfl trivial) rfl rfl rfl ?_
  refine z_F hlong' ?_
  refine WL.nil ?_
  refine W.cond_false rfl (W.skip ?_)
  refine W.seq (W.seq (W.region ?_))
  refine z_p ?_
  refine sp (v_is false rfl rfl rfl rfl hse) rfl rfl rfl ?_
  refine z_p ?_
  refine z_p ?_
  refine z_c (htrim) ?_
  refine sp (v_is true rfl rfl rfl rfl hst) rfl rfl rfl ?_
  refine z_p ?_
  refine z_p ?_
  refine z_o ?_
  refine z_o ?_
  refine z_o ?_
  refine z_o ?_
  refine z_o ?_
  refine z_o ?_
  refine z_o ?_
  refine z_o ?_
  refine z_p ?_
  refine WL.nil ?_
  refine W.cond_true rfl ?_
  refine W.seq (W.region ?_)
  refine sq (v_build rfl rfl rfl rfl rfl rfl rfl) (rfl : _ = AV.agg [_]) rfl rfl rfl ?_
  refine WL.sub 31 rfl natRow_nils ?_
  refine z_s [_] ?_
  refine z_p ?_
  refine WL.nil ?_
  refine W.ret (fin (cs := [natRow [], .int .i64 5]) rfl (.shut (.plain (natRow_plain _)) (.shut (.plain rfl) .nil)) ?_)
  have : s.all isDig = false := by simpa using hd
  simp [tupAV, digParse, hlong, numText, this]
 have hst : (!(trimF digitL s == ([] : List UInt8))) = false := by
  rw [(trimF_nil s).2 hd]; rfl
 have hdig : ∀ c ∈ s, isDig c = true := by simpa using hd
 by_cases hz : 1 < s.length ∧ s.head? = some 48
 ·have hget : s[(0 : Int).toNat]? = some 48 := by rw [← hz.2]; cases s <;> rfl
  refine W.seq (W.region ?_)
  refine z_a 0 [_] ?_
  refine z_p ?_
  refine WL.nil ?_
  refine W.seq (W.seq (W.region ?_))
  refine z_p ?_
  refine sp (v_len rfl rfl rfl rfl rfl trivial) rfl rfl rfl ?_
  refine z_F hlong' ?_
  refine WL.nil ?_
  refine W.cond_false rfl (W.skip ?_)
  refine W.seq (W.seq (W.region ?_))
  refine z_p ?_
  refine sp (v_is false rfl rfl rfl rfl hse) rfl rfl rfl ?_
  refine z_p ?_
  refine z_p ?_
  refine z_c (htrim) ?_
  refine sp (v_is false rfl rfl rfl rfl hst) rfl rfl rfl ?_
  refine z_p ?_
  refine z_p ?_
  refine z_p ?_
  refine sp (v_len rfl rfl rfl rfl rfl trivial) rfl rfl rfl ?_
  refine z_T (show (s.length : Int) > 1 by omega) ?_
  refine z_p ?_
  refine z_p ?_
  refine sp (v_index_str (b := 48) rfl rfl rfl rfl rfl (by omega) hget) rfl rfl rfl ?_
  refine sp (v_is true rfl rfl rfl rfl rfl) rfl rfl rfl ?_
  refine z_p ?_
  refine z_p ?_
  refine WL.nil ?_
  refine W.cond_true rfl ?_
  refine W.seq (W.region ?_)
  refine sq (v_build rfl rfl rfl rfl rfl rfl rfl) (rfl : _ = AV.agg [_]) rfl rfl rfl ?_
  refine WL.sub 31 rfl natRow_nils ?_
  refine z_s [_] ?_
  refine z_p ?_
  refine WL.nil ?_
  refine W.ret (fin (cs := [natRow [], .int .i64 5]) rfl (.shut (.plain (natRow_plain _)) (.shut (.plain rfl) .nil)) ?_)
  simp [tupAV, digParse, hlong, numText, hz]
 have hnum : numText s = true := by
  simp only [numText, hse, hd, Bool.not_false, Bool.true_and, Bool.not_eq_true', Bool.and_eq_false_iff, decide_eq_false_iff_not]
  by_cases h1 : 1 < s.length
  ·right; rw [beq_eq_false_iff_ne]; exact fun h => hz ⟨h1, h⟩
  ·exact .inl h1
 have hres : digParse s = .tup [natAV (decF s), .int .i64 0] := by simp only [digParse, if_neg hlong, hnum, if_true]
 rw [hres]
 refine W.seq (W.region ?_)
 refine z_a 0 [_] ?_
 refine z_p ?_
 refine WL.nil ?_
 refine W.seq (W.seq (W.region ?_))
 refine z_p ?_
 refine sp (v_len rfl rfl rfl rfl rfl trivial) rfl rfl rfl ?_
 refine z_F hlong' ?_
 refine WL.nil ?_
 refine W.cond_false rfl (W.skip ?_)
 refine W.seq (W.seq (W.cut [(0, .str s), (2, .ptr 0 0 0), (30, .bool false)] [.cells [.nils] 0 1 false none] ?_ ?_))
 ·by_cases h1 : 1 < s.length
  ·have hh : s.head? ≠ some 48 := fun h => hz ⟨h1, h⟩
   obtain ⟨c, hc⟩ : ∃ c, s[(0 : Int).toNat]? = some c := ⟨s[0], by simp⟩
   have hc48 : ((c.toNat : Int) == 48) = false := by
    rw [beq_eq_false_iff_ne]
    intro h
    refine hh ?_
    have : s.head? = some c := by rw [← hc]; cases s <;> rfl
    rw [this]
    congr 1
    exact UInt8.toNat_inj.1 (by have : (48 : UInt8).toNat = 48 := rfl; omega)
   refine W.region ?_
   refine z_p ?_
   refine sp (v_is false rfl rfl rfl rfl hse) rfl rfl rfl ?_
   refine z_p ?_
   refine z_p ?_
   refine z_c (htrim) ?_
   refine sp (v_is false rfl rfl rfl rfl hst) rfl rfl rfl ?_
   refine z_p ?_
   refine z_p ?_
   refine z_p ?_
   refine sp (v_len rfl rfl rfl rfl rfl trivial) rfl rfl rfl ?_
   refine z_T (show (s.length : Int) > 1 by omega) ?_
   refine z_p ?_
   refine z_p ?_
   refine sp (v_index_str (b := c) rfl rfl rfl rfl rfl (by omega) hc) rfl rfl rfl ?_
   refine sp (v_is false rfl rfl rfl rfl hc48) rfl rfl rfl ?_
   refine z_p ?_
   refine z_p ?_
   refine WL.nil ?_
   exact ⟨rfl, (by refine ⟨?_, ?_, rfl, Nat.le_of_ble_eq_true rfl⟩ <;> repeat (first | exact trivial | exact rfl | refine ⟨rfl, ?_⟩ | refine ⟨.inr ⟨rfl, ?_⟩, ?_⟩ | refine ⟨.inl rfl, ?_⟩))⟩
  ·skip
   refine W.region ?_
   refine z_p ?_
   refine sp (v_is false rfl rfl rfl rfl hse) rfl rfl rfl ?_
   refine z_p ?_
   refine z_p ?_
   refine z_c (htrim) ?_
   refine sp (v_is false rfl rfl rfl rfl hst) rfl rfl rfl ?_
   refine z_p ?_
   refine z_p ?_
   refine z_p ?_
   refine sp (v_len rfl rfl rfl rfl rfl trivial) rfl rfl rfl ?_
   refine z_F (show ¬ ((s.length : Int) > 1) by omega) ?_
   refine z_p ?_
   refine z_o ?_
   refine z_o ?_
   refine z_o ?_
   refine z_p ?_
   refine z_p ?_
   refine WL.nil ?_
   exact ⟨rfl, (by refine ⟨?_, ?_, rfl, Nat.le_of_ble_eq_true rfl⟩ <;> repeat (first | exact trivial | exact rfl | refine ⟨rfl, ?_⟩ | refine ⟨.inr ⟨rfl, ?_⟩, ?_⟩ | refine ⟨.inl rfl, ?_⟩))⟩
 refine W.cond_false rfl (W.skip ?_)
 refine W.seq (W.region ?_)
 refine sq (v_build rfl rfl rfl rfl rfl rfl rfl) (rfl : _ = AV.agg [_]) rfl rfl rfl ?_
 refine WL.sub 32 rfl natRow_nils ?_
 refine z_a 1 [_, _] ?_
 refine z_s [_, _] ?_
 refine WL.nil ?_
 refine W.seq (W.seq (W.region ?_))
 refine z_p ?_
 refine WL.nil ?_
 refine W.block ?_
 refine W.while (fun m st => ∃ (dn l : List UInt8) (f : Bool), s = dn ++ l ∧ m = l.length ∧ (f = true → dn = []) ∧ (f = false → l.length % 18 = 0) ∧
  st = ⟨[(0, .str l), (2, .ptr 0 0 0), (4, .ptr 1 0 0), (5, .bool f)], [.cells [.nils] 0 1 false none, .cells [.row (u64AV (digs LB (decF dn))) (digs LB (decF dn)).length] 0 1 false none]⟩) s.length
  (env0 := [(0, .str s), (2, .ptr 0 0 0), (4, .ptr 1 0 0), (5, .bool true)]) (objs0 := [.cells [.nils] 0 1 false none, .cells [.row [] 0] 0 1 false none])
  ⟨[], s, true, rfl, rfl, fun _ => rfl, fun h => (by cases h), by rw [show decF [] = 0 from rfl, digs_zero]; rfl⟩ (by refine ⟨?_, ?_, rfl, Nat.le_of_ble_eq_true rfl⟩ <;> repeat (first | exact trivial | exact rfl | refine ⟨rfl, ?_⟩ | refine ⟨.inr ⟨rfl, ?_⟩, ?_⟩ | refine ⟨.inl rfl, ?_⟩)) ?_
 rintro m _ ⟨dn, l, f, hsl, rfl, hf1, hf2, rfl⟩
 have hdl : ∀ c ∈ dn, isDig c = true := fun c hc => hdig c (by rw [hsl]; simp [hc])
 have hlen : s.length = dn.length + l.length := by rw [hsl]; simp
 have hle : s.length ≤ 4096 := by omega
 by_cases hl : l = []
 ·subst hl
  refine W.seq (W.seq (W.region ?_))
  refine z_p ?_
  refine sp (v_is false rfl rfl rfl rfl rfl) rfl rfl rfl ?_
  refine WL.nil ?_
  refine W.cond_false rfl (W.exit ?_)
  refine W.seq (W.region ?_)
  first | refine z_l1 ?_ | refine z_r1 ?_
  refine z_s [_, _] ?_
  refine z_p ?_
  refine WL.nil ?_
  have hsd : decF dn = decF s := by rw [hsl]; simp
  refine W.ret (fin (cs := [natAV (decF dn), .int .i64 0]) rfl (.shut (.plain (natRow_plain _)) (.shut (.plain rfl) .nil)) ?_)
  rw [hsd]; rfl
 have hle' : (!(l == ([] : List UInt8))) = true := by cases l with | nil => exact absurd rfl hl | cons c l => rfl
 have hlp : 0 < l.length := by cases l with | nil => exact absurd rfl hl | cons c l => simp
 have hdig' : ∀ c ∈ l, isDig c = true := fun c hc => hdig c (by rw [hsl]; simp [hc])
 refine W.seq (W.seq (W.region ?_))
 refine z_p ?_
 refine sp (v_is true rfl rfl rfl rfl hle') rfl rfl rfl ?_
 refine WL.nil ?_
 refine W.cond_true rfl (W.skip ?_)
 refine W.seq (W.block ?_)
 refine W.seq (W.region ?_)
 refine z_p ?_
 refine sp (v_len rfl rfl rfl rfl rfl trivial) rfl rfl rfl ?_
 refine sq (v_bin rfl rfl rfl (rem_nn (by omega) (by omega))) (show _ = AV.int .i64 (l.length % 18 : Nat) from by simp) rfl rfl rfl ?_
 refine z_p ?_
 refine WL.nil ?_
 obtain ⟨k, hk1, hk2, hk3, hk4, hk5, hk6⟩ : ∃ k : Nat, 1 ≤ k ∧ k ≤ 18 ∧ k ≤ l.length ∧ (l.length - k) % 18 = 0 ∧ (dn = [] ∨ k = 18) ∧ ((f = false ∨ l.length % 18 = 0) → k = 18) ∧ (¬ (f = false ∨ l.length % 18 = 0) → k = l.length % 18) := by
  by_cases hc : f = false ∨ l.length % 18 = 0
  ·have : l.length % 18 = 0 := hc.elim hf2 id
   exact ⟨18, by omega, by omega, by omega, by omega, .inr rfl, fun _ => rfl, fun h => absurd hc h⟩
  ·refine ⟨l.length % 18, by omega, by omega, by omega, by omega, .inl (hf1 ?_), fun h => absurd h hc, fun _ => rfl⟩
   cases f with
   | true => rfl
   | false => exact absurd (.inl rfl) hc
 refine W.seq (W.cut [(0, .str l), (2, .ptr 0 0 0), (4, .ptr 1 0 0), (5, .bool f), (6, .int .i64 k)] [.cells [.nils] 0 1 false none, .cells [.row (u64AV (digs LB (decF dn))) (digs LB (decF dn)).length] 0 1 false none] ?_ ?_)
 ·cases f with
  | false =>
   have hk18 := hk6.1 (.inl rfl)
   refine W.seq (W.region ?_)
   refine z_p ?_
   refine z_p ?_
   refine z_p ?_
   refine z_o ?_
   refine z_o ?_
   refine z_p ?_
   refine WL.nil ?_
   refine W.cond_true rfl ?_
   refine W.region ?_
   refine z_p ?_
   refine WL.nil ?_
   rw [hk18]
   exact ⟨rfl, (by refine ⟨?_, ?_, rfl, Nat.le_of_ble_eq_true rfl⟩ <;> repeat (first | exact trivial | exact rfl | refine ⟨rfl, ?_⟩ | refine ⟨.inr ⟨rfl, ?_⟩, ?_⟩ | refine ⟨.inl rfl, ?_⟩))⟩
  | true =>
   by_cases hr : l.length % 18 = 0
   ·have hk18 := hk6.1 (.inr hr)
    refine W.seq (W.region ?_)
    refine z_p ?_
    refine z_p ?_
    refine z_p ?_
    refine z_p ?_
    refine sp (v_is true rfl rfl rfl rfl (beq_iff_eq.2 (by omega))) rfl rfl rfl ?_
    refine z_p ?_
    refine WL.nil ?_
    refine W.cond_true rfl ?_
    refine W.region ?_
    refine z_p ?_
    refine WL.nil ?_
    rw [hk18]
    exact ⟨rfl, (by refine ⟨?_, ?_, rfl, Nat.le_of_ble_eq_true rfl⟩ <;> repeat (first | exact trivial | exact rfl | refine ⟨rfl, ?_⟩ | refine ⟨.inr ⟨rfl, ?_⟩, ?_⟩ | refine ⟨.inl rfl, ?_⟩))⟩
   ·have hk18 := hk6.2 (by simp [hr])
    refine W.seq (W.region ?_)
    refine z_p ?_
    refine z_p ?_
    refine z_p ?_
    refine z_p ?_
    refine sp (v_is false rfl rfl rfl rfl (beq_eq_false_iff_ne.2 (by omega))) rfl rfl rfl ?_
    refine z_p ?_
    refine WL.nil ?_
    refine W.cond_false rfl (W.skip ?_)
    rw [hk18]
    exact ⟨rfl, (by refine ⟨?_, ?_, rfl, Nat.le_of_ble_eq_true rfl⟩ <;> repeat (first | exact trivial | exact rfl | refine ⟨rfl, ?_⟩ | refine ⟨.inr ⟨rfl, ?_⟩, ?_⟩ | refine ⟨.inl rfl, ?_⟩))⟩
 refine W.seq (W.region ?_)
 refine z_p ?_
 refine WL.nil ?_
 refine W.seq (W.seq (W.region ?_))
 refine z_p ?_
 refine z_p ?_
 refine sq (v_slice_str rfl rfl rfl rfl rfl ⟨_, _, rfl, by omega, rfl⟩ (by omega) (by omega)) (show _ = AV.str (l.take k) from by simp) rfl rfl rfl ?_
 refine sn (v_range rfl rfl rfl rfl) (rfl : _ = AV.ptr 2 0 0) (rfl : _ = [_, _, _]) rfl rfl rfl ?_
 refine WL.nil ?_
 refine W.block ?_
 refine W.while (fun m st => ∃ j : Nat, j ≤ k ∧ m = k - j ∧
  st = ⟨[(0, .str l), (2, .ptr 0 0 0), (4, .ptr 1 0 0), (5, .bool f), (6, .int .i64 k), (7, .int .u64 (decF (l.take j) : Nat)), (47, .ptr 2 0 0)],
   [.cells [.nils] 0 1 false none, .cells [.row (u64AV (digs LB (decF dn))) (digs LB (decF dn)).length] 0 1 false none, .iter (l.take k) j]⟩) k ⟨0, by omega, by omega, rfl⟩ (by refine ⟨?_, ?_, rfl, Nat.le_of_ble_eq_true rfl⟩ <;> repeat (first | exact trivial | exact rfl | refine ⟨rfl, ?_⟩ | refine ⟨.inr ⟨rfl, ?_⟩, ?_⟩ | refine ⟨.inl rfl, ?_⟩)) ?_
 rintro m _ ⟨j, hj, rfl, rfl⟩
 by_cases hjk : j < k
 ·have hjl : j < l.length := by omega
  have hcj : isDig l[j] = true := hdig' _ (List.getElem_mem hjl)
  have hcd := (isDig_iff _).1 hcj
  have hb1 := decF_lt (l := l.take j) fun c hc => hdig' c (List.mem_of_mem_take hc)
  have hb2 : (10 : Nat) ^ (l.take j).length ≤ 10 ^ 17 := Nat.pow_le_pow_right (by decide) (by simp; omega)
  have hb3 : decF (l.take j) < 100000000000000000 := Nat.lt_of_lt_of_le hb1 hb2
  have hget : (l.take k)[j]? = some l[j] := by rw [List.getElem?_take, if_pos hjk]; simp [hjl]
  refine W.seq (W.region ?_)
  refine sn (v_next_ascii rfl rfl rfl hget (by omega)) rfl (rfl : _ = [_, _, _]) rfl rfl rfl ?_
  refine z_p ?_
  refine WL.nil ?_
  refine W.seq (W.cond_true rfl (W.skip ?_))
  refine W.block ?_
  refine W.seq (W.region ?_)
  refine z_p ?_
  refine z_p ?_
  refine WL.nil ?_
  refine W.region ?_
  refine z_p ?_
  refine sp (v_mulN (a := 10) rfl rfl rfl (by omega)) rfl rfl rfl ?_
  refine z_p ?_
  refine sq (v_pure rfl) (show _ = AV.int .i32 (l[j].toNat - 48 : Nat) from by rw [IntKind.wrap_i32]; congr 1; omega) rfl rfl rfl ?_
  refine sp (v_cvt rfl rfl rfl rfl rfl (by first | rfl | (rw [IntKind.wrap_i64]; omega) | (rw [IntKind.wrap_u64]; omega) | (rw [IntKind.wrap_u8]; omega) | (rw [IntKind.wrap_i32]; omega))) rfl rfl rfl ?_
  refine sq (v_addN rfl rfl rfl (by omega)) (show _ = AV.int .u64 (decF (l.take (j + 1)) : Nat) from by rw [List.take_succ_eq_append_getElem hjl, decF_snoc]) rfl rfl rfl ?_
  refine z_p ?_
  refine WL.nil ?_
  exact ⟨k - (j + 1), _, _, by omega, ⟨j + 1, by omega, rfl, rfl⟩, (by refine ⟨?_, ?_, rfl, Nat.le_of_ble_eq_true rfl⟩ <;> repeat (first | exact trivial | exact rfl | refine ⟨rfl, ?_⟩ | refine ⟨.inr ⟨rfl, ?_⟩, ?_⟩ | refine ⟨.inl rfl, ?_⟩))⟩
 ·have hj' : j = k := by omega
  subst hj'
  refine W.seq (W.region ?_)
  refine sp (v_next_end rfl rfl rfl (by simp; omega)) rfl rfl rfl ?_
  refine z_p ?_
  refine WL.nil ?_
  refine W.seq (W.cond_false rfl (W.exit ?_))
  obtain ⟨E, hE⟩ : ∃ E : Nat, E = 4096 := ⟨_, rfl⟩
  have hpow : (10 : Nat) ^ dn.length ≤ LB ^ E := Nat.le_trans (Nat.pow_le_pow_right (by decide) (show dn.length ≤ E by omega)) (Nat.pow_le_pow_left (by decide) E)
  have hd1 := Nat.lt_of_lt_of_le (decF_lt hdl) hpow
  have hn1 : (digs LB (decF dn)).length ≤ 4096 := hE ▸ digs_length (by decide) hd1
  have hpb := decF_lt (l := l.take j) fun c hc => hdig' c (List.mem_of_mem_take hc)
  have hpb2 : (10 : Nat) ^ (l.take j).length ≤ 10 ^ 18 := Nat.pow_le_pow_right (by decide) (by simp; omega)
  have hpb3 : decF (l.take j) < 1000000000000000000 := Nat.lt_of_lt_of_le hpb hpb2
  have hmul : Does Tryz.prog 118 [natRow (digs LB (decF dn)), natRow (trim [1000000000000000000])] (natAV (decF dn * 1000000000000000000)) := by
   have := mul_spec (digs LB (decF dn)) (trim [1000000000000000000]) (digs_canon (by decide) _).1 (trim_canon (B := LB) (fun x hx => by rw [List.mem_singleton] at hx; subst hx; decide)).1 (by omega) (Nat.le_trans (trim_length _) (by simp))
   rw [digs_val (by decide), trim_val] at this
   simpa [val] using this
  have hsum : decF (dn ++ l.take j) = decF dn * 1000000000000000000 + decF (l.take j) := by
   rw [decF_append]
   rcases hk5 with h | h
   ·subst h; simp [decF]
   ·rw [show (l.take j).length = 18 by simp; omega]
  have hn2 : (digs LB (decF dn * 1000000000000000000)).length ≤ 4097 := by
   have hlt : decF dn * 1000000000000000000 < LB ^ (E + 1) := by
    rw [Nat.pow_succ]
    exact Nat.mul_lt_mul'' hd1 (by decide)
   exact Nat.le_trans (digs_length (by decide) hlt) (by omega)
  have hadd : Does Tryz.prog 119 [natAV (decF dn * 1000000000000000000), natRow (trim [decF (l.take j)])] (natAV (decF (dn ++ l.take j))) := by
   have := add_spec (digs LB (decF dn * 1000000000000000000)) (trim [decF (l.take j)]) (digs_canon (by decide) _).1 (trim_canon (B := LB) (fun x hx => by rw [List.mem_singleton] at hx; subst hx; simp only [LB]; omega)).1 (by omega) (Nat.le_trans (trim_length _) (by simp))
   rw [digs_val (by decide), trim_val] at this
   rw [hsum]
   simpa [val, natAV] using this
  refine W.seq (W.drawnR mixed [57, 58, 59, 60, 61, 62] (by kernel_rfl) ?_)
  apply DrawFrom.stepR
  ·intro more
   first | refine z_l1 ?_ | refine z_r1 ?_
   exact z_e
  apply DrawFrom.stepR
  ·intro more
   refine sq (v_buildRow rfl rfl rfl rfl rfl rfl rfl (Nat.le_of_ble_eq_true rfl) (Nat.le_of_ble_eq_true rfl) rfl rfl rfl rfl) (rfl : _ = AV.row [_] 1) rfl rfl rfl ?_
   exact z_e
  apply DrawFrom.stepR
  ·intro more
   refine z_c (of_spec [1000000000000000000] (by decide)) ?_
   exact z_e
  apply DrawFrom.stepR
  ·intro more
   refine z_c (hmul) ?_
   exact z_e
  apply DrawFrom.stepR
  ·intro more
   refine z_p ?_
   exact z_e
  apply DrawFrom.stepR
  ·intro more
   refine sq (v_buildRow rfl rfl rfl rfl rfl rfl rfl (Nat.le_of_ble_eq_true rfl) (Nat.le_of_ble_eq_true rfl) rfl rfl rfl rfl) (rfl : _ = AV.row [_] 1) rfl rfl rfl ?_
   exact z_e
  refine DrawFrom.doneR (rfl : _ = (_, _) :: (_, _) :: (_, _) :: (_, _) :: (_, _) :: (_, _) :: _) ?_
  refine z_c (of_spec [decF (l.take j)] (by simp)) ?_
  refine z_c (hadd) ?_
  refine z_s [_, _, _] ?_
  refine WL.nil ?_
  refine W.region ?_
  refine z_p ?_
  refine z_p ?_
  refine sq (v_slice_str rfl rfl rfl rfl ⟨_, _, rfl, by omega, rfl⟩ rfl (by omega) (by omega)) (show _ = AV.str (l.drop j) from by simp [List.take_of_length_le]) rfl rfl rfl ?_
  refine z_p ?_
  refine WL.nil ?_
  refine W.region ?_
  refine z_p ?_
  refine WL.nil ?_
  exact ⟨(l.drop j).length, _, _, by simp; omega, ⟨dn ++ l.take j, l.drop j, false, by rw [List.append_assoc, List.take_append_drop]; exact hsl, rfl, fun h => (by cases h), fun _ => by rw [List.length_drop]; exact hk4, rfl⟩, (by refine ⟨?_, ?_, rfl, Nat.le_of_ble_eq_true rfl⟩ <;> repeat (first | exact trivial | exact rfl | refine ⟨rfl, ?_⟩ | refine ⟨.inr ⟨rfl, ?_⟩, ?_⟩ | refine ⟨.inl rfl, ?_⟩))⟩
end Go.Proofs.YtejpblopbdgkaaaGreatDoor

set_option linter.unusedVariables false
set_option linter.unusedSimpArgs false
namespace Go.Lens
open Go Go.RowKit
/-- the slice of `n` elements, whose array is the object `o` -/
def growV (o n : Nat) : AV := match n with | 0 => .nils | n + 1 => .sl o n 0 (n + 1) true
/-- its array, if there is one -/
def growO (e : TypeId) (esz : Nat) (l : List AV) (n : Nat) : List AObj := match n with | 0 => [] | n + 1 => [.cells l n esz true (some e)]
theorem growO_length (e : TypeId) (esz : Nat) (l : List AV) (n : Nat) : (growO e esz l n).length = min n 1 := by cases n <;> simp [growO]
theorem v_grow {C : Ctx} {o : Oper} {env : List (Nat × AV)} {base : List AObj} {s x : Operand} {t e : TypeId} {y ye : Ty} {n esz : Nat} {l ds : List AV} {z : List Value} (ob : Nat) (hop : o.op = .call { callee := .builtin .append, args := #[s, x], argTypes := #[t, t] })
  (hob : ob = base.length) (hs : ev ⟨env, base ++ growO e esz l n⟩ s = some (growV ob n)) (hl : l.length = n * esz) (hx : ev ⟨env, base ++ growO e esz l n⟩ x = some (.row ds 1)) (hds : ds.length = esz) (hy : C.T.at t = some y) (hk : y.k = .slice e)
  (hye : C.T.at e = some ye) (hz : ye.zero = some z) (hzl : z.length = ye.size) (hesz : ye.size = esz) (hsz : 0 < ye.size) (hone : ds.all AV.oneB = true) (hbytes : (n + 1) * ye.bytes ≤ 140737488355328) (hn : n + 1 ≤ 9223372036854775807) :
  VStep C o ⟨env, base ++ growO e esz l n⟩ (growV ob (n + 1)) (base ++ growO e esz (l ++ ds) (n + 1)) := by
 subst hob; subst hesz
 have hone' : ∀ d ∈ ds, d.oneB = true := fun d hd => List.all_eq_true.1 hone d hd
 cases n with
 | zero =>
  have h0 : l = [] := List.length_eq_zero_iff.1 (by simpa using hl)
  subst h0
  simp only [growO, List.append_nil] at hs hx ⊢
  have := v_append_nil (st := ⟨env, base⟩) (m := 1) (ds := ds) hop hs hx hy hk hye hz hzl hsz (.inr (.inl ⟨rfl, by simpa using hds⟩)) (by omega) hone' (by omega) (by simpa using hbytes)
  simpa [growV] using this
 | succ n =>
  simp only [growO] at hs hx ⊢
  have hob : (base ++ [AObj.cells l n ye.size true (some e)])[base.length]? = some (.cells l n ye.size true (some e)) := by simp
  have := v_append_own (st := ⟨env, base ++ [AObj.cells l n ye.size true (some e)]⟩) (m := 1) (ds := ds) hop hs hob hl hx hy hk hye hz hzl hsz (.inr (.inl ⟨rfl, by simpa using hds⟩)) hone' (by omega) hbytes
  simpa [growV, List.set_append_right] using this
theorem growV_in (o n k : Nat) (h : o + min n 1 ≤ k) : (growV o n).inside k = true := by
 cases n with
 | zero => rfl
 | succ n => simp only [growV, AV.inside, decide_eq_true_eq]; omega
theorem growO_le (k : Nat) (e : TypeId) (esz : Nat) (l : List AV) (n : Nat) : ObjsLe k (growO e esz l n) (growO e esz l n) := by
 cases n with
 | zero => trivial
 | succ n => exact ⟨.inr ⟨rfl, trivial⟩, trivial⟩
/-- the same step, less told of its value -/
theorem VStep.sub {C : Ctx} {o : Oper} {st : St} {av av' : AV} {objs' : List AObj} (h : VStep C o st av objs') (hs : Sub av av') : VStep C o st av' objs' := by
 intro H a w hi
 obtain ⟨v, w', H', h1, h2, h3⟩ := h H a w hi
 exact ⟨v, w', H', h1, h2, hs _ _ _ h3⟩
def strsAV (l : List (List UInt8)) : List AV := l.map AV.str
theorem strsAV_length (l : List (List UInt8)) : (strsAV l).length = l.length := by simp [strsAV]
theorem strsAV_get {l : List (List UInt8)} {i : Nat} (h : i < l.length) : (strsAV l)[i]? = some (.str l[i]) := by simp [strsAV, h]
@[simp] theorem strsAV_plain (l : List (List UInt8)) : plainL (strsAV l) = true := by
  induction l with
  | nil => rfl
  | cons x l ih => simp only [strsAV, List.map_cons, plainL, AV.plain, Bool.true_and]; exact ih
end Go.Lens

set_option linter.unusedVariables false
set_option linter.unusedSimpArgs false
namespace Go.Proofs.YtejpblopbdgkaaaGreatDoor
open Go Go.Lens
def cmpZ (a b : Int) : Int := if a < b then -1 else if a > b then 1 else 0
theorem cmpI_spec (a b : Int) : Does Tryz.prog 128 [.int .i64 a, .int .i64 b] (.int .i64 (cmpZ a b)) := by
 have hnan : ∀ x : Int, Does Tryz.prog 155 [.int .i64 x] (.bool false) := fun x => by
  refine does tab_ok Tryz.func155 rfl rfl rfl rfl rfl fun w0 H0 hk hj => ?_
  refine W.seq (W.region ?_)
  refine z_p ?_
  refine WL.nil ?_
  refine W.seq (W.region ?_)
  refine z_p ?_
  refine z_p ?_
  refine z_p ?_
  refine z_p ?_
  refine WL.nil ?_
  refine W.ret (fin rfl (.shut (.plain (by first | rfl | simp [plainL, AV.plain])) .nil) ?_)
  exact congrArg AV.bool (by simp)
 refine does tab_ok Tryz.func128 rfl rfl rfl rfl rfl fun w0 H0 hk hj => ?_
 refine W.seq (W.region ?_)
 refine z_p ?_
 refine WL.nil ?_
 refine W.seq (W.region ?_)
 refine z_p ?_
 refine z_c (hnan a) ?_
 refine z_p ?_
 refine WL.nil ?_
 refine W.seq (W.region ?_)
 refine z_p ?_
 refine z_c (hnan b) ?_
 refine z_p ?_
 refine WL.nil ?_
 refine W.seq (W.seq (W.region ?_))
 refine z_p ?_
 refine WL.nil ?_
 refine W.cond rfl (fun hc11 => ?_) (fun hc11 => ?_)
 ·skip
  refine W.seq (W.seq (W.region ?_))
  refine z_p ?_
  refine WL.nil ?_
  refine W.cond rfl (fun hc12 => ?_) (fun hc12 => ?_)
  ·skip
   refine W.seq (W.region ?_)
   refine z_p ?_
   refine WL.nil ?_
   refine W.ret (fin rfl (.shut (.plain (by first | rfl | simp [plainL, AV.plain])) .nil) ?_)
   first | (cases hc11; done) | (cases hc13; done) | exact congrArg (AV.int .i64) (by simp [cmpZ, *])
  ·skip
   refine W.skip ?_
   refine W.seq (W.region ?_)
   refine z_p ?_
   refine WL.nil ?_
   refine W.ret (fin rfl (.shut (.plain (by first | rfl | simp [plainL, AV.plain])) .nil) ?_)
   first | (cases hc11; done) | (cases hc13; done) | exact congrArg (AV.int .i64) (by simp [cmpZ, *])
 ·skip
  refine W.skip ?_
  refine W.seq (W.seq (W.region ?_))
  refine z_p ?_
  refine WL.nil ?_
  refine W.cond rfl (fun hc13 => ?_) (fun hc13 => ?_)
  ·skip
   refine W.seq (W.region ?_)
   refine z_p ?_
   refine WL.nil ?_
   refine W.ret (fin rfl (.shut (.plain (by first | rfl | simp [plainL, AV.plain])) .nil) ?_)
   first | (cases hc11; done) | (cases hc13; done) | exact congrArg (AV.int .i64) (by simp [cmpZ, *])
  ·skip
   refine W.skip ?_
   refine W.seq (W.seq (W.region ?_))
   refine z_p ?_
   refine z_p ?_
   refine z_p ?_
   refine WL.nil ?_
   refine W.cond rfl (fun hc16 => ?_) (fun hc16 => ?_)
   ·rw [decide_eq_true_eq] at hc16
    refine W.seq (W.region ?_)
    refine z_p ?_
    refine WL.nil ?_
    refine W.ret (fin rfl (.shut (.plain (by first | rfl | simp [plainL, AV.plain])) .nil) ?_)
    first | (cases hc11; done) | (cases hc13; done) | exact congrArg (AV.int .i64) (by simp [cmpZ, *])
   ·rw [decide_eq_false_iff_not] at hc16
    refine W.skip ?_
    refine W.seq (W.seq (W.region ?_))
    refine z_p ?_
    refine z_p ?_
    refine z_p ?_
    refine WL.nil ?_
    refine W.cond rfl (fun hc19 => ?_) (fun hc19 => ?_)
    ·rw [decide_eq_true_eq] at hc19
     refine W.seq (W.region ?_)
     refine z_p ?_
     refine WL.nil ?_
     refine W.ret (fin rfl (.shut (.plain (by first | rfl | simp [plainL, AV.plain])) .nil) ?_)
     first | (cases hc11; done) | (cases hc13; done) | exact congrArg (AV.int .i64) (by simp [cmpZ, *])
    ·rw [decide_eq_false_iff_not] at hc19
     refine W.skip ?_
     refine W.seq (W.region ?_)
     refine z_p ?_
     refine WL.nil ?_
     refine W.ret (fin rfl (.shut (.plain (by first | rfl | simp [plainL, AV.plain])) .nil) ?_)
     first | (cases hc11; done) | (cases hc13; done) | exact congrArg (AV.int .i64) (by simp [cmpZ, *])
theorem cmpU_spec (a b : Nat) : Does Tryz.prog 146 [.int .u64 a, .int .u64 b] (.int .i64 (cmpZ a b)) := by
 have hnan : ∀ x : Nat, Does Tryz.prog 167 [.int .u64 x] (.bool false) := fun x => by
  refine does tab_ok Tryz.func167 rfl rfl rfl rfl rfl fun w0 H0 hk hj => ?_
  refine W.seq (W.region ?_)
  refine z_p ?_
  refine WL.nil ?_
  refine W.seq (W.region ?_)
  refine z_p ?_
  refine z_p ?_
  refine z_p ?_
  refine z_p ?_
  refine WL.nil ?_
  refine W.ret (fin rfl (.shut (.plain (by first | rfl | simp [plainL, AV.plain])) .nil) ?_)
  exact congrArg AV.bool (by simp)
 refine does tab_ok Tryz.func146 rfl rfl rfl rfl rfl fun w0 H0 hk hj => ?_
 refine W.seq (W.region ?_)
 refine z_p ?_
 refine WL.nil ?_
 refine W.seq (W.region ?_)
 refine z_p ?_
 refine z_c (hnan a) ?_
 refine z_p ?_
 refine WL.nil ?_
 refine W.seq (W.region ?_)
 refine z_p ?_
 refine z_c (hnan b) ?_
 refine z_p ?_
 refine WL.nil ?_
 refine W.seq (W.seq (W.region ?_))
 refine z_p ?_
 refine WL.nil ?_
 refine W.cond rfl (fun hc11 => ?_) (fun hc11 => ?_)
 ·skip
  refine W.seq (W.seq (W.region ?_))
  refine z_p ?_
  refine WL.nil ?_
  refine W.cond rfl (fun hc12 => ?_) (fun hc12 => ?_)
  ·skip
   refine W.seq (W.region ?_)
   refine z_p ?_
   refine WL.nil ?_
   refine W.ret (fin rfl (.shut (.plain (by first | rfl | simp [plainL, AV.plain])) .nil) ?_)
   first | (cases hc11; done) | (cases hc13; done) | exact congrArg (AV.int .i64) (by simp only [cmpZ]; first | rw [if_pos (by omega)] | rw [if_neg (by omega), if_pos (by omega)] | rw [if_neg (by omega), if_neg (by omega)])
  ·skip
   refine W.skip ?_
   refine W.seq (W.region ?_)
   refine z_p ?_
   refine WL.nil ?_
   refine W.ret (fin rfl (.shut (.plain (by first | rfl | simp [plainL, AV.plain])) .nil) ?_)
   first | (cases hc11; done) | (cases hc13; done) | exact congrArg (AV.int .i64) (by simp only [cmpZ]; first | rw [if_pos (by omega)] | rw [if_neg (by omega), if_pos (by omega)] | rw [if_neg (by omega), if_neg (by omega)])
 ·skip
  refine W.skip ?_
  refine W.seq (W.seq (W.region ?_))
  refine z_p ?_
  refine WL.nil ?_
  refine W.cond rfl (fun hc13 => ?_) (fun hc13 => ?_)
  ·skip
   refine W.seq (W.region ?_)
   refine z_p ?_
   refine WL.nil ?_
   refine W.ret (fin rfl (.shut (.plain (by first | rfl | simp [plainL, AV.plain])) .nil) ?_)
   first | (cases hc11; done) | (cases hc13; done) | exact congrArg (AV.int .i64) (by simp only [cmpZ]; first | rw [if_pos (by omega)] | rw [if_neg (by omega), if_pos (by omega)] | rw [if_neg (by omega), if_neg (by omega)])
  ·skip
   refine W.skip ?_
   refine W.seq (W.seq (W.region ?_))
   refine z_p ?_
   refine z_p ?_
   refine z_p ?_
   refine WL.nil ?_
   refine W.cond rfl (fun hc16 => ?_) (fun hc16 => ?_)
   ·rw [decide_eq_true_eq] at hc16
    refine W.seq (W.region ?_)
    refine z_p ?_
    refine WL.nil ?_
    refine W.ret (fin rfl (.shut (.plain (by first | rfl | simp [plainL, AV.plain])) .nil) ?_)
    first | (cases hc11; done) | (cases hc13; done) | exact congrArg (AV.int .i64) (by simp only [cmpZ]; first | rw [if_pos (by omega)] | rw [if_neg (by omega), if_pos (by omega)] | rw [if_neg (by omega), if_neg (by omega)])
   ·rw [decide_eq_false_iff_not] at hc16
    refine W.skip ?_
    refine W.seq (W.seq (W.region ?_))
    refine z_p ?_
    refine z_p ?_
    refine z_p ?_
    refine WL.nil ?_
    refine W.cond rfl (fun hc19 => ?_) (fun hc19 => ?_)
    ·rw [decide_eq_true_eq] at hc19
     refine W.seq (W.region ?_)
     refine z_p ?_
     refine WL.nil ?_
     refine W.ret (fin rfl (.shut (.plain (by first | rfl | simp [plainL, AV.plain])) .nil) ?_)
     first | (cases hc11; done) | (cases hc13; done) | exact congrArg (AV.int .i64) (by simp only [cmpZ]; first | rw [if_pos (by omega)] | rw [if_neg (by omega), if_pos (by omega)] | rw [if_neg (by omega), if_neg (by omega)])
    ·rw [decide_eq_false_iff_not] at hc19
     refine W.skip ?_
     refine W.seq (W.region ?_)
     refine z_p ?_
     refine WL.nil ?_
     refine W.ret (fin rfl (.shut (.plain (by first | rfl | simp [plainL, AV.plain])) .nil) ?_)
     first | (cases hc11; done) | (cases hc13; done) | exact congrArg (AV.int .i64) (by simp only [cmpZ]; first | rw [if_pos (by omega)] | rw [if_neg (by omega), if_pos (by omega)] | rw [if_neg (by omega), if_neg (by omega)])
theorem limbs_spec (l : List Nat) (hl : l.length * 8 ≤ 140737488355328) : Does Tryz.prog 81 [natRow l] (.row (u64AV l) l.length) := by
 refine does tab_ok Tryz.func81 rfl rfl rfl rfl rfl fun w0 H0 hk hj => ?_
 refine W.seq (W.region ?_)
 first | refine z_B 0 [_] ?_ | refine sn (a_box rfl rfl (.inr ⟨trivial, rfl⟩)) (rfl : _ = AV.ptr 0 0 0) (rfl : _ = [_]) rfl rfl rfl ?_
 refine z_p ?_
 refine WL.nil ?_
 refine W.seq (W.region ?_)
 first | refine z_f ?_ | refine z_g ?_
 first | refine z_l ?_ | refine z_r ?_
 refine z_c (clone_spec l hl) ?_
 refine z_p ?_
 refine WL.nil ?_
 exact W.ret (fin rfl (.shut (.plain (by simp [AV.plain])) .nil) rfl)
/-! ### order -/
theorem len_lt {a b : List Nat} (ha : Canon LB a) (hb : Canon LB b) (h : a.length < b.length) : val LB a < val LB b := by
 rcases list_snoc_ind (P := fun b => b = [] ∨ ∃ l x, b = l ++ [x]) (.inl rfl) (fun l x _ => .inr ⟨l, x, rfl⟩) b with rfl | ⟨l, x, rfl⟩
 ·simp at h
 ·have hx : x ≠ 0 := by
   intro e; subst e; exact hb.2 (by simp)
  rw [val_snoc]
  have h1 := val_lt ha.1
  have h2 : LB ^ a.length ≤ LB ^ l.length := Nat.pow_le_pow_right (by decide) (by simp at h; omega)
  have h3 : LB ^ l.length * 1 ≤ LB ^ l.length * x := Nat.mul_le_mul_left _ (by omega)
  omega
theorem val_split (l : List Nat) (i : Nat) (hi : i < l.length) : val LB l = pv LB l i + LB ^ i * (l[i] + LB * val LB (l.drop (i + 1))) := by
 have e : l = l.take i ++ l[i] :: l.drop (i + 1) := by rw [List.getElem_cons_drop, List.take_append_drop]
 conv => lhs; rw [e]
 rw [val_append, List.length_take, Nat.min_eq_left (by omega)]
 rfl
theorem pv_lt {l : List Nat} (h : Small LB l) (i : Nat) (hi : i ≤ l.length) : pv LB l i < LB ^ i := by
 have := val_lt (B := LB) (l := l.take i) fun x hx => h x (List.mem_of_mem_take hx)
 rw [List.length_take, Nat.min_eq_left hi] at this
 exact this
theorem digit_lt {a b : List Nat} (ha : Small LB a) (hb : Small LB b) (i : Nat) (hia : i < a.length) (hib : i < b.length) (hd : a.drop (i + 1) = b.drop (i + 1)) (h : a[i] < b[i]) : val LB a < val LB b := by
 rw [val_split a i hia, val_split b i hib, hd]
 have h1 := pv_lt ha i (by omega)
 have h2 : LB ^ i * (a[i] + LB * val LB (b.drop (i + 1)) + 1) ≤ LB ^ i * (b[i] + LB * val LB (b.drop (i + 1))) := Nat.mul_le_mul_left _ (by omega)
 rw [Nat.mul_add, Nat.mul_one] at h2
 omega
def cmpN (x y : Nat) : Int := cmpZ x y
theorem cmp_specL (a b : List Nat) (ha : Canon LB a) (hb : Canon LB b) (hla : a.length ≤ 1000000) (hlb : b.length ≤ 1000000) : Does Tryz.prog 121 [natRow a, natRow b] (.int .i64 (cmpN (val LB a) (val LB b))) := by
 refine does tab_ok Tryz.func121 rfl rfl rfl rfl rfl fun w0 H0 hk hj => ?_
 refine W.seq (W.region ?_)
 first | refine z_B 0 [_] ?_ | refine sn (a_box rfl rfl (.inr ⟨trivial, rfl⟩)) (rfl : _ = AV.ptr 0 0 0) (rfl : _ = [_]) rfl rfl rfl ?_
 first | refine z_B 1 [_, _] ?_ | refine sn (a_box rfl rfl (.inr ⟨trivial, rfl⟩)) (rfl : _ = AV.ptr 1 0 0) (rfl : _ = [_, _]) rfl rfl rfl ?_
 refine z_p ?_
 refine WL.nil ?_
 refine W.seq (W.seq (W.region ?_))
 first | refine z_f ?_ | refine z_g ?_
 first | refine z_l ?_ | refine z_r ?_
 first | refine z_n ?_ | refine z_m ?_ | refine z_k ?_
 first | refine z_f ?_ | refine z_g ?_
 first | refine z_l ?_ | refine z_r ?_
 first | refine z_n ?_ | refine z_m ?_ | refine z_k ?_
 refine z_c (cmpI_spec a.length b.length) ?_
 refine z_p ?_
 refine WL.nil ?_
 by_cases hne : a.length = b.length
 ·have hz : cmpZ a.length b.length = 0 := by rw [hne]; simp [cmpZ]
  rw [hz]
  refine W.seq (W.region ?_)
  refine z_p ?_
  refine sp (v_is false rfl rfl rfl rfl rfl) rfl rfl rfl ?_
  refine WL.nil ?_
  refine W.cond_false rfl (W.skip ?_)
  refine W.seq (W.seq (W.region ?_))
  first | refine z_f ?_ | refine z_g ?_
  first | refine z_l ?_ | refine z_r ?_
  first | refine z_n ?_ | refine z_m ?_ | refine z_k ?_
  refine z_i ?_
  refine z_p ?_
  refine WL.nil ?_
  refine W.block ?_
  refine W.while (fun m st => ∃ i : Int, -1 ≤ i ∧ i < a.length ∧ m = (i + 1).toNat ∧ a.drop (i + 1).toNat = b.drop (i + 1).toNat ∧ st = ⟨[(2, .ptr 0 0 0), (3, .ptr 1 0 0), (6, .int .i64 i)], [.cells [.row (u64AV a) a.length] 0 1 false none, .cells [.row (u64AV b) b.length] 0 1 false none]⟩) a.length
   ⟨(a.length : Int) - 1, by omega, by omega, by omega, by rw [List.drop_of_length_le (by omega), List.drop_of_length_le (by omega)], rfl⟩ (by refine ⟨?_, ?_, rfl, Nat.le_of_ble_eq_true rfl⟩ <;> repeat (first | exact trivial | exact rfl | refine ⟨rfl, ?_⟩ | refine ⟨.inr ⟨rfl, ?_⟩, ?_⟩ | refine ⟨.inl rfl, ?_⟩)) ?_
  rintro m _ ⟨i, hi0, hi1, rfl, hd, rfl⟩
  by_cases hp : i ≥ 0
  ·obtain ⟨j, rfl⟩ : ∃ j : Nat, i = j := ⟨i.toNat, by omega⟩
   have hja : j < a.length := by omega
   have hjb : j < b.length := by omega
   have hna := u64AV_ne hja
   have hnb := u64AV_ne hjb
   rw [show ((j : Int) + 1).toNat = j + 1 by omega] at hd
   refine W.seq (W.seq (W.region ?_))
   refine z_p ?_
   refine z_T hp ?_
   refine WL.nil ?_
   refine W.cond_true rfl (W.skip ?_)
   refine W.seq (W.block ?_)
   refine W.seq (W.drawnR mixed [26, 27, 28, 29, 30, 31, 32, 33, 34, 35] (by kernel_rfl) ?_)
   apply DrawFrom.stepR
   ·intro more
    first | refine z_f ?_ | refine z_g ?_
    exact z_e
   apply DrawFrom.stepR
   ·intro more
    first | refine z_l ?_ | refine z_r ?_
    exact z_e
   apply DrawFrom.stepR
   ·intro more
    refine z_p ?_
    exact z_e
   apply DrawFrom.stepR
   ·intro more
    refine sp (v_indexAddr_row rfl rfl rfl rfl rfl rfl (by omega) (by omega) hna) rfl rfl rfl ?_
    exact z_e
   apply DrawFrom.stepR
   ·intro more
    refine sp (v_load_radr rfl rfl rfl (loadc_at rfl (Nat.mul_one _) (u64AV_get hja))) rfl rfl rfl ?_
    exact z_e
   apply DrawFrom.stepR
   ·intro more
    first | refine z_f ?_ | refine z_g ?_
    exact z_e
   apply DrawFrom.stepR
   ·intro more
    first | refine z_l ?_ | refine z_r ?_
    exact z_e
   apply DrawFrom.stepR
   ·intro more
    refine z_p ?_
    exact z_e
   apply DrawFrom.stepR
   ·intro more
    refine sp (v_indexAddr_row rfl rfl rfl rfl rfl rfl (by omega) (by omega) hnb) rfl rfl rfl ?_
    exact z_e
   apply DrawFrom.stepR
   ·intro more
    refine sp (v_load_radr rfl rfl rfl (loadc_at rfl (Nat.mul_one _) (u64AV_get hjb))) rfl rfl rfl ?_
    exact z_e
   refine DrawFrom.doneR (rfl : _ = (_, _) :: (_, _) :: (_, _) :: (_, _) :: (_, _) :: (_, _) :: (_, _) :: (_, _) :: (_, _) :: (_, _) :: _) ?_
   refine z_c (cmpU_spec a[j] b[j]) ?_
   refine z_p ?_
   refine WL.nil ?_
   rcases Nat.lt_trichotomy a[j] b[j] with h | h | h
   ·have hz : cmpZ a[j] b[j] = -1 := by simp only [cmpZ]; rw [if_pos (by omega)]
    have hv := digit_lt ha.1 hb.1 j hja hjb hd h
    rw [hz]
    refine W.seq (W.region ?_)
    refine z_p ?_
    refine sp (v_is true rfl rfl rfl rfl rfl) rfl rfl rfl ?_
    refine WL.nil ?_
    refine W.cond_true rfl ?_
    refine W.seq (W.region ?_)
    refine z_p ?_
    refine z_p ?_
    refine WL.nil ?_
    refine W.ret (fin rfl (.shut (.plain rfl) .nil) (congrArg (AV.int .i64) ?_))
    simp only [cmpN, cmpZ]; rw [if_pos (by omega)]
   ·have hz : cmpZ a[j] b[j] = 0 := by simp only [cmpZ]; rw [if_neg (by omega), if_neg (by omega)]
    rw [hz]
    refine W.seq (W.region ?_)
    refine z_p ?_
    refine sp (v_is false rfl rfl rfl rfl rfl) rfl rfl rfl ?_
    refine WL.nil ?_
    refine W.cond_false rfl (W.skip ?_)
    refine W.region ?_
    refine z_p ?_
    refine z_i ?_
    refine z_p ?_
    refine WL.nil ?_
    refine ⟨j, _, _, by omega, ⟨(j : Int) - 1, by omega, by omega, by omega, ?_, rfl⟩, (by refine ⟨?_, ?_, rfl, Nat.le_of_ble_eq_true rfl⟩ <;> repeat (first | exact trivial | exact rfl | refine ⟨rfl, ?_⟩ | refine ⟨.inr ⟨rfl, ?_⟩, ?_⟩ | refine ⟨.inl rfl, ?_⟩))⟩
    rw [show ((j : Int) - 1 + 1).toNat = j by omega, List.drop_eq_getElem_cons hja, List.drop_eq_getElem_cons hjb, h, hd]
   ·have hz : cmpZ a[j] b[j] = 1 := by simp only [cmpZ]; rw [if_neg (by omega), if_pos (by omega)]
    have hv := digit_lt hb.1 ha.1 j hjb hja hd.symm h
    rw [hz]
    refine W.seq (W.region ?_)
    refine z_p ?_
    refine sp (v_is true rfl rfl rfl rfl rfl) rfl rfl rfl ?_
    refine WL.nil ?_
    refine W.cond_true rfl ?_
    refine W.seq (W.region ?_)
    refine z_p ?_
    refine z_p ?_
    refine WL.nil ?_
    refine W.ret (fin rfl (.shut (.plain rfl) .nil) (congrArg (AV.int .i64) ?_))
    simp only [cmpN, cmpZ]; rw [if_neg (by omega), if_pos (by omega)]
  ·have hi : i = -1 := by omega
   subst hi
   have hab : a = b := by simpa using hd
   refine W.seq (W.seq (W.region ?_))
   refine z_p ?_
   refine z_F hp ?_
   refine WL.nil ?_
   refine W.cond_false rfl (W.exit ?_)
   refine W.seq (W.region ?_)
   refine z_p ?_
   refine WL.nil ?_
   refine W.ret (fin rfl (.shut (.plain rfl) .nil) (congrArg (AV.int .i64) ?_))
   rw [hab]; simp [cmpN, cmpZ]
 ·rcases Nat.lt_or_gt_of_ne hne with h | h
  ·have hz : cmpZ a.length b.length = -1 := by simp only [cmpZ]; rw [if_pos (by omega)]
   have hv := len_lt ha hb h
   rw [hz]
   refine W.seq (W.region ?_)
   refine z_p ?_
   refine sp (v_is true rfl rfl rfl rfl rfl) rfl rfl rfl ?_
   refine WL.nil ?_
   refine W.cond_true rfl ?_
   refine W.seq (W.region ?_)
   refine z_p ?_
   refine z_p ?_
   refine WL.nil ?_
   refine W.ret (fin rfl (.shut (.plain rfl) .nil) (congrArg (AV.int .i64) ?_))
   simp only [cmpN, cmpZ]; rw [if_pos (by omega)]
  ·have hz : cmpZ a.length b.length = 1 := by simp only [cmpZ]; rw [if_neg (by omega), if_pos (by omega)]
   have hv := len_lt hb ha h
   rw [hz]
   refine W.seq (W.region ?_)
   refine z_p ?_
   refine sp (v_is true rfl rfl rfl rfl rfl) rfl rfl rfl ?_
   refine WL.nil ?_
   refine W.cond_true rfl ?_
   refine W.seq (W.region ?_)
   refine z_p ?_
   refine z_p ?_
   refine WL.nil ?_
   refine W.ret (fin rfl (.shut (.plain rfl) .nil) (congrArg (AV.int .i64) ?_))
   simp only [cmpN, cmpZ]; rw [if_neg (by omega), if_pos (by omega)]
/-- of numbers -/
def Lim (x : Nat) : Prop := (digs LB x).length ≤ 1000000
theorem Lim.of_le {x y : Nat} (h : Lim y) (hxy : x ≤ y) : Lim x := by
 have h1 := digs_val (B := LB) (by decide) y
 have h2 := val_lt (digs_canon (B := LB) (by decide) y).1
 rw [h1] at h2
 exact Nat.le_trans (digs_length (by decide) (Nat.lt_of_le_of_lt hxy h2)) h
theorem cmp_spec (x y : Nat) (hx : Lim x) (hy : Lim y) : Does Tryz.prog 121 [natAV x, natAV y] (.int .i64 (cmpN x y)) := by
 have := cmp_specL (digs LB x) (digs LB y) (digs_canon (by decide) x) (digs_canon (by decide) y) hx hy
 rwa [digs_val (by decide), digs_val (by decide)] at this
theorem sub64_ext (x y c : Nat) (hc : c ≤ 1) : Ext Tryz.prog 145 [.int .u64 x, .int .u64 y, .int .u64 c] (.tup [.int .u64 ((x + 18446744073709551616 - y - c) % 18446744073709551616 : Nat), .int .u64 (if x < y + c then 1 else 0 : Nat)]) :=
 Ext.of Tryz.func145 (by kernel_rfl) (by kernel_rfl) (by kernel_rfl) (show Extern.find Tryz.f145 = some (Extern.MathBitsCarry.rows[1]'(by decide)).2 by kernel_rfl) (sub64_row x y c hc)
theorem sub_no (x y : Nat) (hx : Lim x) (hy : Lim y) (h : x < y) : Does Tryz.prog 120 [natAV x, natAV y] (.tup [natRow [], .bool false]) := by
 have hc := cmp_spec x y hx hy
 have hz : cmpN x y = -1 := by simp only [cmpN, cmpZ]; rw [if_pos (by omega)]
 rw [hz] at hc
 refine does tab_ok Tryz.func120 rfl rfl rfl rfl rfl fun w0 H0 hk hj => ?_
 refine W.seq (W.region ?_)
 first | refine z_B 0 [_] ?_ | refine sn (a_box rfl rfl (.inr ⟨trivial, rfl⟩)) (rfl : _ = AV.ptr 0 0 0) (rfl : _ = [_]) rfl rfl rfl ?_
 first | refine z_B 1 [_, _] ?_ | refine sn (a_box rfl rfl (.inr ⟨trivial, rfl⟩)) (rfl : _ = AV.ptr 1 0 0) (rfl : _ = [_, _]) rfl rfl rfl ?_
 refine z_a 2 [_, _, _] ?_
 refine z_p ?_
 refine WL.nil ?_
 refine W.seq (W.seq (W.region ?_))
 first | refine z_l1 ?_ | refine z_r1 ?_
 first | refine z_l1 ?_ | refine z_r1 ?_
 refine z_c (hc) ?_
 refine z_T (show (-1 : Int) < 0 by decide) ?_
 refine WL.nil ?_
 refine W.cond_true rfl ?_
 refine W.seq (W.region ?_)
 refine sq (v_build rfl rfl rfl rfl rfl rfl rfl) (rfl : _ = AV.agg [_]) rfl rfl rfl ?_
 refine WL.sub 13 rfl natRow_nils ?_
 refine z_s [_, _, _] ?_
 refine z_p ?_
 refine WL.nil ?_
 exact W.ret (fin (cs := [natRow [], .bool false]) rfl (.shut (.plain (natRow_plain _)) (.shut (.plain rfl) .nil)) rfl)
theorem sub_ok (x y : Nat) (hx : Lim x) (h : y ≤ x) : Does Tryz.prog 120 [natAV x, natAV y] (.tup [natAV (x - y), .bool true]) := by
 have hy := hx.of_le h
 have hc := cmp_spec x y hx hy
 have hz : ¬ cmpN x y < 0 := by simp only [cmpN, cmpZ]; rw [if_neg (by omega)]; split <;> decide
 obtain ⟨a, hae⟩ : ∃ a, a = digs LB x := ⟨_, rfl⟩
 obtain ⟨b, hbe⟩ : ∃ b, b = digs LB y := ⟨_, rfl⟩
 have ha : Small LB a := hae ▸ (digs_canon (by decide) x).1
 have hb : Small LB b := hbe ▸ (digs_canon (by decide) y).1
 have hva : val LB a = x := by rw [hae, digs_val (by decide)]
 have hvb : val LB b = y := by rw [hbe, digs_val (by decide)]
 have hlim : a.length ≤ 1000000 := hae ▸ hx
 have hlen : b.length ≤ a.length := by
  rcases Nat.lt_or_ge a.length b.length with hlt | hge
  ·have := len_lt (hae ▸ digs_canon (by decide) x) (hbe ▸ digs_canon (by decide) y) hlt
   omega
  ·exact hge
 obtain ⟨N, hN⟩ : ∃ N, N = a.length := ⟨_, rfl⟩
 simp only [natAV] at hc
 rw [← hae, ← hbe] at hc
 simp only [natAV]
 rw [← hae, ← hbe]
 refine does tab_ok Tryz.func120 rfl rfl rfl rfl rfl fun w0 H0 hk hj => ?_
 refine W.seq (W.region ?_)
 first | refine z_B 0 [_] ?_ | refine sn (a_box rfl rfl (.inr ⟨trivial, rfl⟩)) (rfl : _ = AV.ptr 0 0 0) (rfl : _ = [_]) rfl rfl rfl ?_
 first | refine z_B 1 [_, _] ?_ | refine sn (a_box rfl rfl (.inr ⟨trivial, rfl⟩)) (rfl : _ = AV.ptr 1 0 0) (rfl : _ = [_, _]) rfl rfl rfl ?_
 refine z_a 2 [_, _, _] ?_
 refine z_p ?_
 refine WL.nil ?_
 refine W.seq (W.seq (W.region ?_))
 first | refine z_l1 ?_ | refine z_r1 ?_
 first | refine z_l1 ?_ | refine z_r1 ?_
 refine z_c (hc) ?_
 refine z_F hz ?_
 refine WL.nil ?_
 refine W.cond_false rfl (W.skip ?_)
 refine W.seq (W.region ?_)
 first | refine z_f ?_ | refine z_g ?_
 first | refine z_l ?_ | refine z_r ?_
 first | refine z_n ?_ | refine z_m ?_ | refine z_k ?_
 refine sn (a_make64 N rfl rfl rfl (by omega) rfl rfl rfl rfl rfl rfl (by omega)) (rfl : _ = AV.sl 3 0 0 N true) (rfl : _ = [_, _, _, _]) rfl rfl rfl ?_
 refine z_p ?_
 refine WL.nil ?_
 refine W.seq (W.region ?_)
 refine z_p ?_
 refine WL.nil ?_
 refine W.seq (W.seq (W.region ?_))
 refine z_p ?_
 first | refine z_n ?_ | refine z_m ?_ | refine z_k ?_
 refine z_p ?_
 refine WL.nil ?_
 refine W.block ?_
 refine W.while (fun m st => ∃ (i : Nat) (pre : List Nat) (c : Nat), i ≤ N ∧ m = N - i ∧ pre.length = i ∧ Small LB pre ∧ c ≤ 1 ∧ val LB pre + pv LB b i = pv LB a i + LB ^ i * c ∧
  st = ⟨[(2, .ptr 0 0 0), (3, .ptr 1 0 0), (4, .ptr 2 0 0), (6, .sl 3 0 0 N true), (7, .int .u64 c), (19, .int .i64 N), (20, .int .i64 i)],
   [.cells [.row (u64AV a) a.length] 0 1 false none, .cells [.row (u64AV b) b.length] 0 1 false none, .cells [.nils] 0 1 false none, .cells (u64AV (pre ++ List.replicate (N - i) 0)) 0 1 true (some 74)]⟩) N
  ⟨0, [], 0, by omega, by omega, rfl, fun x hx => (by cases hx), by omega, by simp [pv, val], rfl⟩ (by refine ⟨?_, ?_, rfl, Nat.le_of_ble_eq_true rfl⟩ <;> repeat (first | exact trivial | exact rfl | refine ⟨rfl, ?_⟩ | refine ⟨.inr ⟨rfl, ?_⟩, ?_⟩ | refine ⟨.inl rfl, ?_⟩)) ?_
 rintro m _ ⟨i, pre, c, hi, rfl, hpl, hps, hcc, hv, rfl⟩
 by_cases hlt : i < N
 ·have hset : ∀ x : Nat, (u64AV (pre ++ List.replicate (N - i) 0)).set (0 + (i : Int).toNat * 1) (.int .u64 x) = u64AV ((pre ++ [x]) ++ List.replicate (N - (i + 1)) 0) := fun x => by
   rw [show N - i = N - (i + 1) + 1 by omega]
   exact u64AV_set pre 0 _ x _ (by simp [hpl])
  have hia : i < a.length := by omega
  have hna := u64AV_ne hia
  refine W.seq (W.region ?_)
  refine z_T (show (i : Int) < N by omega) ?_
  refine WL.nil ?_
  refine W.seq (W.cond_true rfl (W.skip ?_))
  refine W.seq (W.block ?_)
  refine W.seq (W.region ?_)
  refine z_p ?_
  refine z_p ?_
  refine WL.nil ?_
  refine W.middle mixed [24, 25, 26, 27, 28, 29, 30, 31, 32, 33, 34, 35, 23, 36, 37, 38] [14] [0, 1, 2, 3, 4, 5, 6, 7, 8, 9, 10, 11, 12, 13, 15] 1 rfl rfl rfl rfl rfl rfl ?_
  apply MidV.step
  ·intro more
   refine z_p ?_
   exact z_e
  apply MidV.step
  ·intro more
   refine z_p ?_
   exact z_e
  apply MidV.step
  ·intro more
   first | refine z_f ?_ | refine z_g ?_
   exact z_e
  apply MidV.step
  ·intro more
   first | refine z_l ?_ | refine z_r ?_
   exact z_e
  apply MidV.step
  ·intro more
   refine z_p ?_
   exact z_e
  apply MidV.step
  ·intro more
   refine sp (v_indexAddr_row rfl rfl rfl rfl rfl rfl (by omega) (by omega) hna) rfl rfl rfl ?_
   exact z_e
  apply MidV.step
  ·intro more
   refine sp (v_load_radr rfl rfl rfl (loadc_at rfl (Nat.mul_one _) (u64AV_get hia))) rfl rfl rfl ?_
   exact z_e
  apply MidV.step
  ·intro more
   first | refine z_l1 ?_ | refine z_r1 ?_
   exact z_e
  apply MidV.step
  ·intro more
   refine z_p ?_
   exact z_e
  apply MidV.step
  ·intro more
   refine z_c (limb_spec b i (by omega) (by omega) (by omega)) ?_
   exact z_e
  apply MidV.step
  ·intro more
   refine z_p ?_
   exact z_e
  apply MidV.step
  ·intro more
   refine sp (v_ext (sub64_ext _ _ c hcc) rfl rfl rfl) rfl rfl rfl ?_
   exact z_e
  apply MidV.step
  ·intro more
   refine z_p ?_
   exact z_e
  apply MidV.step
  ·intro more
   refine z_p ?_
   exact z_e
  apply MidV.step
  ·intro more
   first | refine sp (v_indexAddr rfl rfl rfl rfl rfl rfl rfl (by omega) (by omega)) rfl rfl rfl ?_ | refine sp (v_indexAddr_row rfl rfl rfl rfl rfl rfl (by omega) (by omega) (by assumption)) rfl rfl rfl ?_
   exact z_e
  refine MidV.done ?_
  apply MidM.eff rfl
  ·intro more
   refine ss (a_store1 rfl rfl rfl rfl trivial (fun _ => rfl) rfl rfl (by simp [u64AV]; omega)) (Eq.trans (rfl : _ = [_, _, _, _]) (congrArg (fun q => [_, _, _, AObj.cells q 0 1 true (some 74)]) (hset _))) rfl rfl ?_
   exact z_e
  refine MidM.done ?_
  apply MidF.step
  ·refine ⟨fun more => ?_, fun more => ?_, trivial⟩
   refine z_p ?_
   exact z_e
   refine z_p ?_
   exact z_e
  refine MidF.done ?_
  refine z_p ?_
  refine WL.nil ?_
  refine W.region ?_
  refine z_i ?_
  refine z_p ?_
  refine WL.nil ?_
  have h1 : a[i] < LB := ha _ (List.getElem_mem hia)
  have h2 := small_getD hb i
  have hga : a.getD i 0 = a[i] := by simp [List.getD, hia]
  refine ⟨N - (i + 1), _, _, by omega, ⟨i + 1, pre ++ [(a[i] + 18446744073709551616 - b.getD i 0 - c) % 18446744073709551616], (if a[i] < b.getD i 0 + c then 1 else 0), by omega, rfl, by simp [hpl], ?_, ?_, ?_, rfl⟩, (by refine ⟨?_, ?_, rfl, Nat.le_of_ble_eq_true rfl⟩ <;> repeat (first | exact trivial | exact rfl | refine ⟨rfl, ?_⟩ | refine ⟨.inr ⟨rfl, ?_⟩, ?_⟩ | refine ⟨.inl rfl, ?_⟩))⟩
  ·intro x hx
   rcases List.mem_append.1 hx with hx | hx
   ·exact hps x hx
   ·simp at hx; subst hx; exact Nat.mod_lt _ (by decide)
  ·split <;> omega
  ·rw [val_snoc, pv_succ, pv_succ, hpl, Nat.pow_succ, hga]
   simp only [LB] at h1 h2
   have h3 : (a[i] + 18446744073709551616 - b.getD i 0 - c) % 18446744073709551616 + b.getD i 0 + c = a[i] + 18446744073709551616 * (if a[i] < b.getD i 0 + c then 1 else 0) := by
    split <;> omega
   generalize (a[i] + 18446744073709551616 - b.getD i 0 - c) % 18446744073709551616 = x at h3 ⊢
   generalize (if a[i] < b.getD i 0 + c then 1 else 0) = y at h3 ⊢
   have h4 : LB ^ i * x + LB ^ i * b.getD i 0 + LB ^ i * c = LB ^ i * a[i] + LB ^ i * LB * y := by
    rw [Nat.mul_assoc, ← Nat.mul_add, ← Nat.mul_add, ← Nat.mul_add]
    exact congrArg _ h3
   omega
 ·have hiN : i = N := by omega
  have hlt' : ¬ (i : Int) < N := by omega
  subst hiN
  rw [pv_all LB (show a.length ≤ i by omega), pv_all LB (show b.length ≤ i by omega), hva, hvb] at hv
  have hc0 : c = 0 := by
   have := val_lt hps
   rw [hpl] at this
   rcases (show c = 0 ∨ c = 1 by omega) with h | h
   ·exact h
   ·subst h; omega
  have hs : Does Tryz.prog 29 [.row (u64AV pre) pre.length] (natAV (x - y)) := by
   have := trimmed_spec pre (by omega)
   rw [trim_digs (B := LB) (by decide) hps, show val LB pre = x - y by rw [hc0] at hv; omega] at this
   exact this
  refine W.seq (W.region ?_)
  refine z_F hlt' ?_
  refine WL.nil ?_
  refine W.seq (W.cond_false rfl (W.exit ?_))
  refine W.seq (W.region ?_)
  refine z_p ?_
  refine sk hs rfl rfl rfl rfl (.lend rfl (by simp [u64AV]; omega) .nil) (by rw [hpl]; simp [u64AV, List.take_of_length_le, hpl]) (natRow_plain _) (one_mine rfl) rfl rfl rfl rfl ?_
  refine z_s [_, _, _, _] ?_
  refine z_p ?_
  refine WL.nil ?_
  exact W.ret (fin (cs := [natAV (x - y), .bool true]) rfl (.shut (.plain (natRow_plain _)) (.shut (.plain rfl) .nil)) rfl)
end Go.Proofs.YtejpblopbdgkaaaGreatDoor

set_option linter.unusedVariables false
set_option linter.unusedSimpArgs false
namespace Go.Lens
open Go Go.RowKit
def bytesAV (s : List UInt8) : List AV := s.map fun c => .int .u8 c.toNat
theorem bytesAV_length (s : List UInt8) : (bytesAV s).length = s.length := by simp [bytesAV]
theorem bytesAV_append (s t : List UInt8) : bytesAV (s ++ t) = bytesAV s ++ bytesAV t := by simp [bytesAV]
@[simp] theorem bytesAV_plain (l : List UInt8) : plainL (bytesAV l) = true := by
  induction l with
  | nil => rfl
  | cons x l ih => simp only [bytesAV, List.map_cons, plainL, AV.plain, Bool.true_and]; exact ih
def byteVals (s : List UInt8) : List Value := s.map fun c => Value.int .u8 c.toNat
theorem bytes_rel {w : World} {H : View} : ∀ {s : List UInt8} {vs : List Value}, RelL w (bytesAV s) H vs ↔ vs = byteVals s
 | [], vs => by simp [bytesAV, byteVals, RelL]
 | c :: s, vs => by
  simp only [bytesAV, byteVals, List.map_cons, RelL]
  constructor
  ·rintro ⟨v, vs', rfl, h1, h2⟩
   simp only [RelV] at h1
   rw [h1, (bytes_rel (s := s)).1 h2]; rfl
  ·rintro rfl
   exact ⟨_, _, rfl, rfl, (bytes_rel (s := s)).2 rfl⟩
/-! ### pointers -/
theorem v_isnil_nilp {C : Ctx} {o : Oper} {st : St} {t t' e : TypeId} {x : Operand} {y : Ty} (hop : o.op = .binOp .eql t x (.const (.pointer none)) t')
  (hx : ev st x = some .nilp) (hy : C.T.at t = some y) (hk : y.k = .pointer e) : VStep C o st (.bool true) st.objs := by
 refine VStep.of_pure fun H a w hi => ?_
 obtain ⟨d, i, hdd, _, hkd, _⟩ := C.ty hy
 rw [hk] at hkd
 obtain rfl := kOf_pointer hkd
 have h1 := ev_rel hi hx
 simp only [RelV] at h1
 refine ⟨.bool true, ?_, rfl⟩
 have hc0 : a.eval (.const (.pointer none)) = .pointer none := rfl
 have hp : C.P.underlying t = some (.pointer (C.P.pointee t)) := by simp [Program.pointee, hdd]
 simp only [execOp, hop, h1, hc0, Sem.run_bind, eqGuard_at_pointer, Sem.run_pure, Result.andThen_ok, run_eql_pointer_nil w t none hp]
 rfl
theorem v_isnil_ptr {C : Ctx} {o : Oper} {st : St} {t t' e : TypeId} {x : Operand} {y : Ty} {ob ver i esz : Nat} {cs : List AV} {flat : Bool} {own : Option TypeId} (hop : o.op = .binOp .eql t x (.const (.pointer none)) t')
  (hx : ev st x = some (.ptr ob ver i)) (hob : st.objs[ob]? = some (.cells cs ver esz flat own)) (hy : C.T.at t = some y) (hk : y.k = .pointer e) : VStep C o st (.bool false) st.objs := by
 refine VStep.of_pure fun H a w hi => ?_
 obtain ⟨d, i', hdd, _, hkd, _⟩ := C.ty hy
 rw [hk] at hkd
 obtain rfl := kOf_pointer hkd
 obtain ⟨_, _, hp0⟩ := ev_rel hi hx
 have h1 := hp0 (hi.objs.rel ob _ hob).1
 refine ⟨.bool false, ?_, rfl⟩
 have hc0 : a.eval (.const (.pointer none)) = .pointer none := rfl
 have hp : C.P.underlying t = some (.pointer (C.P.pointee t)) := by simp [Program.pointee, hdd]
 simp only [execOp, hop, h1, hc0, Sem.run_bind, eqGuard_at_pointer, Sem.run_pure, Result.andThen_ok, run_eql_pointer_nil w t _ hp]
 rfl
theorem v_same_ptr {C : Ctx} {o : Oper} {st : St} {t t' e : TypeId} {x x' : Operand} {y ye : Ty} {ob ver i esz : Nat} {cs : List AV} {flat : Bool} {own : Option TypeId} (hop : o.op = .binOp .neq t x x' t')
  (hx : ev st x = some (.ptr ob ver i)) (hx' : ev st x' = some (.ptr ob ver i)) (hob : st.objs[ob]? = some (.cells cs ver esz flat own)) (hy : C.T.at t = some y) (hk : y.k = .pointer e) (hye : C.T.at e = some ye) : VStep C o st (.bool false) st.objs := by
 refine VStep.of_pure fun H a w hi => ?_
 obtain ⟨d, i', hdd, _, hkd, _⟩ := C.ty hy
 rw [hk] at hkd
 obtain rfl := kOf_pointer hkd
 obtain ⟨_, ie, _, hie, _⟩ := C.ty hye
 obtain ⟨_, _, hp0⟩ := ev_rel hi hx
 obtain ⟨_, _, hp1⟩ := ev_rel hi hx'
 have h1 := hp0 (hi.objs.rel ob _ hob).1
 have h2 := hp1 (hi.objs.rel ob _ hob).1
 refine ⟨.bool false, ?_, rfl⟩
 simp only [execOp, hop, h1, h2, Sem.run_bind, eqGuard_at_pointer, Sem.run_pure, Result.andThen_ok, Lib.run_neq_ptr_same w _ hdd hie]
theorem liesAt_self {P : Program} {e : TypeId} {s : Nat} (hc : P.cellsOf e = s) (hs : 0 < s) (count : Nat) (hn : 1 ≤ count) : liesAt P P.depth e count 0 e 1 = true := by
 have hd : P.depth = (2 * (P.types.size + Made.depth) + 1) + 1 := rfl
 rw [hd]
 simp only [liesAt, Bool.or_eq_true]
 left
 rw [hd]
 have : s ≠ 0 := by omega
 simp [rowAt, hc, hn, sameLayout, this]
/-- a variable whose block's type is known -/
theorem v_allocT {C : Ctx} {o : Oper} {env : List (Nat × AV)} {objs : List AObj} {t : TypeId} {y : Ty} {z : List Value} {ds : List AV} (hop : o.op = .alloc t) (hy : C.T.at t = some y) (hz : y.zero = some z) (hd : ofVals z = some ds) (hzl : z.length = y.size) :
  VStep C o ⟨env, objs⟩ (.ptr objs.length 0 0) (objs ++ [.cells ds 0 y.size false (some t)]) := by
 intro H a w hi
 obtain ⟨v, hv, hc⟩ := run_zeroValue hy hz w
 refine ⟨_, w.alloc (.cells z.toArray t), H.add w.heap.size 1, ?_, hi.newCells t y.size 1 false (some t) _ (ofVals_rel hd) (fun j u hu => by simpa using hu) (fun t' h => ?_), new_ptr hi _ 1⟩
 ·simp [execOp, hop, Instr.alloc, newVar, newRow, hv, hc]
 ·injection h with h
  exact ⟨h, by simp [hzl], by simp [maxLen], 1, by simp [hzl], Nat.le_refl _⟩
theorem v_to_unsafe {C : Ctx} {o : Oper} {env : List (Nat × AV)} {objs : List AObj} {s d e : TypeId} {x : Operand} {ys ye : Ty} {ob ver i esz : Nat} {cs : List AV} {flat : Bool} {own : Option TypeId} (hop : o.op = .convert s d x)
  (hx : ev ⟨env, objs⟩ x = some (.ptr ob ver i)) (hob : objs[ob]? = some (.cells cs ver esz flat own)) (hlt : i < cs.length) (hys : C.T.at s = some ys) (hk : ys.k = .pointer e) (hye : C.T.at e = some ye) (hsz : 0 < ye.size) (hd : C.P.underlying d = some .unsafePointer) :
  VStep C o ⟨env, objs⟩ (.ptr ob ver i) objs := by
 refine VStep.of_pure (st := ⟨env, objs⟩) fun H a w hi => ?_
 obtain ⟨dd, i', hdd, _, hkd, _⟩ := C.ty hys
 rw [hk] at hkd
 obtain rfl := kOf_pointer hkd
 obtain ⟨_, ie, _, hie, _, hss, _⟩ := C.ty hye
 obtain ⟨g1, g2, vs, c, e', g3, g4, g5, g6⟩ := hi.objs.rel ob _ hob
 have hr := ev_rel hi hx
 have h1 := hr.2.2 g1
 have hl := g4.length
 have hsh : w.shape? (H.blk ob) = some (e', c.size) := by simp [World.shape?, g3]
 have hoff : H.off ob + i < c.size := by
  have := g5 i vs[i] (by simp [show i < vs.length by omega])
  exact (Array.getElem?_eq_some_iff.1 this).1
 refine ⟨.pointer (some ⟨H.blk ob, H.off ob + i, none⟩), ?_, by rw [← h1]; exact hr⟩
 simp only [execOp, hop, h1, Sem.run_bind, Lib.run_to_unsafe w ⟨H.blk ob, H.off ob + i, none⟩ hdd hd hie (by rw [← hss]; omega) hsh hoff, Result.andThen_ok, Sem.run_pure]
theorem v_from_unsafe {C : Ctx} {o : Oper} {env : List (Nat × AV)} {objs : List AObj} {s d u : TypeId} {x : Operand} {yd yu : Ty} {ob ver esz : Nat} {cs : List AV} {flat : Bool} (hop : o.op = .convert s d x)
  (hx : ev ⟨env, objs⟩ x = some (.ptr ob ver 0)) (hob : objs[ob]? = some (.cells cs ver esz flat (some u))) (hlt : 0 < cs.length) (hs : C.P.underlying s = some .unsafePointer) (hyd : C.T.at d = some yd) (hk : yd.k = .pointer u) (hyu : C.T.at u = some yu) (hsz : yu.size = esz) (hpos : 0 < esz) :
  VStep C o ⟨env, objs⟩ (.ptr ob ver 0) objs := by
 refine VStep.of_pure (st := ⟨env, objs⟩) fun H a w hi => ?_
 obtain ⟨dd, i', hdd, _, hkd, _⟩ := C.ty hyd
 rw [hk] at hkd
 obtain rfl := kOf_pointer hkd
 obtain ⟨_, iu, _, hiu, _, hss, _⟩ := C.ty hyu
 obtain ⟨g1, g2, vs, c, e', g3, g4, g5, g6⟩ := hi.objs.rel ob _ hob
 obtain ⟨rfl, p2, p3, p4, N, p5, p6⟩ := g6 u rfl
 have hr := ev_rel hi hx
 have h1 := hr.2.2 g1
 have hl := g4.length
 have hcell : C.P.cellsOf e' = esz := by simp [Program.cellsOf, hiu, ← hss, hsz]
 have hN : 1 ≤ N := by
  rcases Nat.eq_zero_or_pos N with h | h
  ·subst h; omega
  ·exact h
 have hsh : w.shape? (H.blk ob) = some (e', c.size) := by simp [World.shape?, g3]
 have hcount : c.size / C.P.cellsOf e' = H.cap ob := by rw [hcell, p3, Nat.mul_div_cancel _ hpos]
 have hz : H.off ob + 0 = 0 := by omega
 refine ⟨.pointer (some ⟨H.blk ob, H.off ob + 0, none⟩), ?_, by rw [← h1]; exact hr⟩
 rw [hz] at h1 ⊢
 simp only [execOp, hop, h1, Sem.run_bind, Lib.run_from_unsafe w ⟨H.blk ob, 0, none⟩ hs hdd hiu hsh (by rw [hcount]; exact liesAt_self hcell hpos _ (by omega)), Result.andThen_ok, Sem.run_pure]
theorem noEscape_row {P : Program} {ob ver i : Nat} (H : View) (w : World) (vs : List Value) (h : RelL w [.ptr ob ver i] H vs) : ∃ v, (Extern.AbiNoEscape.same vs.toArray).run P w = .ok v w ∧ RelV w (.ptr ob ver i) H v := by
 obtain ⟨v, _, rfl, h1, rfl⟩ := h
 exact ⟨v, rfl, h1⟩
/-! ### a text behind bytes -/
theorem append_str_at {P : Program} (w : World) (base : Nat) (t u ty e : TypeId) (i : TypeInfo) (ht : P.underlying t = some (.slice e)) (hu : P.underlying u = some .string) (hi : P.info? e = some i) (hz : i.zero = some (.int .u8 0))
  (hsize : i.size = 1) (hby : i.bytes = 1) (v : Value) (n : Nat) (xs : List Value) (hown : w.ownsRow base e 1 v n xs) (s : ByteArray) (hbytes : n + s.size ≤ 140737488355328) (hbase : base ≤ w.heap.size) :
  ∃ v' w', (Builtin.append_ #[t, u] ty #[v, .string s]).run P w = .ok v' w' ∧ w'.ownsRow base e 1 v' (n + s.size) (xs ++ Lib.strCells s) ∧ w.grownBy w' v.ownBlock ∧
   (v' = .slice none 0 0 ↔ v = .slice none 0 0 ∧ s.size = 0) ∧ (v'.ownBlock = v.ownBlock ∨ v'.ownBlock = some w.heap.size) := by
 obtain ⟨v', w', r1, r2, r3, r4⟩ := Lib.run_append_own_string w base t u ty e i ht hu hi hz hsize hby v n xs hown s (by simp only [maxLen]; omega) hbytes hbase
 refine ⟨v', w', r1, r2, r3, r4, ?_⟩
 have hxl : xs.length = n := by simpa using hown.1
 rcases hown.2 with ⟨rfl, rfl⟩ | ⟨g, cap, cur, rfl, hbg, hg, hnc, hcm, hcs, htake⟩
 ·by_cases hm : s.size = 0
  ·rw [r4.2 ⟨rfl, hm⟩]; exact .inl rfl
  ·have hr := run_append_nil_string (P := P) w t u ty e i (.int .u8 0) ht hu hi hz s (by omega) (by omega) (by rw [hby]; omega)
   rw [hr] at r1
   injection r1 with h1 h2
   rw [← h1]; exact .inr rfl
 ·have hcs' : cur.size = cap := by simpa using hcs
  by_cases hroom : n + s.size ≤ cap
  ·have hr := Lib.run_append_room_string (P := P) w t u ty e i ht hu hi hsize g n cap cur hg s hroom (by omega)
   rw [hr] at r1
   injection r1 with h1 h2
   rw [← h1]; exact .inl rfl
  ·have hr := Lib.run_append_grow_string (P := P) w t u ty e i (.int .u8 0) ht hu hi hz ⟨g, 0, none⟩ n cap xs (by rw [hsize]; simpa using hxl) (hown.cells (g := g) rfl) s (by omega) (by omega) (by rw [hby]; exact growslice_fits (by omega) (by omega))
   rw [hr] at r1
   injection r1 with h1 h2
   rw [← h1]; exact .inr rfl
theorem strCells_of (s : List UInt8) : Lib.strCells ⟨s.toArray⟩ = byteVals s := by simp [Lib.strCells, byteVals]
theorem size_of (s : List UInt8) : (ByteArray.mk s.toArray).size = s.length := by simp [ByteArray.size]
/-- a row that has come to be, as an object -/
theorem new_row {C : Ctx} {H : View} {env : List (Nat × AV)} {objs : List AObj} {a : Act} {w w' : World} (hi : Inv C H ⟨env, objs⟩ a w) {e : TypeId} {esz m : Nat} {ds : List AV} {news : List Value} {v' : Value} (r2 : w'.ownsRow w.heap.size e esz v' m news) (r3 : w.grownBy w' none) (hm : 0 < m)
  (h3 : RelL w ds H.bare news) : ∃ H', Inv C H' ⟨env, objs ++ [.cells ds 0 esz true (some e)]⟩ a w' ∧ RelV w' (.sl objs.length 0 0 m true) H' v' := by
 obtain ⟨q1, q2⟩ := r2
 rcases q2 with ⟨rfl, q2⟩ | ⟨g, cp, cur, rfl, q3, q4, q5, q6, q7, q8⟩
 ·omega
 have hn := hi.objs.n
 have hn' : H.n = objs.length := hn
 let H' : View := { n := H.n + 1, blk := fun o => if o = H.n then g else H.blk o, off := fun o => if o = H.n then 0 else H.off o, cap := fun o => if o = H.n then cp else H.cap o, ver := fun o => if o = H.n then 0 else H.ver o, wr := fun b => H.wr b ∨ b = g }
 have hfr : ∀ b, b < w.heap.size → w'.heap[b]? = w.heap[b]? := fun b hb => r3.block b hb (by simp)
 have hgl : g < w'.heap.size := (Array.getElem?_eq_some_iff.1 q4).1
 have hK : Keeps w H w' H' := by
  refine ⟨fun ad u hc hx => ?_, fun b hb hw => ?_, Nat.le_succ _, fun o ho => ?_, fun o ho _ => ?_⟩
  ·rw [World.cell?_of_block (w := w) (hfr _ (World.block_lt_of_cell? w ad hc))]; exact hc
  ·rcases hw with hw | hw
   ·exact hw
   ·omega
  ·have : o ≠ H.n := by omega
   simp [H', this]
  ·have : o ≠ H.n := by omega
   simp [H', this]
 have hlive : ∀ i ob, objs[i]? = some ob → ob.live = true → H.blk i < w.heap.size := fun i ob h1 h2 => hi.objs.lt _ (hi.objs.wr_blk h1 h2)
 refine ⟨H', ?_, ?_⟩
 ·refine hi.move (objs' := objs ++ [.cells ds 0 esz true (some e)]) hK ⟨by simp [H', hn'], ?_, ?_, ?_⟩ ?_ (by have := hi.klen; simp at this ⊢; omega) ?_ ?_ ?_ ?_ ?_ r3.size r3.os r3.tape r3.output
  ·intro i' ob hob
   rcases get_snoc hob with ⟨hlt, hob⟩ | ⟨he, rfl⟩
   ·have hne : i' ≠ H.n := by omega
    by_cases hl : ob.live = true
    ·exact (hi.objs.rel i' ob hob).keeps hK (by simp [H', hne]) (by simp [H', hne]) (by simp [H', hne]) (by simp [H', hne]) (fun h => .inl h) (hfr _ (hlive i' ob hob hl))
    ·cases ob <;> first | trivial | (simp [AObj.live] at hl; done) | (have := hi.objs.rel i' _ hob; simpa [RelO, H', hne] using this)
   ·have he : i' = H.n := by omega
    subst he
    refine ⟨by simp [H'], by simp [H'], news, cur, e, by simpa [H'] using q4, ?_, ?_, ?_⟩
    ·exact h3.keeps ds hK.bare
    ·intro j u hu
     rw [← q8, List.getElem?_take] at hu
     split at hu
     ·simpa [H'] using hu
     ·cases hu
    ·intro t' ht'
     injection ht' with ht'
     exact ⟨ht', by simp [H'], by simpa [H'] using q7, by simpa [H'] using q6, m, q1, by simpa [H'] using q5⟩
  ·intro i1 i2 ob1 ob2 p1 p2 l1 l2 hbb'
   rcases get_snoc p1 with ⟨a1, b1⟩ | ⟨a1, b1⟩ <;> rcases get_snoc p2 with ⟨a2, b2⟩ | ⟨a2, b2⟩
   ·simp only [H', if_neg (show i1 ≠ H.n by omega), if_neg (show i2 ≠ H.n by omega)] at hbb'
    exact hi.objs.inj _ _ _ _ b1 b2 l1 l2 hbb'
   ·simp only [H', if_neg (show i1 ≠ H.n by omega), if_pos (show i2 = H.n by omega)] at hbb'
    have := hlive _ _ b1 l1; omega
   ·simp only [H', if_pos (show i1 = H.n by omega), if_neg (show i2 ≠ H.n by omega)] at hbb'
    have := hlive _ _ b2 l2; omega
   ·omega
  ·intro b hb
   rcases hb with hb | hb
   ·have := hi.objs.lt b hb; have := r3.size; omega
   ·omega
  ·intro b hb
   refine ⟨fun h => h.resolve_right (by have := hi.le; omega), .inl⟩
  ·intro x hx
   have := hi.klen
   have : x ≠ H.n := by simp at *; omega
   simp [H', this]
  ·intro x cs ver esz flat own hx hob
   have := hi.klen
   rw [List.getElem?_append_left (by simp at *; omega)] at hob
   exact hi.lens x cs ver esz flat own hx hob
  ·intro x hx
   exact Outside.of_eq (hfr _ (Nat.lt_of_lt_of_le (C.hk x hx) hi.le)) _ _
  ·intro i' ob hob hl
   rcases get_snoc hob with ⟨hlt, hob⟩ | ⟨he, rfl⟩
   ·simp only [H', if_neg (show i' ≠ H.n by omega)]
    exact hi.own i' ob hob hl
   ·simp only [H', if_pos (show i' = H.n by omega)]
    exact .inr (Nat.le_trans hi.le q3)
  ·intro b hb hM
   exact hfr b (Nat.lt_of_lt_of_le hb hi.le)
 ·refine ⟨by simp [H']; omega, by simp [H', hn'], fun _ => ⟨⟨g, 0, none⟩, cp, rfl, q5, fun _ => by simp [H', hn'], fun _ => ⟨by simp [H', hn'], rfl, by simp [H', hn']⟩⟩⟩
theorem v_append_str_nil {C : Ctx} {o : Oper} {env : List (Nat × AV)} {objs : List AObj} {sl x : Operand} {t u e : TypeId} {y yu ye : Ty} {s : List UInt8} (hop : o.op = .call { callee := .builtin .append, args := #[sl, x], argTypes := #[t, u] })
  (hs : ev ⟨env, objs⟩ sl = some .nils) (hx : ev ⟨env, objs⟩ x = some (.str s)) (hy : C.T.at t = some y) (hk : y.k = .slice e) (hyu : C.T.at u = some yu) (hku : yu.k = .string) (hye : C.T.at e = some ye) (hz : (C.P.info? e).bind (fun i => i.zero) = some (.int .u8 0)) (hsz : ye.size = 1) (hbb : ye.bytes = 1)
  (hne : s ≠ []) (hbytes : s.length ≤ 140737488355328) : VStep C o ⟨env, objs⟩ (.sl objs.length 0 0 s.length true) (objs ++ [.cells (bytesAV s) 0 1 true (some e)]) := by
 intro H a w hi
 have h1 := ev_rel hi hs
 have h2 := ev_rel hi hx
 simp only [RelV] at h1 h2
 obtain ⟨d, i, hd, _, hkd, _⟩ := C.ty hy
 rw [hk] at hkd
 obtain rfl := kOf_slice hkd
 obtain ⟨du, iu, hdu, _, hkdu, _⟩ := C.ty hyu
 rw [hku] at hkdu
 obtain rfl := kOf_string hkdu
 obtain ⟨de, ie, hde, hie, _, hss, hb2, hzz⟩ := C.ty hye
 have hz0' : ie.zero = some (.int .u8 0) := by
  rw [hie] at hz
  exact hz
 have hpos : 0 < s.length := List.length_pos_iff.2 hne
 obtain ⟨v', w', r1, r2, r3, r4, r5⟩ := append_str_at (P := C.P) w w.heap.size t u o.type e ie hd hdu hie hz0' (by rw [← hss, hsz]) (by rw [← hb2, hbb]) (.slice none 0 0) 0 [] (World.ownsRow_nil w _ e _) ⟨s.toArray⟩ (by rw [size_of]; omega) (Nat.le_refl _)
 rw [size_of, strCells_of, Nat.zero_add, List.nil_append] at r2
 obtain ⟨H', k1, k2⟩ := new_row hi (ds := bytesAV s) r2 (by simpa [Value.ownBlock] using r3) hpos (bytes_rel.2 rfl)
 refine ⟨v', w', H', ?_, k1, k2⟩
 simp only [execOp, hop, resolve, invoke, builtin, Sem.run_bind, Sem.run_pure, Result.andThen_ok, List.map_toArray, List.map_cons, List.map_nil, h1, h2, r1]
theorem v_append_str_own {C : Ctx} {o : Oper} {env : List (Nat × AV)} {objs : List AObj} {sl x : Operand} {t u e : TypeId} {y yu ye : Ty} {s s0 : List UInt8} {ob ver : Nat} (hop : o.op = .call { callee := .builtin .append, args := #[sl, x], argTypes := #[t, u] })
  (hs : ev ⟨env, objs⟩ sl = some (.sl ob ver 0 s0.length true)) (hob : objs[ob]? = some (.cells (bytesAV s0) ver 1 true (some e))) (hx : ev ⟨env, objs⟩ x = some (.str s)) (hy : C.T.at t = some y) (hk : y.k = .slice e) (hyu : C.T.at u = some yu) (hku : yu.k = .string)
  (hye : C.T.at e = some ye) (hz : (C.P.info? e).bind (fun i => i.zero) = some (.int .u8 0)) (hsz : ye.size = 1) (hbb : ye.bytes = 1) (hbytes : s0.length + s.length ≤ 140737488355328) :
  VStep C o ⟨env, objs⟩ (.sl ob (ver + 1) 0 (s0 ++ s).length true) (objs.set ob (.cells (bytesAV (s0 ++ s)) (ver + 1) 1 true (some e))) := by
 intro H a w hi
 have hx2 := ev_rel hi hx
 simp only [RelV] at hx2
 obtain ⟨g1, g2, vs, cc, e', g3, g4, g5, g6⟩ := hi.objs.rel ob _ hob
 obtain ⟨rfl, p2, p3, p4, N, p5, p6⟩ := g6 e rfl
 obtain ⟨o1, o2, o3⟩ := ev_rel hi hs
 obtain ⟨ad0, cap0, f1, f2, f3, f4⟩ := o3 g1
 obtain ⟨rfl, _, rfl⟩ := f4 rfl
 obtain ⟨d, i, hd, _, hkd, _⟩ := C.ty hy
 rw [hk] at hkd
 obtain rfl := kOf_slice hkd
 obtain ⟨du, iu, hdu, _, hkdu, _⟩ := C.ty hyu
 rw [hku] at hkdu
 obtain rfl := kOf_string hkdu
 obtain ⟨de, ie, hde, hie, _, hss, hb2, hzz⟩ := C.ty hye
 have hz0' : ie.zero = some (.int .u8 0) := by
  rw [hie] at hz
  exact hz
 obtain rfl := bytes_rel.1 g4
 have hlenv : (byteVals s0).length = s0.length := by simp [byteVals]
 have hown : w.ownsRow C.w0.heap.size e' 1 (.slice (some ⟨H.blk ob, 0, none⟩) s0.length (H.cap ob)) s0.length (byteVals s0) := by
  refine ⟨by omega, .inr ⟨H.blk ob, H.cap ob, cc, rfl, ?_, g3, f2, p4, p3, ?_⟩⟩
  ·rcases hi.own ob _ hob rfl with ⟨_, h⟩ | h
   ·cases h
   ·exact h
  ·apply List.ext_getElem?
   intro j
   rw [List.getElem?_take]
   split
   ·rename_i hj
    have hjv : j < (byteVals s0).length := by omega
    have := g5 j (byteVals s0)[j] (by simp [hjv])
    rw [p2, Nat.zero_add] at this
    rw [Array.getElem?_toList, this]; simp [hjv]
   ·rename_i hj
    rw [List.getElem?_eq_none (by omega)]
 obtain ⟨v', w', r1, r2, r3, r4, r5⟩ := append_str_at (P := C.P) w C.w0.heap.size t u o.type e' ie hd hdu hie hz0' (by rw [← hss, hsz]) (by rw [← hb2, hbb]) _ s0.length _ hown ⟨s.toArray⟩ (by rw [size_of]; omega) hi.le
 rw [size_of, strCells_of] at r2
 obtain ⟨q1, q2⟩ := r2
 rcases q2 with ⟨rfl, q2⟩ | ⟨g, cp, cur, rfl, q3, q4, q5, q6, q7, q8⟩
 ·have := (r4.1 rfl).1; simp at this
 have hgl : g < w'.heap.size := (Array.getElem?_eq_some_iff.1 q4).1
 let H' : View := { n := H.n, blk := fun o => if o = ob then g else H.blk o, off := fun o => if o = ob then 0 else H.off o, cap := fun o => if o = ob then cp else H.cap o, ver := fun o => if o = ob then ver + 1 else H.ver o, wr := fun b => H.wr b ∨ (b = g ∧ w.heap.size ≤ b) }
 have hobk : ¬ ob < C.k := by
  intro hlt
  rcases hi.own ob _ hob rfl with ⟨_, h⟩ | h
  ·cases h
  ·have := C.hk ob hlt
   rw [← (hi.byref ob hlt).1] at this; omega
 have hg : g = H.blk ob ∨ g = w.heap.size := by simpa [Value.ownBlock] using r5
 have hbl := hi.objs.lt _ g2
 have hwo : ∀ b, H'.wr b ↔ (H.wr b ∨ (b = H'.blk ob ∧ w.heap.size ≤ b)) := fun b => by simp [H']
 have hfr : ∀ b, b < w.heap.size → b ≠ H.blk ob → w'.heap[b]? = w.heap[b]? := fun b hb hne => r3.block b hb (by simpa [Value.ownBlock] using hne)
 have hlen2 : (s0 ++ s).length = s0.length + s.length := List.length_append
 refine ⟨.slice (some ⟨g, 0, none⟩) (s0.length + s.length) cp, w', H', ?_, ?_, ?_⟩
 ·simp only [execOp, hop, resolve, invoke, builtin, Sem.run_bind, Sem.run_pure, Result.andThen_ok, List.map_toArray, List.map_cons, List.map_nil, f1, hx2, r1]
 ·refine hi.write (ob := .cells (bytesAV s0) ver 1 true (some e')) (H' := H') hob rfl (fun h => rfl) ⟨rfl, fun x hx => ⟨by simp [H', hx], by simp [H', hx], by simp [H', hx], by simp [H', hx]⟩⟩ (.inr (by simp [H', g1])) ?_ (fun h => absurd h hobk) hwo hfr r3.size r3.os r3.tape r3.output ?_
  ·rcases hg with hg | hg
   ·exact .inl (by simp [H', hg])
   ·exact .inr ⟨by simp [H', hg], by simpa [H'] using hgl⟩
  ·refine ⟨by simp [H'], ?_, byteVals s0 ++ byteVals s, cur, e', by simpa [H'] using q4, ?_, ?_, ?_⟩
   ·rcases hg with hg | hg
    ·exact .inl (by simpa [H', hg] using g2)
    ·exact .inr ⟨by simp [H'], by simp [H', hg]⟩
   ·exact bytes_rel.2 (by simp [byteVals])
   ·intro j u hu
    rw [← q8, List.getElem?_take] at hu
    split at hu
    ·simpa [H'] using hu
    ·cases hu
   ·intro t' ht'
    injection ht' with ht'
    exact ⟨ht', by simp [H'], by simpa [H'] using q7, by simpa [H'] using q6, s0.length + s.length, q1, by simpa [H'] using q5⟩
 ·refine ⟨o1, by simp [H'], fun _ => ⟨⟨g, 0, none⟩, cp, by rw [hlen2], by rw [hlen2]; exact q5, fun _ => by simp [H'], fun _ => ⟨by simp [H'], rfl, by simp [H']⟩⟩⟩
/-! ### bytes as a text -/
theorem v_sdata {C : Ctx} {o : Oper} {env : List (Nat × AV)} {objs : List AObj} {x : Operand} {ts : Array TypeId} {ob ver off n esz : Nat} {full : Bool} {cs : List AV} {flat : Bool} {own : Option TypeId} (hop : o.op = .call { callee := .builtin .unsafeSliceData, args := #[x], argTypes := ts })
  (hx : ev ⟨env, objs⟩ x = some (.sl ob ver off n full)) (hob : objs[ob]? = some (.cells cs ver esz flat own)) (hn : 0 < n) : VStep C o ⟨env, objs⟩ (.ptr ob ver off) objs := by
 refine VStep.of_pure (st := ⟨env, objs⟩) fun H a w hi => ?_
 have g1 := (hi.objs.rel ob _ hob).1
 obtain ⟨o1, o2, o3⟩ := ev_rel hi hx
 obtain ⟨ad, c, f1, f2, f3, f4⟩ := o3 g1
 have f3 := f3 hn
 refine ⟨.pointer (some ad), ?_, o1, o2, fun _ => by rw [f3]⟩
 simp only [execOp, hop, resolve, invoke, builtin, Sem.run_bind, Sem.run_pure, Result.andThen_ok, List.map_toArray, List.map_cons, List.map_nil, f1, Lib.run_unsafeSliceData_row w ts o.type ad n c (by omega)]
theorem v_sdata_nil {C : Ctx} {o : Oper} {env : List (Nat × AV)} {objs : List AObj} {x : Operand} {ts : Array TypeId} (hop : o.op = .call { callee := .builtin .unsafeSliceData, args := #[x], argTypes := ts })
  (hx : ev ⟨env, objs⟩ x = some .nils) : VStep C o ⟨env, objs⟩ .nilp objs := by
 refine VStep.of_pure (st := ⟨env, objs⟩) fun H a w hi => ?_
 have h1 := ev_rel hi hx
 simp only [RelV] at h1
 refine ⟨.pointer none, ?_, rfl⟩
 simp only [execOp, hop, resolve, invoke, builtin, Sem.run_bind, Sem.run_pure, Result.andThen_ok, List.map_toArray, List.map_cons, List.map_nil, h1, Lib.run_unsafeSliceData_nil]
theorem v_ustr_nil {C : Ctx} {o : Oper} {env : List (Nat × AV)} {objs : List AObj} {x x' : Operand} {pt it : TypeId} (hop : o.op = .call { callee := .builtin .unsafeString, args := #[x, x'], argTypes := #[pt, it] })
  (hx : ev ⟨env, objs⟩ x = some .nilp) (hx' : ev ⟨env, objs⟩ x' = some (.int .i64 0)) : VStep C o ⟨env, objs⟩ (.str []) objs := by
 refine VStep.of_pure (st := ⟨env, objs⟩) fun H a w hi => ?_
 have h1 := ev_rel hi hx
 have h2 := ev_rel hi hx'
 simp only [RelV] at h1 h2
 refine ⟨.string .empty, ?_, rfl⟩
 simp only [execOp, hop, resolve, invoke, builtin, Sem.run_bind, Sem.run_pure, Result.andThen_ok, List.map_toArray, List.map_cons, List.map_nil, h1, h2, Lib.run_unsafeString_none w pt it o.type none]
/-- the bytes are a text's from now on: the object is given up -/
theorem v_ustr {C : Ctx} {o : Oper} {env : List (Nat × AV)} {objs : List AObj} {x x' : Operand} {pt it e : TypeId} {yp ye : Ty} {ob ver : Nat} {s : List UInt8} (hop : o.op = .call { callee := .builtin .unsafeString, args := #[x, x'], argTypes := #[pt, it] })
  (hx : ev ⟨env, objs⟩ x = some (.ptr ob ver 0)) (hx' : ev ⟨env, objs⟩ x' = some (.int .i64 s.length)) (hob : objs[ob]? = some (.cells (bytesAV s) ver 1 true (some e))) (hne : s ≠ []) (hyp : C.T.at pt = some yp) (hk : yp.k = .pointer e) (hye : C.T.at e = some ye) (hsz : ye.size = 1)
  (hlen : s.length ≤ 9223372036854775807) : VStep C o ⟨env, objs⟩ (.str s) (objs.set ob .dead) := by
 intro H a w hi
 obtain ⟨g1, g2, vs, cc, e', g3, g4, g5, g6⟩ := hi.objs.rel ob _ hob
 obtain ⟨rfl, p2, p3, p4, N, p5, p6⟩ := g6 e rfl
 obtain ⟨o1, o2, o3⟩ := ev_rel hi hx
 have h1 := o3 g1
 have h2 := ev_rel hi hx'
 simp only [RelV] at h2
 obtain rfl := bytes_rel.1 g4
 obtain ⟨d, i, hd, _, hkd, _⟩ := C.ty hyp
 rw [hk] at hkd
 obtain rfl := kOf_pointer hkd
 obtain ⟨de, ie, hde, hie, _, hss, _⟩ := C.ty hye
 have hcell : C.P.cellsOf e' = 1 := by simp [Program.cellsOf, hie, ← hss, hsz]
 have hbv : (byteVals s).length = s.length := by simp [byteVals]
 rw [p2, Nat.zero_add] at h1
 have hrun := Lib.run_unsafeString_row (P := C.P) w pt it o.type e' hd hcell (H.blk ob) cc.size (by simp [World.shape?, g3]) s hne (by rw [p3, Nat.mul_one]; omega) hlen (fun j c hj => by
  have := g5 j (.int .u8 c.toNat) (by simp [byteVals, hj])
  rw [p2, Nat.zero_add] at this
  rw [add_mk]
  simp only [World.cell?, g3, Option.isSome_none, Bool.false_eq_true, if_false, Nat.zero_add]
  exact this)
 have hpos : s.length ≠ 0 := by simpa using hne
 have hobk : ¬ ob < C.k := by
  intro hlt
  rcases hi.own ob _ hob rfl with ⟨_, h⟩ | h
  ·cases h
  ·have := C.hk ob hlt
   rw [← (hi.byref ob hlt).1] at this; omega
 let H' : View := { H with ver := fun o => if o = ob then ver + 1 else H.ver o }
 refine ⟨.string ⟨s.toArray⟩, w.freeze ⟨H.blk ob, 0, none⟩ s.length, H', ?_, ?_, rfl⟩
 ·simp only [execOp, hop, resolve, invoke, builtin, Sem.run_bind, Sem.run_pure, Result.andThen_ok, List.map_toArray, List.map_cons, List.map_nil, h1, h2, hrun]
 ·have hbl := hi.objs.lt _ g2
  refine hi.write (st := ⟨env, objs⟩) (ob' := .dead) (H' := H') hob rfl (fun h => by cases h) ⟨rfl, fun x hx => ⟨rfl, rfl, rfl, by simp [H', hx]⟩⟩ (.inr (by simp [H', g1])) (.inl rfl) (fun h => absurd h hobk) (fun b => ⟨.inl, fun h => h.elim id fun h => by have : b = H.blk ob := h.1; omega⟩) (fun b hb hne => ?_) ?_ ?_ ?_ ?_ trivial
  ·simp only [World.freeze, if_neg hpos, Array.getElem?_modify]
   rw [if_neg (fun h => hne h.symm)]
  ·simp [World.freeze, hpos]
  ·simp [World.freeze, hpos]
  ·simp [World.freeze, hpos]
  ·simp [World.freeze, hpos]
theorem push_bytes (l : List UInt8) : ∀ acc : ByteArray, (l.map fun c => ((c.toNat : Nat) : Int)).foldl (fun r n => r.push (UInt8.ofNat n.toNat)) acc = ⟨acc.data ++ l.toArray⟩ := by
 induction l with
 | nil => intro acc; simp
 | cons c l ih =>
  intro acc
  simp only [List.map_cons, List.foldl_cons]
  rw [ih]
  simp [ByteArray.push]
/-- bytes, copied to a text -/
theorem v_bytes_str {C : Ctx} {o : Oper} {env : List (Nat × AV)} {objs : List AObj} {s d e : TypeId} {x : Operand} {ys yd ye : Ty} {ob ver off n : Nat} {full : Bool} {cs : List AV} {own : Option TypeId} {flat : Bool} {esz : Nat} (l : List UInt8) (hop : o.op = .convert s d x)
  (hx : ev ⟨env, objs⟩ x = some (.sl ob ver off n full)) (hob : objs[ob]? = some (.cells cs ver esz flat own)) (hl : (cs.drop off).take n = bytesAV l) (hn : l.length = n) (hys : C.T.at s = some ys) (hk : ys.k = .slice e) (hyd : C.T.at d = some yd) (hkd : yd.k = .string) (hye : C.T.at e = some ye) (hke : ye.k = .int .u8) :
  VStep C o ⟨env, objs⟩ (.str l) objs := by
 refine VStep.of_pure (st := ⟨env, objs⟩) fun H a w hi => ?_
 obtain ⟨d1, i1, hd1, _, hk1, _⟩ := C.ty hys
 rw [hk] at hk1
 obtain rfl := kOf_slice hk1
 obtain ⟨d2, i2, hd2, _, hk2, _⟩ := C.ty hyd
 rw [hkd] at hk2
 obtain rfl := kOf_string hk2
 obtain ⟨d3, i3, hd3, _, hk3, _⟩ := C.ty hye
 rw [hke] at hk3
 obtain rfl := kOf_int hk3
 obtain ⟨g1, g2, vs, cc, e', g3, g4, g5, g6⟩ := hi.objs.rel ob _ hob
 obtain ⟨o1, o2, o3⟩ := ev_rel hi hx
 obtain ⟨ad, c, f1, f2, f3, f4⟩ := o3 g1
 have hrl := (RelL.drop off g4).take n
 rw [hl] at hrl
 have hbv := bytes_rel.1 hrl
 have hload : (loadCells ad n).run C.P w = .ok ((l.map fun c => ((c.toNat : Nat) : Int)).map (Value.int .u8)).toArray w := by
  have h := run_loadCells_list (P := C.P) w ad (byteVals l) (fun j v hj => by
   have hn0 : 0 < n := by
    have := (List.getElem?_eq_some_iff.1 hj).1
    simp [byteVals] at this; omega
   rw [f3 hn0, add_mk]
   rw [← hbv, List.getElem?_take] at hj
   split at hj
   ·rw [List.getElem?_drop] at hj
    have := g5 _ _ hj
    simp only [World.cell?, g3, Option.isSome_none, Bool.false_eq_true, if_false]
    rw [Nat.add_assoc]; exact this
   ·cases hj)
  have e1 : (byteVals l).length = n := by simp [byteVals, hn]
  rw [e1] at h
  rw [h]
  simp [byteVals, Function.comp_def]
 refine ⟨.string ⟨l.toArray⟩, ?_, rfl⟩
 have hrun := run_bytesToString (P := C.P) w ad n c _ hload
 rw [push_bytes] at hrun
 simp only [execOp, hop, f1, convert, Sem.run_bind, run_underlying hd1, run_underlying hd2, run_underlying hd3, Result.andThen_ok, hrun, Sem.run_pure]
 simp
theorem v_any_assign {C : Ctx} {o : Oper} {st : St} {x : Operand} (hop : o.op = .assign x) : VStep C o st .any st.objs :=
 VStep.of_pure fun H a w hi => ⟨a.eval x, by simp [execOp, hop], trivial⟩
/-- a call whose body is walked where it stands -/
theorem si {C : Ctx} {ops : Array Oper} {o : Oper} {rest : List Oper} {env : List (Nat × AV)} {objs : List AObj} {Q : Exit → St → Prop} {x : Operand} {xs : Array Operand} {ts : Array TypeId} {f : FuncId} {fs cs avs args : List AV} {fn : Func} {c : Code} {d : Nat}
  (hf : C.P.funcs[f]? = some fn) (hb : fn.body = some c) (hname : (fn.name == "runtime.NumGoroutine") = false) {nt : Nat} (hnt : fn.ntmps = nt) {rs : List ResultVar} (hrs : fn.results.toList = rs)
  (hop : o.op = .call { callee := .value x, args := xs, argTypes := ts }) (hx : ev ⟨env, objs⟩ x = some (.func (.func f) fs cs)) (hxs : evL ⟨env, objs⟩ xs.toList = some avs) (ha : fs ++ avs ++ cs = args) (hlen : Nat.ble args.length nt = true)
  (hg : gd ops ⟨env, objs⟩ o = some true) (hd : o.dst = some d) (hlt : Nat.blt d C.nt = true)
  (h : ∀ tm, W ⟨C.P, C.T, C.ok, nt, C.w0, C.k, C.H0, C.ln, C.hk, C.hj, (tm, env) :: C.sv⟩ c ⟨envOf 0 args, objs⟩ (fun e st' => (e = .ret ∨ e = .normal) ∧ ∃ cs', resAV C.T st' rs = some cs' ∧ WL C ops rest ⟨(d, tupAV cs') :: env, st'.objs⟩ Q)) :
  WL C ops (o :: rest) ⟨env, objs⟩ Q := by
 refine WL.inl hf hb hname hnt hrs hop hx hxs ha hlen hg (fun t ht => by rw [hd] at ht; injection ht with ht; subst ht; exact Nat.le_of_ble_eq_true hlt) fun tm => ?_
 rw [hd]
 exact h tm
end Go.Lens
