/- digits: Parse. -/
import Derived.Test.YtnlikbgcnofjiaaDoorStr2
set_option linter.unusedVariables false
set_option linter.unusedSimpArgs false
namespace Go.Proofs.YtnlikbgcnofjiaaDoor
open Go Go.Lens

def digitL : List UInt8 := [48, 49, 50, 51, 52, 53, 54, 55, 56, 57]
/-- the number of decimal signs -/
def decF (l : List UInt8) : Nat := l.foldl (fun n c => 10 * n + (c.toNat - 48)) 0
theorem decF_snoc (l : List UInt8) (c : UInt8) : decF (l ++ [c]) = 10 * decF l + (c.toNat - 48) := by simp [decF]
theorem decF_append (l m : List UInt8) : decF (l ++ m) = decF l * 10 ^ m.length + decF m := by
  refine list_snoc_ind (P := fun m => decF (l ++ m) = decF l * 10 ^ m.length + decF m) (by simp [decF]) (fun m c ih => ?_) m
  · rw [← List.append_assoc, decF_snoc, decF_snoc, ih, List.length_append, List.length_singleton, Nat.pow_succ, Nat.mul_add]
    rw [Nat.add_assoc, ← Nat.mul_assoc]
    congr 1
    rw [Nat.mul_comm 10 (decF l), Nat.mul_assoc, Nat.mul_comm 10]
def isDig (c : UInt8) : Bool := digitL.contains c
theorem isDig_iff (c : UInt8) : isDig c = true ↔ 48 ≤ c.toNat ∧ c.toNat ≤ 57 := by
  constructor
  · intro h
    simp only [isDig, digitL, List.contains_cons, List.contains_nil, Bool.or_false, Bool.or_eq_true, beq_iff_eq] at h
    rcases h with rfl | rfl | rfl | rfl | rfl | rfl | rfl | rfl | rfl | rfl <;> decide
  · intro h
    have h1 : c = UInt8.ofNat c.toNat := by simp
    have h2 : c.toNat = 48 ∨ c.toNat = 49 ∨ c.toNat = 50 ∨ c.toNat = 51 ∨ c.toNat = 52 ∨ c.toNat = 53 ∨ c.toNat = 54 ∨ c.toNat = 55 ∨ c.toNat = 56 ∨ c.toNat = 57 := by omega
    rcases h2 with h2 | h2 | h2 | h2 | h2 | h2 | h2 | h2 | h2 | h2 <;> (rw [h2] at h1; rw [h1]; decide)
theorem decF_lt {l : List UInt8} (h : ∀ c ∈ l, isDig c = true) : decF l < 10 ^ l.length := by
  revert h
  refine list_snoc_ind (P := fun l => (∀ c ∈ l, isDig c = true) → decF l < 10 ^ l.length) (fun _ => by simp [decF]) (fun l c ih h => ?_) l
  · have h1 := ih fun x hx => h x (by simp [hx])
    have h2 := (isDig_iff c).1 (h c (by simp))
    rw [decF_snoc, List.length_append, List.length_singleton, Nat.pow_succ]
    omega

/-- is a text a number's? -/
def numText (s : List UInt8) : Bool := !(s == []) && s.all isDig && !(decide (1 < s.length) && s.head? == some 48)

theorem trimF_nil (s : List UInt8) : trimF digitL s = [] ↔ s.all isDig = true := by
  have key : ∀ (p : UInt8 → Bool) (l : List UInt8), l.dropWhile p = [] ↔ l.all p = true := by
    intro p l
    induction l with
    | nil => simp
    | cons c l ih =>
      rw [List.dropWhile_cons, List.all_cons]
      split
      · rename_i h; rw [ih]; simp [h]
      · rename_i h; simp [h]
  rw [trimF, key]
  have e : (dropR digitL.contains s).all digitL.contains = true ↔ s.all isDig = true := by
    show (dropR digitL.contains s).all isDig = true ↔ _
    constructor
    · intro h
      -- the first sign that is left from the right is none of the set
      rcases List.eq_nil_or_concat (dropR digitL.contains s) with h0 | ⟨l, c, h0⟩
      · have : s.reverse.dropWhile digitL.contains = [] := by simpa [dropR] using h0
        rw [key] at this
        have h2 : s.reverse.all isDig = true := this
        simpa using h2
      · exfalso
        have h1 : s.reverse.dropWhile digitL.contains = c :: l.reverse := by
          have := congrArg List.reverse h0
          simpa [dropR] using this
        have h2 : digitL.contains c = false := by
          have := List.head?_dropWhile_not digitL.contains s.reverse
          rw [h1] at this; simpa using this
        rw [h0] at h
        simp only [List.concat_eq_append, List.all_append, List.all_cons, List.all_nil, Bool.and_true, Bool.and_eq_true, isDig, h2] at h
        exact absurd h.2 (by simp)
    · intro h
      have h1 : s.reverse.dropWhile digitL.contains = [] := by
        rw [key]
        have : s.reverse.all isDig = true := by simpa using h
        exact this
      simp [dropR, h1]
  exact e

theorem digit_ascii : ∀ c ∈ digitL, c.toNat < 128 := by decide
theorem natRow_nils : Sub (.agg [.nils]) (natRow []) := Sub.agg1 Sub.nils

/-- what Parse tells -/
def digParse (s : List UInt8) : AV := if s.length > 4096 then .tup [natRow [], .int .i64 7] else if numText s then .tup [natAV (decF s), .int .i64 0] else .tup [natRow [], .int .i64 5]

theorem digParse_spec (s : List UInt8) (hs : s.length ≤ 9223372036854775807) : Does Tryd.prog 15 [.str s] (digParse s) := by
  have htrim := trim_spec digitL s digit_ascii (by decide) (by decide) hs
  refine does tab_ok Tryd.func15 rfl rfl rfl rfl rfl fun w0 H0 hk hj => ?_
  by_cases hlong : s.length > 4096
  · skip
    --@ n 0
    refine W.seq (W.region ?_)
    refine sn (a_alloc rfl rfl rfl rfl) (rfl : _ = AV.ptr 0 0 0) (rfl : _ = [_]) rfl rfl rfl ?_
    refine sp (v_pure rfl) rfl rfl rfl ?_
    refine WL.nil ?_
    refine W.seq (W.seq (W.region ?_))
    refine sp (v_pure rfl) rfl rfl rfl ?_
    refine sp (v_len rfl rfl rfl rfl rfl trivial) rfl rfl rfl ?_
    refine sp (v_is true rfl rfl rfl rfl (decide_eq_true (show (s.length : Int) > 4096 by omega))) rfl rfl rfl ?_
    refine WL.nil ?_
    refine W.cond_true rfl ?_
    refine W.seq (W.region ?_)
    refine sq (v_build rfl rfl rfl rfl rfl rfl rfl) (rfl : _ = AV.agg [_]) rfl rfl rfl ?_
    refine WL.sub 13 rfl natRow_nils ?_
    refine ss (a_storeA rfl rfl rfl rfl rfl (fun h => by cases h) rfl rfl rfl (Nat.le_of_ble_eq_true rfl)) (rfl : _ = [_]) rfl rfl ?_
    refine sp (v_pure rfl) rfl rfl rfl ?_
    refine WL.nil ?_
    refine W.ret (fin (cs := [natRow [], .int .i64 7]) rfl (.shut (.plain (natRow_plain _)) (.shut (.plain rfl) .nil)) ?_)
    simp [tupAV, digParse, hlong]
  have hlong' : ¬ ((s.length : Int) > 4096) := by omega
  by_cases he : s = []
  · subst he
    refine W.seq (W.region ?_)
    refine sn (a_alloc rfl rfl rfl rfl) (rfl : _ = AV.ptr 0 0 0) (rfl : _ = [_]) rfl rfl rfl ?_
    refine sp (v_pure rfl) rfl rfl rfl ?_
    refine WL.nil ?_
    refine W.seq (W.seq (W.region ?_))
    refine sp (v_pure rfl) rfl rfl rfl ?_
    refine sp (v_len rfl rfl rfl rfl rfl trivial) rfl rfl rfl ?_
    refine sp (v_is false rfl rfl rfl rfl (decide_eq_false hlong')) rfl rfl rfl ?_
    refine WL.nil ?_
    refine W.cond_false rfl (W.skip ?_)
    refine W.seq (W.seq (W.region ?_))
    refine sp (v_pure rfl) rfl rfl rfl ?_
    refine sp (v_is true rfl rfl rfl rfl rfl) rfl rfl rfl ?_
    refine sp (v_pure rfl) rfl rfl rfl ?_
    refine so rfl rfl rfl ?_
    refine so rfl rfl rfl ?_
    refine so rfl rfl rfl ?_
    refine sp (v_pure rfl) rfl rfl rfl ?_
    refine sp (v_pure rfl) rfl rfl rfl ?_
    refine so rfl rfl rfl ?_
    refine so rfl rfl rfl ?_
    refine so rfl rfl rfl ?_
    refine so rfl rfl rfl ?_
    refine so rfl rfl rfl ?_
    refine so rfl rfl rfl ?_
    refine so rfl rfl rfl ?_
    refine so rfl rfl rfl ?_
    refine sp (v_pure rfl) rfl rfl rfl ?_
    refine WL.nil ?_
    refine W.cond_true rfl ?_
    refine W.seq (W.region ?_)
    refine sq (v_build rfl rfl rfl rfl rfl rfl rfl) (rfl : _ = AV.agg [_]) rfl rfl rfl ?_
    refine WL.sub 31 rfl natRow_nils ?_
    refine ss (a_storeA rfl rfl rfl rfl rfl (fun h => by cases h) rfl rfl rfl (Nat.le_of_ble_eq_true rfl)) (rfl : _ = [_]) rfl rfl ?_
    refine sp (v_pure rfl) rfl rfl rfl ?_
    refine WL.nil ?_
    refine W.ret (fin (cs := [natRow [], .int .i64 5]) rfl (.shut (.plain (natRow_plain _)) (.shut (.plain rfl) .nil)) ?_)
    simp [tupAV, digParse, numText]
  have hse : (s == ([] : List UInt8)) = false := by cases s with | nil => exact absurd rfl he | cons c s => rfl
  by_cases hd : s.all isDig = true
  rotate_left
  · have hst : (!(trimF digitL s == ([] : List UInt8))) = true := by
      rw [Bool.not_eq_true', beq_eq_false_iff_ne]
      exact fun h => hd ((trimF_nil s).1 h)
    refine W.seq (W.region ?_)
    refine sn (a_alloc rfl rfl rfl rfl) (rfl : _ = AV.ptr 0 0 0) (rfl : _ = [_]) rfl rfl rfl ?_
    refine sp (v_pure rfl) rfl rfl rfl ?_
    refine WL.nil ?_
    refine W.seq (W.seq (W.region ?_))
    refine sp (v_pure rfl) rfl rfl rfl ?_
    refine sp (v_len rfl rfl rfl rfl rfl trivial) rfl rfl rfl ?_
    refine sp (v_is false rfl rfl rfl rfl (decide_eq_false hlong')) rfl rfl rfl ?_
    refine WL.nil ?_
    refine W.cond_false rfl (W.skip ?_)
    refine W.seq (W.seq (W.region ?_))
    refine sp (v_pure rfl) rfl rfl rfl ?_
    refine sp (v_is false rfl rfl rfl rfl hse) rfl rfl rfl ?_
    refine sp (v_pure rfl) rfl rfl rfl ?_
    refine sp (v_pure rfl) rfl rfl rfl ?_
    refine sc (htrim) rfl rfl rfl rfl (by first | rfl | simp [plainL, AV.plain]) (by first | rfl | simp [plainL, AV.plain]) rfl rfl rfl ?_
    refine sp (v_is true rfl rfl rfl rfl hst) rfl rfl rfl ?_
    refine sp (v_pure rfl) rfl rfl rfl ?_
    refine sp (v_pure rfl) rfl rfl rfl ?_
    refine so rfl rfl rfl ?_
    refine so rfl rfl rfl ?_
    refine so rfl rfl rfl ?_
    refine so rfl rfl rfl ?_
    refine so rfl rfl rfl ?_
    refine so rfl rfl rfl ?_
    refine so rfl rfl rfl ?_
    refine so rfl rfl rfl ?_
    refine sp (v_pure rfl) rfl rfl rfl ?_
    refine WL.nil ?_
    refine W.cond_true rfl ?_
    refine W.seq (W.region ?_)
    refine sq (v_build rfl rfl rfl rfl rfl rfl rfl) (rfl : _ = AV.agg [_]) rfl rfl rfl ?_
    refine WL.sub 31 rfl natRow_nils ?_
    refine ss (a_storeA rfl rfl rfl rfl rfl (fun h => by cases h) rfl rfl rfl (Nat.le_of_ble_eq_true rfl)) (rfl : _ = [_]) rfl rfl ?_
    refine sp (v_pure rfl) rfl rfl rfl ?_
    refine WL.nil ?_
    refine W.ret (fin (cs := [natRow [], .int .i64 5]) rfl (.shut (.plain (natRow_plain _)) (.shut (.plain rfl) .nil)) ?_)
    have : s.all isDig = false := by simpa using hd
    simp [tupAV, digParse, hlong, numText, this]
  have hst : (!(trimF digitL s == ([] : List UInt8))) = false := by
    rw [(trimF_nil s).2 hd]; rfl
  have hdig : ∀ c ∈ s, isDig c = true := by simpa using hd
  by_cases hz : 1 < s.length ∧ s.head? = some 48
  · have hget : s[(0 : Int).toNat]? = some 48 := by rw [← hz.2]; cases s <;> rfl
    refine W.seq (W.region ?_)
    refine sn (a_alloc rfl rfl rfl rfl) (rfl : _ = AV.ptr 0 0 0) (rfl : _ = [_]) rfl rfl rfl ?_
    refine sp (v_pure rfl) rfl rfl rfl ?_
    refine WL.nil ?_
    refine W.seq (W.seq (W.region ?_))
    refine sp (v_pure rfl) rfl rfl rfl ?_
    refine sp (v_len rfl rfl rfl rfl rfl trivial) rfl rfl rfl ?_
    refine sp (v_is false rfl rfl rfl rfl (decide_eq_false hlong')) rfl rfl rfl ?_
    refine WL.nil ?_
    refine W.cond_false rfl (W.skip ?_)
    refine W.seq (W.seq (W.region ?_))
    refine sp (v_pure rfl) rfl rfl rfl ?_
    refine sp (v_is false rfl rfl rfl rfl hse) rfl rfl rfl ?_
    refine sp (v_pure rfl) rfl rfl rfl ?_
    refine sp (v_pure rfl) rfl rfl rfl ?_
    refine sc (htrim) rfl rfl rfl rfl (by first | rfl | simp [plainL, AV.plain]) (by first | rfl | simp [plainL, AV.plain]) rfl rfl rfl ?_
    refine sp (v_is false rfl rfl rfl rfl hst) rfl rfl rfl ?_
    refine sp (v_pure rfl) rfl rfl rfl ?_
    refine sp (v_pure rfl) rfl rfl rfl ?_
    refine sp (v_pure rfl) rfl rfl rfl ?_
    refine sp (v_len rfl rfl rfl rfl rfl trivial) rfl rfl rfl ?_
    refine sp (v_is true rfl rfl rfl rfl (decide_eq_true (show (s.length : Int) > 1 by omega))) rfl rfl rfl ?_
    refine sp (v_pure rfl) rfl rfl rfl ?_
    refine sp (v_pure rfl) rfl rfl rfl ?_
    refine sp (v_index_str (b := 48) rfl rfl rfl rfl rfl (by omega) hget) rfl rfl rfl ?_
    refine sp (v_is true rfl rfl rfl rfl rfl) rfl rfl rfl ?_
    refine sp (v_pure rfl) rfl rfl rfl ?_
    refine sp (v_pure rfl) rfl rfl rfl ?_
    refine WL.nil ?_
    refine W.cond_true rfl ?_
    refine W.seq (W.region ?_)
    refine sq (v_build rfl rfl rfl rfl rfl rfl rfl) (rfl : _ = AV.agg [_]) rfl rfl rfl ?_
    refine WL.sub 31 rfl natRow_nils ?_
    refine ss (a_storeA rfl rfl rfl rfl rfl (fun h => by cases h) rfl rfl rfl (Nat.le_of_ble_eq_true rfl)) (rfl : _ = [_]) rfl rfl ?_
    refine sp (v_pure rfl) rfl rfl rfl ?_
    refine WL.nil ?_
    refine W.ret (fin (cs := [natRow [], .int .i64 5]) rfl (.shut (.plain (natRow_plain _)) (.shut (.plain rfl) .nil)) ?_)
    simp [tupAV, digParse, hlong, numText, hz]
  have hnum : numText s = true := by
    simp only [numText, hse, hd, Bool.not_false, Bool.true_and, Bool.not_eq_true', Bool.and_eq_false_iff, decide_eq_false_iff_not]
    by_cases h1 : 1 < s.length
    · right; rw [beq_eq_false_iff_ne]; exact fun h => hz ⟨h1, h⟩
    · exact .inl h1
  have hres : digParse s = .tup [natAV (decF s), .int .i64 0] := by simp only [digParse, if_neg hlong, hnum, if_true]
  rw [hres]
  refine W.seq (W.region ?_)
  refine sn (a_alloc rfl rfl rfl rfl) (rfl : _ = AV.ptr 0 0 0) (rfl : _ = [_]) rfl rfl rfl ?_
  refine sp (v_pure rfl) rfl rfl rfl ?_
  refine WL.nil ?_
  refine W.seq (W.seq (W.region ?_))
  refine sp (v_pure rfl) rfl rfl rfl ?_
  refine sp (v_len rfl rfl rfl rfl rfl trivial) rfl rfl rfl ?_
  refine sp (v_is false rfl rfl rfl rfl (decide_eq_false hlong')) rfl rfl rfl ?_
  refine WL.nil ?_
  refine W.cond_false rfl (W.skip ?_)
  refine W.seq (W.seq (W.cut [(0, .str s), (2, .ptr 0 0 0), (30, .bool false)] [.cells [.nils] 0 1 false none] ?_ ?_))
  · by_cases h1 : 1 < s.length
    · have hh : s.head? ≠ some 48 := fun h => hz ⟨h1, h⟩
      obtain ⟨c, hc⟩ : ∃ c, s[(0 : Int).toNat]? = some c := ⟨s[0], by simp⟩
      have hc48 : ((c.toNat : Int) == 48) = false := by
        rw [beq_eq_false_iff_ne]
        intro h
        refine hh ?_
        have : s.head? = some c := by rw [← hc]; cases s <;> rfl
        rw [this]
        congr 1
        exact UInt8.toNat_inj.1 (by have : (48 : UInt8).toNat = 48 := rfl; omega)
      refine W.region ?_
      refine sp (v_pure rfl) rfl rfl rfl ?_
      refine sp (v_is false rfl rfl rfl rfl hse) rfl rfl rfl ?_
      refine sp (v_pure rfl) rfl rfl rfl ?_
      refine sp (v_pure rfl) rfl rfl rfl ?_
      refine sc (htrim) rfl rfl rfl rfl (by first | rfl | simp [plainL, AV.plain]) (by first | rfl | simp [plainL, AV.plain]) rfl rfl rfl ?_
      refine sp (v_is false rfl rfl rfl rfl hst) rfl rfl rfl ?_
      refine sp (v_pure rfl) rfl rfl rfl ?_
      refine sp (v_pure rfl) rfl rfl rfl ?_
      refine sp (v_pure rfl) rfl rfl rfl ?_
      refine sp (v_len rfl rfl rfl rfl rfl trivial) rfl rfl rfl ?_
      refine sp (v_is true rfl rfl rfl rfl (decide_eq_true (show (s.length : Int) > 1 by omega))) rfl rfl rfl ?_
      refine sp (v_pure rfl) rfl rfl rfl ?_
      refine sp (v_pure rfl) rfl rfl rfl ?_
      refine sp (v_index_str (b := c) rfl rfl rfl rfl rfl (by omega) hc) rfl rfl rfl ?_
      refine sp (v_is false rfl rfl rfl rfl hc48) rfl rfl rfl ?_
      refine sp (v_pure rfl) rfl rfl rfl ?_
      refine sp (v_pure rfl) rfl rfl rfl ?_
      refine WL.nil ?_
      exact ⟨rfl, (by refine ⟨?_, ?_, rfl, Nat.le_of_ble_eq_true rfl⟩ <;> repeat (first | exact trivial | exact rfl | refine ⟨rfl, ?_⟩ | refine ⟨.inr ⟨rfl, ?_⟩, ?_⟩ | refine ⟨.inl rfl, ?_⟩))⟩
    · skip
      refine W.region ?_
      refine sp (v_pure rfl) rfl rfl rfl ?_
      refine sp (v_is false rfl rfl rfl rfl hse) rfl rfl rfl ?_
      refine sp (v_pure rfl) rfl rfl rfl ?_
      refine sp (v_pure rfl) rfl rfl rfl ?_
      refine sc (htrim) rfl rfl rfl rfl (by first | rfl | simp [plainL, AV.plain]) (by first | rfl | simp [plainL, AV.plain]) rfl rfl rfl ?_
      refine sp (v_is false rfl rfl rfl rfl hst) rfl rfl rfl ?_
      refine sp (v_pure rfl) rfl rfl rfl ?_
      refine sp (v_pure rfl) rfl rfl rfl ?_
      refine sp (v_pure rfl) rfl rfl rfl ?_
      refine sp (v_len rfl rfl rfl rfl rfl trivial) rfl rfl rfl ?_
      refine sp (v_is false rfl rfl rfl rfl (decide_eq_false (show ¬ ((s.length : Int) > 1) by omega))) rfl rfl rfl ?_
      refine sp (v_pure rfl) rfl rfl rfl ?_
      refine so rfl rfl rfl ?_
      refine so rfl rfl rfl ?_
      refine so rfl rfl rfl ?_
      refine sp (v_pure rfl) rfl rfl rfl ?_
      refine sp (v_pure rfl) rfl rfl rfl ?_
      refine WL.nil ?_
      exact ⟨rfl, (by refine ⟨?_, ?_, rfl, Nat.le_of_ble_eq_true rfl⟩ <;> repeat (first | exact trivial | exact rfl | refine ⟨rfl, ?_⟩ | refine ⟨.inr ⟨rfl, ?_⟩, ?_⟩ | refine ⟨.inl rfl, ?_⟩))⟩
  refine W.cond_false rfl (W.skip ?_)
  refine W.seq (W.region ?_)
  refine sq (v_build rfl rfl rfl rfl rfl rfl rfl) (rfl : _ = AV.agg [_]) rfl rfl rfl ?_
  refine WL.sub 32 rfl natRow_nils ?_
  refine sn (a_alloc rfl rfl rfl rfl) (rfl : _ = AV.ptr 1 0 0) (rfl : _ = [_, _]) rfl rfl rfl ?_
  refine ss (a_storeA rfl rfl rfl rfl rfl (fun h => by cases h) rfl rfl rfl (Nat.le_of_ble_eq_true rfl)) (rfl : _ = [_, _]) rfl rfl ?_
  refine WL.nil ?_
  refine W.seq (W.seq (W.region ?_))
  refine sp (v_pure rfl) rfl rfl rfl ?_
  refine WL.nil ?_
  refine W.block ?_
  refine W.while (fun m st => ∃ (dn l : List UInt8) (f : Bool), s = dn ++ l ∧ m = l.length ∧ (f = true → dn = []) ∧ (f = false → l.length % 18 = 0) ∧
    st = ⟨[(0, .str l), (2, .ptr 0 0 0), (4, .ptr 1 0 0), (5, .bool f)], [.cells [.nils] 0 1 false none, .cells [.row (u64AV (digs LB (decF dn))) (digs LB (decF dn)).length] 0 1 false none]⟩) s.length
    (env0 := [(0, .str s), (2, .ptr 0 0 0), (4, .ptr 1 0 0), (5, .bool true)]) (objs0 := [.cells [.nils] 0 1 false none, .cells [.row [] 0] 0 1 false none])
    ⟨[], s, true, rfl, rfl, fun _ => rfl, fun h => (by cases h), by rw [show decF [] = 0 from rfl, digs_zero]; rfl⟩ (by refine ⟨?_, ?_, rfl, Nat.le_of_ble_eq_true rfl⟩ <;> repeat (first | exact trivial | exact rfl | refine ⟨rfl, ?_⟩ | refine ⟨.inr ⟨rfl, ?_⟩, ?_⟩ | refine ⟨.inl rfl, ?_⟩)) ?_
  rintro m _ ⟨dn, l, f, hsl, rfl, hf1, hf2, rfl⟩
  have hdl : ∀ c ∈ dn, isDig c = true := fun c hc => hdig c (by rw [hsl]; simp [hc])
  have hlen : s.length = dn.length + l.length := by rw [hsl]; simp
  have hle : s.length ≤ 4096 := by omega
  by_cases hl : l = []
  · subst hl
    refine W.seq (W.seq (W.region ?_))
    refine sp (v_pure rfl) rfl rfl rfl ?_
    refine sp (v_is false rfl rfl rfl rfl rfl) rfl rfl rfl ?_
    refine WL.nil ?_
    refine W.cond_false rfl (W.exit ?_)
    refine W.seq (W.region ?_)
    first | refine sq (v_load rfl rfl rfl rfl rfl) (rfl : _ = AV.agg [_]) rfl rfl rfl ?_ | refine sq (v_load_radr rfl rfl rfl rfl) (rfl : _ = AV.agg [_]) rfl rfl rfl ?_
    refine ss (a_storeA rfl rfl rfl rfl rfl (fun h => by cases h) rfl rfl rfl (Nat.le_of_ble_eq_true rfl)) (rfl : _ = [_, _]) rfl rfl ?_
    refine sp (v_pure rfl) rfl rfl rfl ?_
    refine WL.nil ?_
    have hsd : decF dn = decF s := by rw [hsl]; simp
    refine W.ret (fin (cs := [natAV (decF dn), .int .i64 0]) rfl (.shut (.plain (natRow_plain _)) (.shut (.plain rfl) .nil)) ?_)
    rw [hsd]; rfl
  have hle' : (!(l == ([] : List UInt8))) = true := by cases l with | nil => exact absurd rfl hl | cons c l => rfl
  have hlp : 0 < l.length := by cases l with | nil => exact absurd rfl hl | cons c l => simp
  have hdig' : ∀ c ∈ l, isDig c = true := fun c hc => hdig c (by rw [hsl]; simp [hc])
  refine W.seq (W.seq (W.region ?_))
  refine sp (v_pure rfl) rfl rfl rfl ?_
  refine sp (v_is true rfl rfl rfl rfl hle') rfl rfl rfl ?_
  refine WL.nil ?_
  refine W.cond_true rfl (W.skip ?_)
  refine W.seq (W.block ?_)
  refine W.seq (W.region ?_)
  refine sp (v_pure rfl) rfl rfl rfl ?_
  refine sp (v_len rfl rfl rfl rfl rfl trivial) rfl rfl rfl ?_
  refine sq (v_bin rfl rfl rfl (rem_nn (by omega) (by omega))) (show _ = AV.int .i64 (l.length % 18 : Nat) from by simp) rfl rfl rfl ?_
  refine sp (v_pure rfl) rfl rfl rfl ?_
  refine WL.nil ?_
  obtain ⟨k, hk1, hk2, hk3, hk4, hk5, hk6⟩ : ∃ k : Nat, 1 ≤ k ∧ k ≤ 18 ∧ k ≤ l.length ∧ (l.length - k) % 18 = 0 ∧ (dn = [] ∨ k = 18) ∧ ((f = false ∨ l.length % 18 = 0) → k = 18) ∧ (¬ (f = false ∨ l.length % 18 = 0) → k = l.length % 18) := by
    by_cases hc : f = false ∨ l.length % 18 = 0
    · have : l.length % 18 = 0 := hc.elim hf2 id
      exact ⟨18, by omega, by omega, by omega, by omega, .inr rfl, fun _ => rfl, fun h => absurd hc h⟩
    · refine ⟨l.length % 18, by omega, by omega, by omega, by omega, .inl (hf1 ?_), fun h => absurd h hc, fun _ => rfl⟩
      cases f with
      | true => rfl
      | false => exact absurd (.inl rfl) hc
  refine W.seq (W.cut [(0, .str l), (2, .ptr 0 0 0), (4, .ptr 1 0 0), (5, .bool f), (6, .int .i64 k)] [.cells [.nils] 0 1 false none, .cells [.row (u64AV (digs LB (decF dn))) (digs LB (decF dn)).length] 0 1 false none] ?_ ?_)
  · cases f with
    | false =>
      have hk18 := hk6.1 (.inl rfl)
      refine W.seq (W.region ?_)
      refine sp (v_pure rfl) rfl rfl rfl ?_
      refine sp (v_pure rfl) rfl rfl rfl ?_
      refine sp (v_pure rfl) rfl rfl rfl ?_
      refine so rfl rfl rfl ?_
      refine so rfl rfl rfl ?_
      refine sp (v_pure rfl) rfl rfl rfl ?_
      refine WL.nil ?_
      refine W.cond_true rfl ?_
      refine W.region ?_
      refine sp (v_pure rfl) rfl rfl rfl ?_
      refine WL.nil ?_
      rw [hk18]
      exact ⟨rfl, (by refine ⟨?_, ?_, rfl, Nat.le_of_ble_eq_true rfl⟩ <;> repeat (first | exact trivial | exact rfl | refine ⟨rfl, ?_⟩ | refine ⟨.inr ⟨rfl, ?_⟩, ?_⟩ | refine ⟨.inl rfl, ?_⟩))⟩
    | true =>
      by_cases hr : l.length % 18 = 0
      · have hk18 := hk6.1 (.inr hr)
        refine W.seq (W.region ?_)
        refine sp (v_pure rfl) rfl rfl rfl ?_
        refine sp (v_pure rfl) rfl rfl rfl ?_
        refine sp (v_pure rfl) rfl rfl rfl ?_
        refine sp (v_pure rfl) rfl rfl rfl ?_
        refine sp (v_is true rfl rfl rfl rfl (beq_iff_eq.2 (by omega))) rfl rfl rfl ?_
        refine sp (v_pure rfl) rfl rfl rfl ?_
        refine WL.nil ?_
        refine W.cond_true rfl ?_
        refine W.region ?_
        refine sp (v_pure rfl) rfl rfl rfl ?_
        refine WL.nil ?_
        rw [hk18]
        exact ⟨rfl, (by refine ⟨?_, ?_, rfl, Nat.le_of_ble_eq_true rfl⟩ <;> repeat (first | exact trivial | exact rfl | refine ⟨rfl, ?_⟩ | refine ⟨.inr ⟨rfl, ?_⟩, ?_⟩ | refine ⟨.inl rfl, ?_⟩))⟩
      · have hk18 := hk6.2 (by simp [hr])
        refine W.seq (W.region ?_)
        refine sp (v_pure rfl) rfl rfl rfl ?_
        refine sp (v_pure rfl) rfl rfl rfl ?_
        refine sp (v_pure rfl) rfl rfl rfl ?_
        refine sp (v_pure rfl) rfl rfl rfl ?_
        refine sp (v_is false rfl rfl rfl rfl (beq_eq_false_iff_ne.2 (by omega))) rfl rfl rfl ?_
        refine sp (v_pure rfl) rfl rfl rfl ?_
        refine WL.nil ?_
        refine W.cond_false rfl (W.skip ?_)
        rw [hk18]
        exact ⟨rfl, (by refine ⟨?_, ?_, rfl, Nat.le_of_ble_eq_true rfl⟩ <;> repeat (first | exact trivial | exact rfl | refine ⟨rfl, ?_⟩ | refine ⟨.inr ⟨rfl, ?_⟩, ?_⟩ | refine ⟨.inl rfl, ?_⟩))⟩
  refine W.seq (W.region ?_)
  refine sp (v_pure rfl) rfl rfl rfl ?_
  refine WL.nil ?_
  refine W.seq (W.seq (W.region ?_))
  refine sp (v_pure rfl) rfl rfl rfl ?_
  refine sp (v_pure rfl) rfl rfl rfl ?_
  refine sq (v_slice_str rfl rfl rfl rfl rfl ⟨_, _, rfl, by omega, rfl⟩ (by omega) (by omega)) (show _ = AV.str (l.take k) from by simp) rfl rfl rfl ?_
  refine sn (v_range rfl rfl rfl rfl) (rfl : _ = AV.ptr 2 0 0) (rfl : _ = [_, _, _]) rfl rfl rfl ?_
  refine WL.nil ?_
  refine W.block ?_
  refine W.while (fun m st => ∃ j : Nat, j ≤ k ∧ m = k - j ∧
    st = ⟨[(0, .str l), (2, .ptr 0 0 0), (4, .ptr 1 0 0), (5, .bool f), (6, .int .i64 k), (7, .int .u64 (decF (l.take j) : Nat)), (47, .ptr 2 0 0)],
      [.cells [.nils] 0 1 false none, .cells [.row (u64AV (digs LB (decF dn))) (digs LB (decF dn)).length] 0 1 false none, .iter (l.take k) j]⟩) k ⟨0, by omega, by omega, rfl⟩ (by refine ⟨?_, ?_, rfl, Nat.le_of_ble_eq_true rfl⟩ <;> repeat (first | exact trivial | exact rfl | refine ⟨rfl, ?_⟩ | refine ⟨.inr ⟨rfl, ?_⟩, ?_⟩ | refine ⟨.inl rfl, ?_⟩)) ?_
  rintro m _ ⟨j, hj, rfl, rfl⟩
  by_cases hjk : j < k
  · have hjl : j < l.length := by omega
    have hcj : isDig l[j] = true := hdig' _ (List.getElem_mem hjl)
    have hcd := (isDig_iff _).1 hcj
    have hb1 := decF_lt (l := l.take j) fun c hc => hdig' c (List.mem_of_mem_take hc)
    have hb2 : (10 : Nat) ^ (l.take j).length ≤ 10 ^ 17 := Nat.pow_le_pow_right (by decide) (by simp; omega)
    have hb3 : decF (l.take j) < 100000000000000000 := Nat.lt_of_lt_of_le hb1 hb2
    have hget : (l.take k)[j]? = some l[j] := by rw [List.getElem?_take, if_pos hjk]; simp [hjl]
    refine W.seq (W.region ?_)
    refine sn (v_next_ascii rfl rfl rfl hget (by omega)) rfl (rfl : _ = [_, _, _]) rfl rfl rfl ?_
    refine sp (v_pure rfl) rfl rfl rfl ?_
    refine WL.nil ?_
    refine W.seq (W.cond_true rfl (W.skip ?_))
    refine W.block ?_
    refine W.seq (W.region ?_)
    refine sp (v_pure rfl) rfl rfl rfl ?_
    refine sp (v_pure rfl) rfl rfl rfl ?_
    refine WL.nil ?_
    refine W.region ?_
    refine sp (v_pure rfl) rfl rfl rfl ?_
    refine sp (v_mulN (a := 10) rfl rfl rfl (by omega)) rfl rfl rfl ?_
    refine sp (v_pure rfl) rfl rfl rfl ?_
    refine sq (v_pure rfl) (show _ = AV.int .i32 (l[j].toNat - 48 : Nat) from by rw [IntKind.wrap_i32]; congr 1; omega) rfl rfl rfl ?_
    refine sp (v_cvt rfl rfl rfl rfl rfl (by first | rfl | (rw [IntKind.wrap_i64]; omega) | (rw [IntKind.wrap_u64]; omega) | (rw [IntKind.wrap_u8]; omega) | (rw [IntKind.wrap_i32]; omega))) rfl rfl rfl ?_
    refine sq (v_addN rfl rfl rfl (by omega)) (show _ = AV.int .u64 (decF (l.take (j + 1)) : Nat) from by rw [List.take_succ_eq_append_getElem hjl, decF_snoc]) rfl rfl rfl ?_
    refine sp (v_pure rfl) rfl rfl rfl ?_
    refine WL.nil ?_
    exact ⟨k - (j + 1), _, _, by omega, ⟨j + 1, by omega, rfl, rfl⟩, (by refine ⟨?_, ?_, rfl, Nat.le_of_ble_eq_true rfl⟩ <;> repeat (first | exact trivial | exact rfl | refine ⟨rfl, ?_⟩ | refine ⟨.inr ⟨rfl, ?_⟩, ?_⟩ | refine ⟨.inl rfl, ?_⟩))⟩
  · have hj' : j = k := by omega
    subst hj'
    refine W.seq (W.region ?_)
    refine sp (v_next_end rfl rfl rfl (by simp; omega)) rfl rfl rfl ?_
    refine sp (v_pure rfl) rfl rfl rfl ?_
    refine WL.nil ?_
    refine W.seq (W.cond_false rfl (W.exit ?_))
    obtain ⟨E, hE⟩ : ∃ E : Nat, E = 4096 := ⟨_, rfl⟩
    have hpow : (10 : Nat) ^ dn.length ≤ LB ^ E := Nat.le_trans (Nat.pow_le_pow_right (by decide) (show dn.length ≤ E by omega)) (Nat.pow_le_pow_left (by decide) E)
    have hd1 := Nat.lt_of_lt_of_le (decF_lt hdl) hpow
    have hn1 : (digs LB (decF dn)).length ≤ 4096 := hE ▸ digs_length (by decide) hd1
    have hpb := decF_lt (l := l.take j) fun c hc => hdig' c (List.mem_of_mem_take hc)
    have hpb2 : (10 : Nat) ^ (l.take j).length ≤ 10 ^ 18 := Nat.pow_le_pow_right (by decide) (by simp; omega)
    have hpb3 : decF (l.take j) < 1000000000000000000 := Nat.lt_of_lt_of_le hpb hpb2
    have hmul : Does Tryd.prog 23 [natRow (digs LB (decF dn)), natRow (trim [1000000000000000000])] (natAV (decF dn * 1000000000000000000)) := by
      have := mul_spec (digs LB (decF dn)) (trim [1000000000000000000]) (digs_canon (by decide) _).1 (trim_canon (B := LB) (fun x hx => by rw [List.mem_singleton] at hx; subst hx; decide)).1 (by omega) (Nat.le_trans (trim_length _) (by simp))
      rw [digs_val (by decide), trim_val] at this
      simpa [val] using this
    have hsum : decF (dn ++ l.take j) = decF dn * 1000000000000000000 + decF (l.take j) := by
      rw [decF_append]
      rcases hk5 with h | h
      · subst h; simp [decF]
      · rw [show (l.take j).length = 18 by simp; omega]
    have hn2 : (digs LB (decF dn * 1000000000000000000)).length ≤ 4097 := by
      have hlt : decF dn * 1000000000000000000 < LB ^ (E + 1) := by
        rw [Nat.pow_succ]
        exact Nat.mul_lt_mul'' hd1 (by decide)
      exact Nat.le_trans (digs_length (by decide) hlt) (by omega)
    have hadd : Does Tryd.prog 61 [natAV (decF dn * 1000000000000000000), natRow (trim [decF (l.take j)])] (natAV (decF (dn ++ l.take j))) := by
      have := add_spec (digs LB (decF dn * 1000000000000000000)) (trim [decF (l.take j)]) (digs_canon (by decide) _).1 (trim_canon (B := LB) (fun x hx => by rw [List.mem_singleton] at hx; subst hx; simp only [LB]; omega)).1 (by omega) (Nat.le_trans (trim_length _) (by simp))
      rw [digs_val (by decide), trim_val] at this
      rw [hsum]
      simpa [val, natAV] using this
    refine W.seq (W.drawnR mixed [57, 58, 59, 60, 61, 62] (by kernel_rfl) ?_)
    apply DrawFrom.stepR
    · intro more
      first | refine sq (v_load rfl rfl rfl rfl rfl) (rfl : _ = AV.agg [_]) rfl rfl rfl ?_ | refine sq (v_load_radr rfl rfl rfl rfl) (rfl : _ = AV.agg [_]) rfl rfl rfl ?_
      exact WL.nil ⟨rfl, rfl⟩
    apply DrawFrom.stepR
    · intro more
      refine sq (v_buildRow rfl rfl rfl rfl rfl rfl rfl (Nat.le_of_ble_eq_true rfl) (Nat.le_of_ble_eq_true rfl) rfl rfl rfl rfl) (rfl : _ = AV.row [_] 1) rfl rfl rfl ?_
      exact WL.nil ⟨rfl, rfl⟩
    apply DrawFrom.stepR
    · intro more
      refine sc (of_spec [1000000000000000000] (by decide)) rfl rfl rfl rfl (by first | rfl | simp [plainL, AV.plain]) (by first | rfl | simp [plainL, AV.plain]) rfl rfl rfl ?_
      exact WL.nil ⟨rfl, rfl⟩
    apply DrawFrom.stepR
    · intro more
      refine sc (hmul) rfl rfl rfl rfl (by first | rfl | simp [plainL, AV.plain]) (by first | rfl | simp [plainL, AV.plain]) rfl rfl rfl ?_
      exact WL.nil ⟨rfl, rfl⟩
    apply DrawFrom.stepR
    · intro more
      refine sp (v_pure rfl) rfl rfl rfl ?_
      exact WL.nil ⟨rfl, rfl⟩
    apply DrawFrom.stepR
    · intro more
      refine sq (v_buildRow rfl rfl rfl rfl rfl rfl rfl (Nat.le_of_ble_eq_true rfl) (Nat.le_of_ble_eq_true rfl) rfl rfl rfl rfl) (rfl : _ = AV.row [_] 1) rfl rfl rfl ?_
      exact WL.nil ⟨rfl, rfl⟩
    refine DrawFrom.doneR (rfl : _ = (_, _) :: (_, _) :: (_, _) :: (_, _) :: (_, _) :: (_, _) :: _) ?_
    refine sc (of_spec [decF (l.take j)] (by simp)) rfl rfl rfl rfl (by first | rfl | simp [plainL, AV.plain]) (by first | rfl | simp [plainL, AV.plain]) rfl rfl rfl ?_
    refine sc (hadd) rfl rfl rfl rfl (by first | rfl | simp [plainL, AV.plain]) (by first | rfl | simp [plainL, AV.plain]) rfl rfl rfl ?_
    refine ss (a_storeA rfl rfl rfl rfl rfl (fun h => by cases h) rfl rfl rfl (Nat.le_of_ble_eq_true rfl)) (rfl : _ = [_, _, _]) rfl rfl ?_
    refine WL.nil ?_
    refine W.region ?_
    refine sp (v_pure rfl) rfl rfl rfl ?_
    refine sp (v_pure rfl) rfl rfl rfl ?_
    refine sq (v_slice_str rfl rfl rfl rfl ⟨_, _, rfl, by omega, rfl⟩ rfl (by omega) (by omega)) (show _ = AV.str (l.drop j) from by simp [List.take_of_length_le]) rfl rfl rfl ?_
    refine sp (v_pure rfl) rfl rfl rfl ?_
    refine WL.nil ?_
    refine W.region ?_
    refine sp (v_pure rfl) rfl rfl rfl ?_
    refine WL.nil ?_
    exact ⟨(l.drop j).length, _, _, by simp; omega, ⟨dn ++ l.take j, l.drop j, false, by rw [List.append_assoc, List.take_append_drop]; exact hsl, rfl, fun h => (by cases h), fun _ => by rw [List.length_drop]; exact hk4, rfl⟩, (by refine ⟨?_, ?_, rfl, Nat.le_of_ble_eq_true rfl⟩ <;> repeat (first | exact trivial | exact rfl | refine ⟨rfl, ?_⟩ | refine ⟨.inr ⟨rfl, ?_⟩, ?_⟩ | refine ⟨.inl rfl, ?_⟩))⟩

end Go.Proofs.YtnlikbgcnofjiaaDoor
