/- chart: words, Word, Of. -/
import Derived.Test.YtfiohajalaejoaaDoorChart0
set_option linter.unusedVariables false
set_option linter.unusedSimpArgs false
namespace Go.Proofs.YtfiohajalaejoaaDoor
open Go Go.Lens

def wordL : List (List UInt8) := [[99, 97, 115, 104], [108, 111, 97, 110], [97, 99, 99, 114, 117, 101, 100], [100, 117, 101], [105, 110, 99, 111, 109, 101]]
def wordsAV : AV := .agg (wordL.map AV.str)
theorem words_spec : Does Tryd.prog 32 [] wordsAV := by
  refine does tab_ok Tryd.func32 rfl rfl rfl rfl rfl fun w0 H0 hk hj => ?_
  refine W.seq (W.region ?_)
  refine sn (a_alloc rfl rfl rfl rfl) (rfl : _ = AV.ptr 0 0 0) (rfl : _ = [_]) rfl rfl rfl ?_
  refine WL.nil ?_
  refine W.seq (W.region ?_)
  refine sq (v_build rfl rfl rfl rfl rfl rfl rfl) (rfl : _ = AV.agg [_, _, _, _, _]) rfl rfl rfl ?_
  refine ss (a_storeA rfl rfl rfl rfl rfl (fun h => by cases h) rfl rfl rfl (Nat.le_of_ble_eq_true rfl)) (rfl : _ = [_]) rfl rfl ?_
  refine WL.nil ?_
  refine W.ret (fin rfl (.shut (.plain (by first | rfl | simp [plainL, AV.plain])) .nil) ?_)
  rfl
def wordF (a : Int) : List UInt8 := if isF a then wordL.getD a.toNat [] else []
theorem word_get (a : Int) (h : isF a = true) : (wordL.map AV.str)[a.toNat * 1]? = some (.str (wordF a)) := by
  simp only [isF, Bool.and_eq_true, decide_eq_true_eq] at h
  have : a = 0 ∨ a = 1 ∨ a = 2 ∨ a = 3 ∨ a = 4 := by omega
  rcases this with rfl | rfl | rfl | rfl | rfl <;> rfl
theorem isF_true {a : Int} : isF a = true ↔ 0 ≤ a ∧ a < 5 := by simp [isF]
theorem word_spec (a : Int) : Does Tryd.prog 16 [.int .i64 a] (.str (wordF a)) := by
  refine does tab_ok Tryd.func16 rfl rfl rfl rfl rfl fun w0 H0 hk hj => ?_
  refine W.seq (W.region ?_)
  refine sp (v_pure rfl) rfl rfl rfl ?_
  refine WL.nil ?_
  refine W.seq (W.seq (W.region ?_))
  refine sp (v_pure rfl) rfl rfl rfl ?_
  refine sc (is_spec a) rfl rfl rfl rfl (by first | rfl | simp [plainL, AV.plain]) (by first | rfl | simp [plainL, AV.plain]) rfl rfl rfl ?_
  refine sp (v_pure rfl) rfl rfl rfl ?_
  refine WL.nil ?_
  refine W.cond rfl (fun hc5 => ?_) (fun hc5 => ?_)
  · skip
    simp only [Bool.not_eq_true', Bool.not_eq_false'] at hc5
    refine W.seq (W.region ?_)
    refine sp (v_pure rfl) rfl rfl rfl ?_
    refine WL.nil ?_
    refine W.ret (fin rfl (.shut (.plain (by first | rfl | simp [plainL, AV.plain])) .nil) ?_)
    first | rfl | (refine congrArg AV.str ?_; simp [wordF, hc5])
  · skip
    simp only [Bool.not_eq_true', Bool.not_eq_false'] at hc5
    refine W.skip ?_
    refine W.seq (W.region ?_)
    refine sc (words_spec) rfl rfl rfl rfl (by first | rfl | simp [plainL, AV.plain]) (by first | rfl | simp [plainL, AV.plain]) rfl rfl rfl ?_
    refine sp (v_pure rfl) rfl rfl rfl ?_
    refine sp (v_index_arr rfl rfl rfl rfl rfl rfl (isF_true.1 hc5).1 (isF_true.1 hc5).2 (word_get a hc5)) rfl rfl rfl ?_
    refine sp (v_pure rfl) rfl rfl rfl ?_
    refine WL.nil ?_
    refine W.ret (fin rfl (.shut (.plain (by first | rfl | simp [plainL, AV.plain])) .nil) ?_)
    first | rfl | (refine congrArg AV.str ?_; simp [wordF, hc5])

def ofI (s : List UInt8) : Int := if s ∈ wordL then (wordL.idxOf s : Nat) else 0
def ofB (s : List UInt8) : Bool := decide (s ∈ wordL)
theorem of_spec2 (s : List UInt8) : Does Tryd.prog 15 [.str s] (.tup [.int .i64 (ofI s), .bool (ofB s)]) := by
  refine does tab_ok Tryd.func15 rfl rfl rfl rfl rfl fun w0 H0 hk hj => ?_
  refine W.seq (W.region ?_)
  refine sp (v_pure rfl) rfl rfl rfl ?_
  refine sp (v_pure rfl) rfl rfl rfl ?_
  refine WL.nil ?_
  refine W.seq (W.seq (W.region ?_))
  refine sc (words_spec) rfl rfl rfl rfl (by first | rfl | simp [plainL, AV.plain]) (by first | rfl | simp [plainL, AV.plain]) rfl rfl rfl ?_
  refine sp (v_pure rfl) rfl rfl rfl ?_
  refine WL.nil ?_
  refine W.block ?_
  refine W.while (fun m st => ∃ i : Nat, i ≤ 5 ∧ m = 5 - i ∧ (∀ j : Nat, j < i → wordL[j]? ≠ some s) ∧ st = ⟨[(0, .str s), (6, wordsAV), (7, .int .i64 i)], []⟩) 5 ⟨0, by omega, rfl, fun j h => by omega, rfl⟩ (by refine ⟨?_, ?_, rfl, Nat.le_of_ble_eq_true rfl⟩ <;> repeat (first | exact trivial | exact rfl | refine ⟨rfl, ?_⟩ | refine ⟨.inr ⟨rfl, ?_⟩, ?_⟩ | refine ⟨.inl rfl, ?_⟩)) ?_
  rintro m _ ⟨i, hi, rfl, hno, rfl⟩
  by_cases hlt : i < 5
  · obtain ⟨w, hw⟩ : ∃ w, wordL[i]? = some w := ⟨wordL[i]'(by simpa [wordL] using hlt), by simp⟩
    have hget : (wordL.map AV.str)[(i : Int).toNat * 1]? = some (.str w) := by simp [hw]
    refine W.seq (W.region ?_)
    refine sp (v_is true rfl rfl rfl rfl (decide_eq_true (show (i : Int) < 5 by omega))) rfl rfl rfl ?_
    refine WL.nil ?_
    refine W.seq (W.cond_true rfl (W.skip ?_))
    refine W.seq (W.block ?_)
    refine W.seq (W.region ?_)
    refine sp (v_pure rfl) rfl rfl rfl ?_
    refine sp (v_index_arr rfl rfl rfl rfl rfl rfl (by omega) (by omega) hget) rfl rfl rfl ?_
    refine sp (v_pure rfl) rfl rfl rfl ?_
    refine sp (v_pure rfl) rfl rfl rfl ?_
    refine WL.nil ?_
    refine W.seq (W.region ?_)
    refine sp (v_pure rfl) rfl rfl rfl ?_
    refine sp (v_pure rfl) rfl rfl rfl ?_
    refine sp (v_pure rfl) rfl rfl rfl ?_
    refine WL.nil ?_
    refine W.cond rfl (fun hc => ?_) (fun hc => ?_)
    · have hws : w = s := by simpa using hc
      subst hws
      refine W.seq (W.region ?_)
      refine sp (v_pure rfl) rfl rfl rfl ?_
      refine sp (v_pure rfl) rfl rfl rfl ?_
      refine sp (v_pure rfl) rfl rfl rfl ?_
      refine WL.nil ?_
      refine W.ret (fin rfl (.shut (.plain rfl) (.shut (.plain rfl) .nil)) ?_)
      have hm : w ∈ wordL := List.mem_of_getElem? hw
      have hix : wordL.idxOf w = i := by
        have : i = 0 ∨ i = 1 ∨ i = 2 ∨ i = 3 ∨ i = 4 := by omega
        rcases this with rfl | rfl | rfl | rfl | rfl <;> (simp [wordL] at hw; subst hw; decide)
      simp [tupAV, ofI, ofB, hm, hix]
    · refine W.skip ?_
      have hws : w ≠ s := by intro h; subst h; simp at hc
      refine W.region ?_
      refine sp (v_i64 rfl rfl rfl rfl (by omega) (by omega)) rfl rfl rfl ?_
      refine sp (v_pure rfl) rfl rfl rfl ?_
      refine WL.nil ?_
      refine ⟨5 - (i + 1), _, _, by omega, ⟨i + 1, by omega, rfl, fun j hj' => ?_, rfl⟩, (by refine ⟨?_, ?_, rfl, Nat.le_of_ble_eq_true rfl⟩ <;> repeat (first | exact trivial | exact rfl | refine ⟨rfl, ?_⟩ | refine ⟨.inr ⟨rfl, ?_⟩, ?_⟩ | refine ⟨.inl rfl, ?_⟩))⟩
      rcases Nat.lt_or_ge j i with h | h
      · exact hno j h
      · have : j = i := by omega
        subst this; rw [hw]; simpa using hws
  · have hi5 : i = 5 := by omega
    subst hi5
    have hm : s ∉ wordL := by
      intro h
      obtain ⟨j, hj'⟩ := List.getElem?_of_mem h
      have := (List.getElem?_eq_some_iff.1 hj').1
      exact hno j (by simpa [wordL] using this) hj'
    refine W.seq (W.region ?_)
    refine sp (v_is false rfl rfl rfl rfl (decide_eq_false (show ¬ (((5 : Nat) : Int) < 5) by omega))) rfl rfl rfl ?_
    refine WL.nil ?_
    refine W.seq (W.cond_false rfl (W.exit ?_))
    refine W.seq (W.region ?_)
    refine sp (v_pure rfl) rfl rfl rfl ?_
    refine sp (v_pure rfl) rfl rfl rfl ?_
    refine WL.nil ?_
    refine W.ret (fin rfl (.shut (.plain rfl) (.shut (.plain rfl) .nil)) ?_)
    simp [tupAV, ofI, ofB, hm]

end Go.Proofs.YtfiohajalaejoaaDoor
