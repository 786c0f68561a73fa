/- chattelref19.Word, chattellaw19.ChartWords. -/
import Derived.Test.YtfiohajalaejoaaDoorChart2
import Derived.Test.YtfiohajalaejoaaDoorLens16
set_option linter.unusedVariables false
set_option linter.unusedSimpArgs false
namespace Go.Proofs.YtfiohajalaejoaaDoor
open Go Go.Lens

theorem refWord_spec (a : Int) : Does Tryd.prog 14 [.int .i64 a] (.str (wordF a)) := by
  refine does tab_ok Tryd.func14 rfl rfl rfl rfl rfl fun w0 H0 hk hj => ?_
  refine W.seq (W.region ?_)
  refine sp (v_pure rfl) rfl rfl rfl ?_
  refine WL.nil ?_
  refine W.seq (W.region ?_)
  refine sq (v_buildRow rfl rfl rfl rfl rfl rfl rfl (Nat.le_of_ble_eq_true rfl) (Nat.le_of_ble_eq_true rfl) rfl rfl rfl rfl) (rfl : _ = AV.row [_, _, _, _, _] 5) rfl rfl rfl ?_
  refine sp (v_pure rfl) rfl rfl rfl ?_
  refine WL.nil ?_
  refine W.seq (W.seq (W.region ?_))
  refine sp (v_pure rfl) rfl rfl rfl ?_
  refine spb (v_pure rfl) rfl rfl rfl (fun h6 => ?_) (fun h6 => ?_)
  · skip
    rw [decide_eq_true_eq] at h6
    refine sp (v_pure rfl) rfl rfl rfl ?_
    refine so rfl rfl rfl ?_
    refine so rfl rfl rfl ?_
    refine sp (v_pure rfl) rfl rfl rfl ?_
    refine WL.nil ?_
    refine W.cond_true rfl ?_
    refine W.seq (W.region ?_)
    refine sp (v_pure rfl) rfl rfl rfl ?_
    refine WL.nil ?_
    refine W.ret (fin rfl (.shut (.plain (by first | rfl | simp [plainL, AV.plain])) .nil) ?_)
    first | rfl | exact congrArg AV.str (by rw [wordF, if_neg]; rw [isF_true]; omega)
  · skip
    rw [decide_eq_false_iff_not] at h6
    refine sp (v_pure rfl) rfl rfl rfl ?_
    refine sp (v_pure rfl) rfl rfl rfl ?_
    refine sp (v_pure rfl) rfl rfl rfl ?_
    refine sp (v_pure rfl) rfl rfl rfl ?_
    refine WL.nil ?_
    refine W.cond rfl (fun hc10 => ?_) (fun hc10 => ?_)
    · rw [decide_eq_true_eq] at hc10
      refine W.seq (W.region ?_)
      refine sp (v_pure rfl) rfl rfl rfl ?_
      refine WL.nil ?_
      refine W.ret (fin rfl (.shut (.plain (by first | rfl | simp [plainL, AV.plain])) .nil) ?_)
      first | rfl | exact congrArg AV.str (by rw [wordF, if_neg]; rw [isF_true]; omega)
    · rw [decide_eq_false_iff_not] at hc10
      refine W.skip ?_
      refine W.seq (W.region ?_)
      refine sp (v_pure rfl) rfl rfl rfl ?_
      refine sp (v_pure rfl) rfl rfl rfl ?_
      refine sp (v_indexAddr_row rfl rfl rfl rfl rfl rfl (by omega) (by omega) (by simp)) rfl rfl rfl ?_
      refine sp (v_load_radr rfl rfl rfl (loadc_at rfl rfl (word_get a (isF_true.2 ⟨by omega, by omega⟩)))) rfl rfl rfl ?_
      refine sp (v_pure rfl) rfl rfl rfl ?_
      refine WL.nil ?_
      refine W.ret (fin rfl (.shut (.plain (by first | rfl | simp [plainL, AV.plain])) .nil) ?_)
      first | rfl | exact congrArg AV.str (by rw [wordF, if_neg]; rw [isF_true]; omega)

theorem word_nth (i : Nat) (h : i < 5) : wordL[i]? = some (wordF i) := by
  have : i = 0 ∨ i = 1 ∨ i = 2 ∨ i = 3 ∨ i = 4 := by omega
  rcases this with rfl | rfl | rfl | rfl | rfl <;> rfl
theorem word_of (i : Nat) (h : i < 5) : ofI (wordF i) = i ∧ ofB (wordF i) = true ∧ wordF i ≠ [] := by
  have : i = 0 ∨ i = 1 ∨ i = 2 ∨ i = 3 ∨ i = 4 := by omega
  rcases this with rfl | rfl | rfl | rfl | rfl <;> exact ⟨by decide, by decide, by decide⟩
/-- where a text stands among the first words; -1: nowhere -/
def atF (s : List UInt8) (i : Nat) : Int := if s ∈ wordL.take i then (wordL.idxOf s : Nat) else -1
theorem atF_hit (i : Nat) (h : i < 5) : atF (wordF i) (i + 1) = i := by
  have : i = 0 ∨ i = 1 ∨ i = 2 ∨ i = 3 ∨ i = 4 := by omega
  rcases this with rfl | rfl | rfl | rfl | rfl <;> decide
theorem atF_miss (s : List UInt8) (i : Nat) (h : i < 5) (hn : wordF i ≠ s) : atF s (i + 1) = atF s i := by
  have : s ∈ wordL.take (i + 1) ↔ s ∈ wordL.take i := by
    rw [List.take_add_one, word_nth i h]
    simp only [Option.toList_some, List.mem_append, List.mem_singleton]
    exact ⟨fun q => q.resolve_right fun e => hn e.symm, .inl⟩
  simp only [atF, this]
theorem atF_five (s : List UInt8) : (ofB s == decide (atF s 5 ≥ 0)) = true ∧ ofI s = (if atF s 5 < 0 then 0 else atF s 5) := by
  have e : wordL.take 5 = wordL := rfl
  simp only [atF, e, ofB, ofI]
  by_cases h : s ∈ wordL
  · simp only [if_pos h, h, decide_true]
    refine ⟨by simp, (if_neg (Int.not_lt.2 (Int.natCast_nonneg _))).symm⟩
  · simp only [if_neg h, h, decide_false]
    exact ⟨rfl, rfl⟩

theorem chartWords_spec (s : List UInt8) (n : Int) : Does Tryd.prog 4 [.str s, .int .i64 n] (.bool true) := by
  refine does tab_ok Tryd.func4 rfl rfl rfl rfl rfl fun w0 H0 hk hj => ?_
  refine W.seq (W.region ?_)
  refine sp (v_pure rfl) rfl rfl rfl ?_
  refine WL.nil ?_
  refine W.seq (W.region ?_)
  refine sp (v_pure rfl) rfl rfl rfl ?_
  refine WL.nil ?_
  refine W.seq (W.seq (W.region ?_))
  refine sp (v_pure rfl) rfl rfl rfl ?_
  refine WL.nil ?_
  refine W.block ?_
  refine W.while (fun m st => ∃ i : Nat, i ≤ 5 ∧ m = 5 - i ∧ st = ⟨[(0, .str s), (1, .int .i64 n), (5, .int .i64 (atF s i)), (12, .int .i64 i)], []⟩) 5 ⟨0, by omega, rfl, rfl⟩ (by refine ⟨?_, ?_, rfl, Nat.le_of_ble_eq_true rfl⟩ <;> repeat (first | exact trivial | exact rfl | refine ⟨rfl, ?_⟩ | refine ⟨.inr ⟨rfl, ?_⟩, ?_⟩ | refine ⟨.inl rfl, ?_⟩)) ?_
  rintro m _ ⟨i, hi, rfl, rfl⟩
  by_cases hlt : i < 5
  · obtain ⟨hw1, hw2, hw3⟩ := word_of i hlt
    refine W.seq (W.region ?_)
    refine sp (v_is true rfl rfl rfl rfl (decide_eq_true (show (i : Int) < 5 by omega))) rfl rfl rfl ?_
    refine WL.nil ?_
    refine W.seq (W.cond_true rfl (W.skip ?_))
    refine W.seq (W.block ?_)
    refine W.seq (W.region ?_)
    refine sp (v_pure rfl) rfl rfl rfl ?_
    refine sp (v_pure rfl) rfl rfl rfl ?_
    refine WL.nil ?_
    refine W.seq (W.region ?_)
    refine sp (v_pure rfl) rfl rfl rfl ?_
    refine sc (refWord_spec (i : Int)) rfl rfl rfl rfl (by first | rfl | simp [plainL, AV.plain]) (by first | rfl | simp [plainL, AV.plain]) rfl rfl rfl ?_
    refine sp (v_pure rfl) rfl rfl rfl ?_
    refine WL.nil ?_
    refine W.seq (W.region ?_)
    refine sp (v_pure rfl) rfl rfl rfl ?_
    refine sc (of_spec2 (wordF i)) rfl rfl rfl rfl (by first | rfl | simp [plainL, AV.plain]) (by first | rfl | simp [plainL, AV.plain]) rfl rfl rfl ?_
    refine sp (v_pure rfl) rfl rfl rfl ?_
    refine sq (v_pure rfl) (show _ = AV.int .i64 i from congrArg (AV.int .i64) hw1) rfl rfl rfl ?_
    refine sq (v_pure rfl) (show _ = AV.bool true from congrArg AV.bool hw2) rfl rfl rfl ?_
    refine sp (v_pure rfl) rfl rfl rfl ?_
    refine sp (v_pure rfl) rfl rfl rfl ?_
    refine WL.nil ?_
    refine W.seq (W.seq (W.region ?_))
    refine sp (v_pure rfl) rfl rfl rfl ?_
    refine sp (v_pure rfl) rfl rfl rfl ?_
    refine sp (v_is false rfl rfl rfl rfl (by simp)) rfl rfl rfl ?_
    refine sp (v_pure rfl) rfl rfl rfl ?_
    refine sp (v_pure rfl) rfl rfl rfl ?_
    refine sp (v_pure rfl) rfl rfl rfl ?_
    refine sp (v_pure rfl) rfl rfl rfl ?_
    refine sp (v_pure rfl) rfl rfl rfl ?_
    refine sp (v_pure rfl) rfl rfl rfl ?_
    refine sc (word_spec (i : Int)) rfl rfl rfl rfl (by first | rfl | simp [plainL, AV.plain]) (by first | rfl | simp [plainL, AV.plain]) rfl rfl rfl ?_
    refine sp (v_pure rfl) rfl rfl rfl ?_
    refine sp (v_is false rfl rfl rfl rfl (by simp)) rfl rfl rfl ?_
    refine sp (v_pure rfl) rfl rfl rfl ?_
    refine sp (v_pure rfl) rfl rfl rfl ?_
    refine sp (v_pure rfl) rfl rfl rfl ?_
    refine sp (v_is false rfl rfl rfl rfl (by simpa using hw3)) rfl rfl rfl ?_
    refine sp (v_pure rfl) rfl rfl rfl ?_
    refine WL.nil ?_
    refine W.cond_false rfl (W.skip ?_)
    refine W.seq (W.region ?_)
    refine sp (v_pure rfl) rfl rfl rfl ?_
    refine sp (v_pure rfl) rfl rfl rfl ?_
    refine sp (v_pure rfl) rfl rfl rfl ?_
    refine WL.nil ?_
    refine W.cond rfl (fun hc => ?_) (fun hc => ?_)
    · have hws : wordF i = s := by simpa using hc
      refine W.region ?_
      refine sq (v_pure rfl) (show _ = AV.int .i64 (atF s (i + 1)) from congrArg (AV.int .i64) (by rw [← hws]; exact (atF_hit i hlt).symm)) rfl rfl rfl ?_
      refine sp (v_pure rfl) rfl rfl rfl ?_
      refine WL.nil ?_
      refine W.region ?_
      refine sp (v_i64 rfl rfl rfl rfl (by omega) (by omega)) rfl rfl rfl ?_
      refine sp (v_pure rfl) rfl rfl rfl ?_
      refine WL.nil ?_
      exact ⟨5 - (i + 1), _, _, by omega, ⟨i + 1, by omega, rfl, rfl⟩, (by refine ⟨?_, ?_, rfl, Nat.le_of_ble_eq_true rfl⟩ <;> repeat (first | exact trivial | exact rfl | refine ⟨rfl, ?_⟩ | refine ⟨.inr ⟨rfl, ?_⟩, ?_⟩ | refine ⟨.inl rfl, ?_⟩))⟩
    · have hws : wordF i ≠ s := by intro h; rw [h] at hc; simp at hc
      rw [← atF_miss s i hlt hws]
      refine W.skip ?_
      refine W.region ?_
      refine sp (v_i64 rfl rfl rfl rfl (by omega) (by omega)) rfl rfl rfl ?_
      refine sp (v_pure rfl) rfl rfl rfl ?_
      refine WL.nil ?_
      exact ⟨5 - (i + 1), _, _, by omega, ⟨i + 1, by omega, rfl, rfl⟩, (by refine ⟨?_, ?_, rfl, Nat.le_of_ble_eq_true rfl⟩ <;> repeat (first | exact trivial | exact rfl | refine ⟨rfl, ?_⟩ | refine ⟨.inr ⟨rfl, ?_⟩, ?_⟩ | refine ⟨.inl rfl, ?_⟩))⟩
  · have hi5 : i = 5 := by omega
    subst hi5
    obtain ⟨hf1, hf2⟩ := atF_five s
    refine W.seq (W.region ?_)
    refine sp (v_is false rfl rfl rfl rfl (decide_eq_false (show ¬ (((5 : Nat) : Int) < 5) by omega))) rfl rfl rfl ?_
    refine WL.nil ?_
    refine W.seq (W.cond_false rfl (W.exit ?_))
    refine W.seq (W.region ?_)
    refine sp (v_pure rfl) rfl rfl rfl ?_
    refine sc (of_spec2 s) rfl rfl rfl rfl (by first | rfl | simp [plainL, AV.plain]) (by first | rfl | simp [plainL, AV.plain]) rfl rfl rfl ?_
    refine sp (v_pure rfl) rfl rfl rfl ?_
    refine sp (v_pure rfl) rfl rfl rfl ?_
    refine sp (v_pure rfl) rfl rfl rfl ?_
    refine sp (v_pure rfl) rfl rfl rfl ?_
    refine sp (v_pure rfl) rfl rfl rfl ?_
    refine WL.nil ?_
    refine W.seq (W.region ?_)
    refine sc (wakes19_spec) rfl rfl rfl rfl (by first | rfl | simp [plainL, AV.plain]) (by first | rfl | simp [plainL, AV.plain]) rfl rfl rfl ?_
    refine sp (v_pure rfl) rfl rfl rfl ?_
    refine sp (v_pure rfl) rfl rfl rfl ?_
    refine sp (v_pure rfl) rfl rfl rfl ?_
    refine sp (v_pure rfl) rfl rfl rfl ?_
    refine sc (word_spec n) rfl rfl rfl rfl (by first | rfl | simp [plainL, AV.plain]) (by first | rfl | simp [plainL, AV.plain]) rfl rfl rfl ?_
    refine sp (v_pure rfl) rfl rfl rfl ?_
    refine sc (refWord_spec n) rfl rfl rfl rfl (by first | rfl | simp [plainL, AV.plain]) (by first | rfl | simp [plainL, AV.plain]) rfl rfl rfl ?_
    refine sp (v_is true rfl rfl rfl rfl (by simp)) rfl rfl rfl ?_
    refine sp (v_pure rfl) rfl rfl rfl ?_
    refine sp (v_pure rfl) rfl rfl rfl ?_
    refine sp (v_pure rfl) rfl rfl rfl ?_
    refine sp (v_pure rfl) rfl rfl rfl ?_
    refine sp (v_pure rfl) rfl rfl rfl ?_
    refine sq (v_eq_bool rfl rfl rfl rfl rfl) (show _ = AV.bool true from congrArg AV.bool hf1) rfl rfl rfl ?_
    refine sp (v_pure rfl) rfl rfl rfl ?_
    refine sp (v_pure rfl) rfl rfl rfl ?_
    refine sp (v_pure rfl) rfl rfl rfl ?_
    refine sp (v_pure rfl) rfl rfl rfl ?_
    refine sp (v_max2 rfl rfl rfl) rfl rfl rfl ?_
    refine sp (v_is true rfl rfl rfl rfl (by simp [hf2])) rfl rfl rfl ?_
    refine sp (v_pure rfl) rfl rfl rfl ?_
    refine sp (v_pure rfl) rfl rfl rfl ?_
    refine WL.nil ?_
    exact W.ret (fin rfl (.shut (.plain rfl) .nil) rfl)

theorem chartWords_all {H : Type} (ds : List (DataW H)) (h : shapes (shapeT tab 8) [9, 3] ds) : Does Tryd.prog 4 (ds.map avArg) (.bool true) := by
  obtain ⟨_, _, rfl, ⟨s, rfl, _⟩, ⟨_, _, rfl, ⟨n, rfl, _⟩, rfl⟩⟩ := h
  exact chartWords_spec s n

end Go.Proofs.YtfiohajalaejoaaDoor
