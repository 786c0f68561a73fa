/- The document's decimals: chattelref07.Parse. Lens, part 19: what strings.Builder is made of: pointers compared, unsafe pointers, texts appended to bytes, bytes as a text. -/
import Derived.Test.YtfiohajalaejoaaDoorKLexLongUpto7
import Derived.Lib.Builder
import Derived.Lib.AppendStr
import Derived.Lib.UnsafeStr
import Derived.Laws.BytesString
import Derived.Laws.Pointers

set_option linter.unusedVariables false
set_option linter.unusedSimpArgs false
namespace Go.Proofs.YtfiohajalaejoaaDoor
open Go Go.Lens

def rDecAV (z : Int) (k : Nat) : AV := .agg [.row (i64AV (digs DB z.natAbs)) (digs DB z.natAbs).length, .bool (decide (z < 0)), .int .i64 k]
@[simp] theorem rDecAV_plain (z : Int) (k : Nat) : (rDecAV z k).plain = true := by simp [rDecAV, AV.plain, plainL]
theorem rDecAV_zero : rDecAV 0 0 = .agg [.row [] 0, .bool false, .int .i64 0] := by rw [rDecAV, show (0 : Int).natAbs = 0 from rfl, digs_zero]; rfl
theorem rdec_nils : Sub (.agg [.nils, .bool false, .int .i64 0]) (rDecAV 0 0) := by rw [rDecAV_zero]; exact Sub.agg1 Sub.nils
def dZ (s : List UInt8) : Int := if signP s then -((decF (dAll s) : Nat) : Int) else (decF (dAll s) : Nat)
def rdAV (s : List UInt8) : AV := if dErr s = 0 then rDecAV (dZ s) (dBehind s).length else rDecAV 0 0

/-- what of the text is read -/
structure Seen (p : List UInt8) (j : Nat) (A B : List UInt8) (dt : Bool) : Prop where
  eq : p.take j = if dt then A ++ 46 :: B else A
  nodot : dt = false → B = []
  dA : ∀ c ∈ A, isDig c = true
  dB : ∀ c ∈ B, isDig c = true
theorem dig46 {c : UInt8} (h : isDig c = true) : (c != 46) = true := by
  rw [bne_iff_ne]; intro e; subst e; exact absurd h (by decide)
theorem cutA_dot {A r : List UInt8} (h : ∀ c ∈ A, isDig c = true) : cutA 46 (A ++ 46 :: r) = A ∧ cutB 46 (A ++ 46 :: r) = r := by
  constructor
  · rw [cutA, List.takeWhile_append_of_pos (fun c hc => dig46 (h c hc))]; simp
  · rw [cutB, List.dropWhile_append_of_pos (fun c hc => dig46 (h c hc))]; simp
theorem cutA_nodot {A : List UInt8} (h : ∀ c ∈ A, (c != 46) = true) : cutA 46 A = A ∧ cutB 46 A = [] := by
  constructor
  · exact takeWhile_self h
  · rw [cutB, dropWhile_nil.2 h]; rfl
theorem digsOK_digs {t : List UInt8} (h : ∀ c ∈ t, isDig c = true) : digsOK t = !(t == []) := by
  rw [digsOK, List.all_eq_true.2 h, Bool.and_true]
/-- a sign that may not be -/
theorem seen_bad {p A B : List UInt8} {j : Nat} {dt : Bool} {c : UInt8} (h : Seen p j A B dt) (hc : p[j]? = some c) (hd : isDig c = false) (hdot : dt = true ∨ c ≠ 46) : digsOK (cutA 46 p) = false ∨ (p.contains 46 = true ∧ digsOK (cutB 46 p) = false) := by
  obtain ⟨hlt, hget⟩ := List.getElem?_eq_some_iff.1 hc
  have hp : p = p.take j ++ c :: p.drop (j + 1) := by rw [← hget, List.getElem_cons_drop, List.take_append_drop]
  rw [h.eq] at hp
  cases hdt : dt with
  | false =>
    rw [hdt] at hp hdot
    have hne : c ≠ 46 := hdot.resolve_left (by decide)
    left
    rw [if_neg (by decide)] at hp
    have : c ∈ cutA 46 p := by
      rw [cutA, hp, List.takeWhile_append_of_pos (fun c hc => dig46 (h.dA c hc)), List.takeWhile_cons, if_pos (by rw [bne_iff_ne]; exact hne)]
      simp
    rw [digsOK, Bool.and_eq_false_iff]; right
    rw [Bool.eq_false_iff]
    intro hall
    rw [List.all_eq_true] at hall
    rw [hall c this] at hd; cases hd
  | true =>
    rw [hdt, if_pos rfl, List.append_assoc, List.cons_append] at hp
    right
    refine ⟨by rw [hp]; simp, ?_⟩
    rw [hp, (cutA_dot h.dA).2, digsOK, Bool.and_eq_false_iff]; right
    rw [Bool.eq_false_iff]
    intro hall
    rw [List.all_eq_true] at hall
    rw [hall c (by simp)] at hd; cases hd
theorem seen_all {p A B : List UInt8} {dt : Bool} (h : Seen p p.length A B dt) : cutA 46 p = A ∧ cutB 46 p = B ∧ p.contains 46 = dt := by
  have hp := h.eq
  rw [List.take_length] at hp
  cases hdt : dt with
  | false =>
    rw [hdt, if_neg (by decide)] at hp
    have h1 : ∀ c ∈ p, (c != 46) = true := fun c hc => dig46 (h.dA c (hp ▸ hc))
    refine ⟨(cutA_nodot h1).1.trans hp, (cutA_nodot h1).2.trans (h.nodot hdt).symm, ?_⟩
    rw [Bool.eq_false_iff]
    intro hc
    have := h1 46 (by simpa using hc)
    exact absurd this (by decide)
  | true =>
    rw [hdt, if_pos rfl] at hp
    rw [hp]
    exact ⟨(cutA_dot h.dA).1, (cutA_dot h.dA).2, by simp⟩

set_option maxHeartbeats 1600000 in
theorem rDecParse_spec (s : List UInt8) (hs : s.length ≤ 1000000000) : Does Tryd.prog 40 [.str s] (.tup [rdAV s, .int .i64 (dErr s)]) := by
  obtain ⟨p, hp⟩ : ∃ p, p = plainP s := ⟨_, rfl⟩
  obtain ⟨off, hoff⟩ : ∃ off, off = if signP s then 1 else 0 := ⟨_, rfl⟩
  have hsp : s.drop off = p ∧ off ≤ s.length := by
    rw [hp, hoff, plainP]
    by_cases h : hasP s [45] = true
    · rw [signP, if_pos h, if_pos h]
      refine ⟨rfl, ?_⟩
      rcases s with _ | ⟨c, r⟩
      · simp [hasP] at h
      · simp
    · rw [signP, if_neg h, if_neg h]
      exact ⟨rfl, Nat.zero_le _⟩
  have hpl : off + p.length = s.length := by rw [← hsp.1, List.length_drop]; omega
  have hget : ∀ j, s[off + j]? = p[j]? := fun j => by rw [← hsp.1, List.getElem?_drop]
  have hdA : dAhead s = cutA 46 p := by rw [dAhead, hp]
  have hdB : dBehind s = cutB 46 p := by rw [dBehind, hp]
  have hdD : dDot s = p.contains 46 := by rw [dDot, hp]
  have herr5 : dErr s = 5 → AV.tup [rdAV s, .int .i64 (dErr s)] = .tup [rDecAV 0 0, .int .i64 5] := fun h => by rw [rdAV, h]; rfl
  refine does tab_ok Tryd.func40 rfl rfl rfl rfl rfl fun w0 H0 hk hj => ?_
  --@ n 0
  refine W.seq (W.region ?_)
  refine z_a 0 [_] ?_
  refine z_p ?_
  refine WL.nil ?_
  refine W.seq (W.region ?_)
  refine sp (VStep.sub (v_build rfl rfl rfl rfl rfl rfl rfl) rdec_nils) rfl rfl rfl ?_
  refine z_a 1 [_, _] ?_
  refine z_s [_, _] ?_
  refine WL.nil ?_
  refine W.seq (W.region ?_)
  refine z_p ?_
  refine WL.nil ?_
  refine W.seq (W.region ?_)
  refine z_p ?_
  refine WL.nil ?_
  obtain ⟨o2, ho2⟩ : ∃ o2 : AObj, o2 = .cells [.row (i64AV (digs DB (0 : Int).natAbs)) (digs DB (0 : Int).natAbs).length, .bool (decide ((0 : Int) < 0)), .int .i64 ((0 : Nat) : Int)] 0 1 false none := ⟨_, rfl⟩
  obtain ⟨o1, ho1⟩ : ∃ o1 : AObj, o1 = .cells [.nils, .bool false, .int .i64 0] 0 1 false none := ⟨_, rfl⟩
  refine W.seq (W.cut [(0, .str s), (2, .ptr 0 0 0), (4, .ptr 1 0 0), (5, .bool (signP s)), (6, .int .i64 off)] [o1, o2] ?_ ?_)
  · subst ho1; subst ho2
    rcases s with _ | ⟨c, r⟩
    · have h1 : signP [] = false := rfl
      rw [h1] at hoff
      rw [h1, hoff]
      refine W.seq (W.region ?_)
      refine z_p ?_
      refine sp (v_len rfl rfl rfl rfl rfl trivial) rfl rfl rfl ?_
      refine z_F (show ¬ (0 : Int) > 0 by decide) ?_
      refine z_p ?_
      refine z_o ?_
      refine z_o ?_
      refine z_o ?_
      refine z_p ?_
      refine WL.nil ?_
      refine W.cond_false rfl (W.skip ?_)
      exact ⟨rfl, (by refine ⟨?_, ?_, rfl, Nat.le_of_ble_eq_true rfl⟩ <;> repeat (first | exact trivial | exact rfl | refine ⟨rfl, ?_⟩ | refine ⟨.inr ⟨rfl, ?_⟩, ?_⟩ | refine ⟨.inl rfl, ?_⟩))⟩
    · have h0 : (c :: r)[(0 : Int).toNat]? = some c := rfl
      have hsg : signP (c :: r) = (c == 45) := by simp [signP, hasP]
      cases hc : (c == 45) with
      | true =>
        rw [hsg, hc] at hoff
        rw [hsg, hc, hoff]
        refine W.seq (W.region ?_)
        refine z_p ?_
        refine sp (v_len rfl rfl rfl rfl rfl trivial) rfl rfl rfl ?_
        refine z_T (show (((c :: r).length : Nat) : Int) > 0 by simp) ?_
        refine z_p ?_
        refine z_p ?_
        refine sp (v_index_str rfl rfl rfl rfl rfl (by omega) h0) rfl rfl rfl ?_
        refine sq (v_pure rfl) (show _ = AV.bool true from congrArg AV.bool ((b_eqI c 45 (by decide)).trans hc)) rfl rfl rfl ?_
        refine z_p ?_
        refine WL.nil ?_
        refine W.cond_true rfl ?_
        refine W.seq (W.region ?_)
        refine z_p ?_
        refine WL.nil ?_
        refine W.region ?_
        refine z_p ?_
        refine WL.nil ?_
        exact ⟨rfl, (by refine ⟨?_, ?_, rfl, Nat.le_of_ble_eq_true rfl⟩ <;> repeat (first | exact trivial | exact rfl | refine ⟨rfl, ?_⟩ | refine ⟨.inr ⟨rfl, ?_⟩, ?_⟩ | refine ⟨.inl rfl, ?_⟩))⟩
      | false =>
        rw [hsg, hc] at hoff
        rw [hsg, hc, hoff]
        refine W.seq (W.region ?_)
        refine z_p ?_
        refine sp (v_len rfl rfl rfl rfl rfl trivial) rfl rfl rfl ?_
        refine z_T (show (((c :: r).length : Nat) : Int) > 0 by simp) ?_
        refine z_p ?_
        refine z_p ?_
        refine sp (v_index_str rfl rfl rfl rfl rfl (by omega) h0) rfl rfl rfl ?_
        refine sq (v_pure rfl) (show _ = AV.bool false from congrArg AV.bool ((b_eqI c 45 (by decide)).trans hc)) rfl rfl rfl ?_
        refine z_p ?_
        refine WL.nil ?_
        refine W.cond_false rfl (W.skip ?_)
        exact ⟨rfl, (by refine ⟨?_, ?_, rfl, Nat.le_of_ble_eq_true rfl⟩ <;> repeat (first | exact trivial | exact rfl | refine ⟨rfl, ?_⟩ | refine ⟨.inr ⟨rfl, ?_⟩, ?_⟩ | refine ⟨.inl rfl, ?_⟩))⟩
  refine W.seq (W.region ?_)
  refine z_p ?_
  refine WL.nil ?_
  refine W.seq (W.region ?_)
  refine z_p ?_
  refine WL.nil ?_
  refine W.seq (W.region ?_)
  refine z_p ?_
  refine WL.nil ?_
  refine W.seq (W.region ?_)
  refine z_p ?_
  refine WL.nil ?_
  refine W.seq (W.block ?_)
  refine W.while (fun m st => ∃ (j : Nat) (A B : List UInt8) (dt : Bool) (be : Int), m = p.length - j ∧ j ≤ p.length ∧ Seen p j A B dt ∧ be = (if dt then (B.length : Int) else -1) ∧
      st = ⟨[(0, .str s), (2, .ptr 0 0 0), (4, .ptr 1 0 0), (5, .bool (signP s)), (6, .int .i64 ((off + j : Nat) : Int)), (7, .str (A ++ B)), (8, .int .i64 (A.length : Nat)), (9, .int .i64 be), (10, .bool ((A ++ B).all (· == 48)))], [o1, o2]⟩) p.length
    ⟨0, [], [], false, -1, by omega, by omega, ⟨rfl, (fun _ => rfl), (fun c h => by cases h), (fun c h => by cases h)⟩, rfl, rfl⟩ (by rw [Nat.add_zero]; cases h : signP s <;> subst ho1 <;> subst ho2 <;> exact (by refine ⟨?_, ?_, rfl, Nat.le_of_ble_eq_true rfl⟩ <;> repeat (first | exact trivial | exact rfl | refine ⟨rfl, ?_⟩ | refine ⟨.inr ⟨rfl, ?_⟩, ?_⟩ | refine ⟨.inl rfl, ?_⟩))) ?_
  rintro m _ ⟨j, A, B, dt, be, rfl, hj, hseen, hbe, rfl⟩
  have hAl : A.length + B.length ≤ j := by
    have := congrArg List.length hseen.eq
    rw [List.length_take] at this
    cases dt <;> simp at this <;> first | (have := hseen.nodot rfl; subst this; simp; omega) | omega
  by_cases hlt : j < p.length
  · obtain ⟨c, hc⟩ : ∃ c, p[j]? = some c := ⟨p[j], by simp [hlt]⟩
    have hcs : s[((off + j : Nat) : Int).toNat]? = some c := by rw [Int.toNat_natCast, hget]; exact hc
    have htk : p.take (j + 1) = p.take j ++ [c] := by
      obtain ⟨h1, h2⟩ := List.getElem?_eq_some_iff.1 hc
      rw [List.take_succ_eq_append_getElem h1, h2]
    have hz0 : be < 0 ↔ dt = false := by rw [hbe]; cases dt <;> simp <;> omega
    by_cases hfirst : c = 46 ∧ dt = false
    · obtain ⟨hc46, hdt⟩ := hfirst
      have h46 : (c == UInt8.ofNat 46) = true := by rw [hc46]; rfl
      have hB := hseen.nodot hdt
      subst hB
      have hlt0 := hz0.2 hdt
      refine W.seq (W.seq (W.region ?_))
      refine z_p ?_
      refine z_p ?_
      refine sp (v_len rfl rfl rfl rfl rfl trivial) rfl rfl rfl ?_
      refine z_T (show ((off + j : Nat) : Int) < s.length by omega) ?_
      refine WL.nil ?_
      refine W.cond_true rfl (W.skip ?_)
      refine W.seq (W.block ?_)
      refine W.seq (W.seq (W.region ?_))
      refine z_p ?_
      refine z_p ?_
      refine sp (v_index_str rfl rfl rfl rfl rfl (by omega) hcs) rfl rfl rfl ?_
      refine sq (v_pure rfl) (show _ = AV.bool true from congrArg AV.bool ((b_eqI c 46 (by decide)).trans h46)) rfl rfl rfl ?_
      refine z_p ?_
      refine z_p ?_
      refine z_T hlt0 ?_
      refine z_p ?_
      refine WL.nil ?_
      refine W.cond_true rfl ?_
      refine W.seq (W.region ?_)
      refine z_p ?_
      refine WL.nil ?_
      refine W.exit ?_
      refine W.region ?_
      refine z_p ?_
      refine sq (v_i64 rfl rfl rfl rfl (by omega) (by omega)) (show _ = AV.int .i64 ((off + (j + 1) : Nat) : Int) from congrArg (AV.int .i64) (by omega)) rfl rfl rfl ?_
      refine z_p ?_
      refine WL.nil ?_
      refine ⟨p.length - (j + 1), _, _, by omega, ⟨j + 1, A, [], true, 0, rfl, by omega, ⟨?_, (fun h => by cases h), hseen.dA, (fun c h => by cases h)⟩, rfl, rfl⟩, (by cases h : signP s <;> cases hall : (A ++ []).all (· == 48) <;> subst ho1 <;> subst ho2 <;> exact (by refine ⟨?_, ?_, rfl, Nat.le_of_ble_eq_true rfl⟩ <;> repeat (first | exact trivial | exact rfl | refine ⟨rfl, ?_⟩ | refine ⟨.inr ⟨rfl, ?_⟩, ?_⟩ | refine ⟨.inl rfl, ?_⟩)))⟩
      rw [htk, hseen.eq, hdt, if_neg (by decide), if_pos rfl, hc46]
    · by_cases hdig : isDig c = true
      · have hn46 : c ≠ 46 := by intro e; rw [e] at hdig; exact absurd hdig (by decide)
        have h46 : (c == UInt8.ofNat 46) = false := by rw [beq_eq_false_iff_ne]; exact hn46
        have hrange := (isDig_iff c).1 hdig
        obtain ⟨A', B', hAB, hseen', hA', hB'⟩ : ∃ A' B', A' ++ B' = (A ++ B) ++ [c] ∧ Seen p (j + 1) A' B' dt ∧ A'.length = (if dt then A.length else A.length + 1) ∧ B'.length = (if dt then B.length + 1 else B.length) := by
          cases hdt : dt with
          | false =>
            have hB := hseen.nodot hdt
            subst hB
            refine ⟨A ++ [c], [], by simp, ⟨?_, (fun _ => rfl), ?_, (fun c h => by cases h)⟩, by simp, rfl⟩
            · rw [htk, hseen.eq, hdt]; rfl
            · intro x hx
              rcases List.mem_append.1 hx with h | h
              · exact hseen.dA x h
              · rw [List.mem_singleton] at h; subst h; exact hdig
          | true =>
            refine ⟨A, B ++ [c], by simp, ⟨?_, (fun h => by cases h), hseen.dA, ?_⟩, rfl, by simp⟩
            · rw [htk, hseen.eq, hdt]; simp
            · intro x hx
              rcases List.mem_append.1 hx with h | h
              · exact hseen.dB x h
              · rw [List.mem_singleton] at h; subst h; exact hdig
        obtain ⟨be', hbe'⟩ : ∃ be' : Int, be' = (if dt then (B'.length : Int) else -1) := ⟨_, rfl⟩
        have hzl : ((A' ++ B').all (· == 48)) = ((A ++ B).all (· == 48) && (c == 48)) := by rw [hAB]; simp [List.all_append, Bool.and_assoc]
        have hone1 : AV.str ((s.drop ((off + j : Nat) : Int).toNat).take (((off + j + 1 : Nat) : Int).toNat - ((off + j : Nat) : Int).toNat)) = .str [c] := by
          rw [Int.toNat_natCast] at hcs ⊢
          rw [Int.toNat_natCast, Nat.add_sub_cancel_left]
          obtain ⟨h1, h2⟩ := List.getElem?_eq_some_iff.1 hcs
          rw [List.drop_eq_getElem_cons h1, h2]; rfl
        refine W.seq (W.seq (W.region ?_))
        refine z_p ?_
        refine z_p ?_
        refine sp (v_len rfl rfl rfl rfl rfl trivial) rfl rfl rfl ?_
        refine z_T (show ((off + j : Nat) : Int) < s.length by omega) ?_
        refine WL.nil ?_
        refine W.cond_true rfl (W.skip ?_)
        refine W.seq (W.block ?_)
        refine W.seq (W.seq (W.region ?_))
        refine z_p ?_
        refine z_p ?_
        refine sp (v_index_str rfl rfl rfl rfl rfl (by omega) hcs) rfl rfl rfl ?_
        refine sq (v_pure rfl) (show _ = AV.bool false from congrArg AV.bool ((b_eqI c 46 (by decide)).trans h46)) rfl rfl rfl ?_
        refine z_p ?_
        refine z_o ?_
        refine z_o ?_
        refine z_p ?_
        refine WL.nil ?_
        refine W.cond_false rfl (W.skip ?_)
        refine W.seq (W.seq (W.region ?_))
        refine z_p ?_
        refine z_p ?_
        refine sp (v_index_str rfl rfl rfl rfl rfl (by omega) hcs) rfl rfl rfl ?_
        refine z_F (show ¬ (c.toNat : Int) < 48 by omega) ?_
        refine z_p ?_
        refine z_p ?_
        refine z_p ?_
        refine sp (v_index_str rfl rfl rfl rfl rfl (by omega) hcs) rfl rfl rfl ?_
        refine z_F (show ¬ (c.toNat : Int) > 57 by omega) ?_
        refine z_p ?_
        refine WL.nil ?_
        refine W.cond_false rfl (W.skip ?_)
        refine W.seq (W.cut [(0, .str s), (2, .ptr 0 0 0), (4, .ptr 1 0 0), (5, .bool (signP s)), (6, .int .i64 ((off + j : Nat) : Int)), (7, .str (A ++ B)), (8, .int .i64 (A'.length : Nat)), (9, .int .i64 be'), (10, .bool ((A ++ B).all (· == 48)))] [o1, o2] ?_ ?_)
        · cases hdt : dt with
          | false =>
            rw [hdt] at hA' hB' hbe hbe'
            simp only [Bool.false_eq_true, if_false] at hA' hB' hbe hbe'
            rw [hA', hbe', hbe]
            refine W.seq (W.region ?_)
            refine z_p ?_
            refine z_T (show (-1 : Int) < 0 by decide) ?_
            refine WL.nil ?_
            refine W.cond_true rfl ?_
            refine W.region ?_
            refine z_p ?_
            refine sq (v_i64 rfl rfl rfl rfl (by omega) (by omega)) (show _ = AV.int .i64 ((A.length + 1 : Nat) : Int) from rfl) rfl rfl rfl ?_
            refine z_p ?_
            refine WL.nil ?_
            exact ⟨rfl, (by cases h : signP s <;> cases hall : (A ++ B).all (· == 48) <;> subst ho1 <;> subst ho2 <;> exact (by refine ⟨?_, ?_, rfl, Nat.le_of_ble_eq_true rfl⟩ <;> repeat (first | exact trivial | exact rfl | refine ⟨rfl, ?_⟩ | refine ⟨.inr ⟨rfl, ?_⟩, ?_⟩ | refine ⟨.inl rfl, ?_⟩)))⟩
          | true =>
            rw [hdt] at hA' hB' hbe hbe'
            simp only [if_true] at hA' hB' hbe hbe'
            rw [hA', hbe', hbe, hB']
            refine W.seq (W.region ?_)
            refine z_p ?_
            refine z_F (show ¬ (B.length : Int) < 0 by omega) ?_
            refine WL.nil ?_
            refine W.cond_false rfl ?_
            refine W.region ?_
            refine z_p ?_
            refine sq (v_i64 rfl rfl rfl rfl (by omega) (by omega)) (show _ = AV.int .i64 ((B.length + 1 : Nat) : Int) from rfl) rfl rfl rfl ?_
            refine z_p ?_
            refine WL.nil ?_
            exact ⟨rfl, (by cases h : signP s <;> cases hall : (A ++ B).all (· == 48) <;> subst ho1 <;> subst ho2 <;> exact (by refine ⟨?_, ?_, rfl, Nat.le_of_ble_eq_true rfl⟩ <;> repeat (first | exact trivial | exact rfl | refine ⟨rfl, ?_⟩ | refine ⟨.inr ⟨rfl, ?_⟩, ?_⟩ | refine ⟨.inl rfl, ?_⟩)))⟩
        refine W.seq (W.cut [(0, .str s), (2, .ptr 0 0 0), (4, .ptr 1 0 0), (5, .bool (signP s)), (6, .int .i64 ((off + j : Nat) : Int)), (7, .str (A ++ B)), (8, .int .i64 (A'.length : Nat)), (9, .int .i64 be'), (10, .bool ((A' ++ B').all (· == 48)))] [o1, o2] ?_ ?_)
        · rw [hzl]
          cases hall : (A ++ B).all (· == 48) with
          | true =>
            refine W.region ?_
            refine z_p ?_
            refine z_p ?_
            refine z_p ?_
            refine z_p ?_
            refine sp (v_index_str rfl rfl rfl rfl rfl (by omega) hcs) rfl rfl rfl ?_
            refine sq (v_pure rfl) (show _ = AV.bool (c == 48) from congrArg AV.bool (b_eqI c 48 (by decide))) rfl rfl rfl ?_
            refine z_p ?_
            refine z_p ?_
            refine WL.nil ?_
            exact ⟨rfl, (by cases h : signP s <;> cases hc48 : (c == 48) <;> subst ho1 <;> subst ho2 <;> exact (by refine ⟨?_, ?_, rfl, Nat.le_of_ble_eq_true rfl⟩ <;> repeat (first | exact trivial | exact rfl | refine ⟨rfl, ?_⟩ | refine ⟨.inr ⟨rfl, ?_⟩, ?_⟩ | refine ⟨.inl rfl, ?_⟩)))⟩
          | false =>
            refine W.region ?_
            refine z_p ?_
            refine z_p ?_
            refine z_o ?_
            refine z_o ?_
            refine z_o ?_
            refine z_o ?_
            refine z_p ?_
            refine z_p ?_
            refine WL.nil ?_
            exact ⟨rfl, (by cases h : signP s <;> subst ho1 <;> subst ho2 <;> exact (by refine ⟨?_, ?_, rfl, Nat.le_of_ble_eq_true rfl⟩ <;> repeat (first | exact trivial | exact rfl | refine ⟨rfl, ?_⟩ | refine ⟨.inr ⟨rfl, ?_⟩, ?_⟩ | refine ⟨.inl rfl, ?_⟩)))⟩
        refine W.region ?_
        refine z_p ?_
        refine z_p ?_
        refine z_p ?_
        refine z_p ?_
        refine sq (v_i64 rfl rfl rfl rfl (by omega) (by omega)) (show _ = AV.int .i64 ((off + j + 1 : Nat) : Int) from rfl) rfl rfl rfl ?_
        refine sq (v_slice_str rfl rfl rfl rfl ⟨_, _, rfl, by omega, rfl⟩ ⟨_, _, rfl, by omega, rfl⟩ (by omega) (by omega)) (show _ = AV.str [c] from hone1) rfl rfl rfl ?_
        refine sq (v_bin rfl rfl rfl (if_pos (by simp; omega))) (show _ = AV.str (A' ++ B') from congrArg AV.str hAB.symm) rfl rfl rfl ?_
        refine z_p ?_
        refine WL.nil ?_
        refine W.region ?_
        refine z_p ?_
        refine sq (v_i64 rfl rfl rfl rfl (by omega) (by omega)) (show _ = AV.int .i64 ((off + (j + 1) : Nat) : Int) from congrArg (AV.int .i64) (by omega)) rfl rfl rfl ?_
        refine z_p ?_
        refine WL.nil ?_
        exact ⟨p.length - (j + 1), _, _, by omega, ⟨j + 1, A', B', dt, be', rfl, by omega, hseen', hbe', rfl⟩, (by cases h : signP s <;> cases hall : (A' ++ B').all (· == 48) <;> subst ho1 <;> subst ho2 <;> exact (by refine ⟨?_, ?_, rfl, Nat.le_of_ble_eq_true rfl⟩ <;> repeat (first | exact trivial | exact rfl | refine ⟨rfl, ?_⟩ | refine ⟨.inr ⟨rfl, ?_⟩, ?_⟩ | refine ⟨.inl rfl, ?_⟩)))⟩
      · have hdig' : isDig c = false := by simpa using hdig
        have hb := seen_bad hseen hc hdig' (by
          by_cases h : dt = true
          · exact .inl h
          · exact .inr fun e => hfirst ⟨e, by simpa using h⟩)
        have he5 : dErr s = 5 := by
          have : dBad s = true := by
            rw [dBad, hdA, hdB, hdD]
            rcases hb with hb | ⟨hb1, hb2⟩
            · rw [hb]; simp
            · rw [hb1, hb2]; simp
          rw [dErr, this]; rfl
        have hr : c.toNat < 48 ∨ 57 < c.toNat := by
          rcases Nat.lt_or_ge c.toNat 48 with h | h
          · exact .inl h
          · right
            rcases Nat.lt_or_ge 57 c.toNat with h2 | h2
            · exact h2
            · exact absurd ((isDig_iff c).2 ⟨h, h2⟩) hdig
        by_cases hc46 : c = 46
        · have h46 : (c == UInt8.ofNat 46) = true := by rw [hc46]; rfl
          have hge0 : ¬ be < 0 := fun h => hfirst ⟨hc46, hz0.1 h⟩
          have hlow : c.toNat < 48 := by rw [hc46]; decide
          refine W.seq (W.seq (W.region ?_))
          refine z_p ?_
          refine z_p ?_
          refine sp (v_len rfl rfl rfl rfl rfl trivial) rfl rfl rfl ?_
          refine z_T (show ((off + j : Nat) : Int) < s.length by omega) ?_
          refine WL.nil ?_
          refine W.cond_true rfl (W.skip ?_)
          refine W.seq (W.block ?_)
          refine W.seq (W.seq (W.region ?_))
          refine z_p ?_
          refine z_p ?_
          refine sp (v_index_str rfl rfl rfl rfl rfl (by omega) hcs) rfl rfl rfl ?_
          refine sq (v_pure rfl) (show _ = AV.bool true from congrArg AV.bool ((b_eqI c 46 (by decide)).trans h46)) rfl rfl rfl ?_
          refine z_p ?_
          refine z_p ?_
          refine z_F hge0 ?_
          refine z_p ?_
          refine WL.nil ?_
          refine W.cond_false rfl (W.skip ?_)
          refine W.seq (W.seq (W.region ?_))
          refine z_p ?_
          refine z_p ?_
          refine sp (v_index_str rfl rfl rfl rfl rfl (by omega) hcs) rfl rfl rfl ?_
          refine z_T (show (c.toNat : Int) < 48 by omega) ?_
          refine z_p ?_
          refine z_o ?_
          refine z_o ?_
          refine z_o ?_
          refine z_o ?_
          refine z_p ?_
          refine WL.nil ?_
          refine W.cond_true rfl ?_
          subst ho1; subst ho2
          refine W.seq (W.region ?_)
          first | refine z_l3 ?_ | refine z_r3 ?_
          refine z_s [_, _] ?_
          refine z_p ?_
          refine WL.nil ?_
          exact W.ret (fin (cs := [rDecAV 0 0, .int .i64 5]) rfl (.shut (.plain (rDecAV_plain _ _)) (.shut (.plain rfl) .nil)) (by rw [herr5 he5]; rfl))
        · have h46 : (c == UInt8.ofNat 46) = false := by rw [beq_eq_false_iff_ne]; exact hc46
          rcases hr with hlow | hhigh
          · skip
            refine W.seq (W.seq (W.region ?_))
            refine z_p ?_
            refine z_p ?_
            refine sp (v_len rfl rfl rfl rfl rfl trivial) rfl rfl rfl ?_
            refine z_T (show ((off + j : Nat) : Int) < s.length by omega) ?_
            refine WL.nil ?_
            refine W.cond_true rfl (W.skip ?_)
            refine W.seq (W.block ?_)
            refine W.seq (W.seq (W.region ?_))
            refine z_p ?_
            refine z_p ?_
            refine sp (v_index_str rfl rfl rfl rfl rfl (by omega) hcs) rfl rfl rfl ?_
            refine sq (v_pure rfl) (show _ = AV.bool false from congrArg AV.bool ((b_eqI c 46 (by decide)).trans h46)) rfl rfl rfl ?_
            refine z_p ?_
            refine z_o ?_
            refine z_o ?_
            refine z_p ?_
            refine WL.nil ?_
            refine W.cond_false rfl (W.skip ?_)
            refine W.seq (W.seq (W.region ?_))
            refine z_p ?_
            refine z_p ?_
            refine sp (v_index_str rfl rfl rfl rfl rfl (by omega) hcs) rfl rfl rfl ?_
            refine z_T (show (c.toNat : Int) < 48 by omega) ?_
            refine z_p ?_
            refine z_o ?_
            refine z_o ?_
            refine z_o ?_
            refine z_o ?_
            refine z_p ?_
            refine WL.nil ?_
            refine W.cond_true rfl ?_
            subst ho1; subst ho2
            refine W.seq (W.region ?_)
            first | refine z_l3 ?_ | refine z_r3 ?_
            refine z_s [_, _] ?_
            refine z_p ?_
            refine WL.nil ?_
            exact W.ret (fin (cs := [rDecAV 0 0, .int .i64 5]) rfl (.shut (.plain (rDecAV_plain _ _)) (.shut (.plain rfl) .nil)) (by rw [herr5 he5]; rfl))
          · skip
            refine W.seq (W.seq (W.region ?_))
            refine z_p ?_
            refine z_p ?_
            refine sp (v_len rfl rfl rfl rfl rfl trivial) rfl rfl rfl ?_
            refine z_T (show ((off + j : Nat) : Int) < s.length by omega) ?_
            refine WL.nil ?_
            refine W.cond_true rfl (W.skip ?_)
            refine W.seq (W.block ?_)
            refine W.seq (W.seq (W.region ?_))
            refine z_p ?_
            refine z_p ?_
            refine sp (v_index_str rfl rfl rfl rfl rfl (by omega) hcs) rfl rfl rfl ?_
            refine sq (v_pure rfl) (show _ = AV.bool false from congrArg AV.bool ((b_eqI c 46 (by decide)).trans h46)) rfl rfl rfl ?_
            refine z_p ?_
            refine z_o ?_
            refine z_o ?_
            refine z_p ?_
            refine WL.nil ?_
            refine W.cond_false rfl (W.skip ?_)
            refine W.seq (W.seq (W.region ?_))
            refine z_p ?_
            refine z_p ?_
            refine sp (v_index_str rfl rfl rfl rfl rfl (by omega) hcs) rfl rfl rfl ?_
            refine z_F (show ¬ (c.toNat : Int) < 48 by omega) ?_
            refine z_p ?_
            refine z_p ?_
            refine z_p ?_
            refine sp (v_index_str rfl rfl rfl rfl rfl (by omega) hcs) rfl rfl rfl ?_
            refine z_T (show (c.toNat : Int) > 57 by omega) ?_
            refine z_p ?_
            refine WL.nil ?_
            refine W.cond_true rfl ?_
            subst ho1; subst ho2
            refine W.seq (W.region ?_)
            first | refine z_l3 ?_ | refine z_r3 ?_
            refine z_s [_, _] ?_
            refine z_p ?_
            refine WL.nil ?_
            exact W.ret (fin (cs := [rDecAV 0 0, .int .i64 5]) rfl (.shut (.plain (rDecAV_plain _ _)) (.shut (.plain rfl) .nil)) (by rw [herr5 he5]; rfl))
  · have hje : j = p.length := by omega
    subst hje
    obtain ⟨hA, hB, hD⟩ := seen_all hseen
    rw [← hdA] at hA
    rw [← hdB] at hB
    rw [← hdD] at hD
    have hall : dAll s = A ++ B := by rw [dAll, hA, hB]
    have hokA := digsOK_digs hseen.dA
    have hokB := digsOK_digs hseen.dB
    obtain ⟨b2, hb2⟩ : ∃ b2, b2 = (dBad s || signP s && (dAll s).all (· == 48)) := ⟨_, rfl⟩
    have hbad : dBad s = (A == [] || dt && B == [] || decide (1 < A.length) && A.head? == some 48) := by
      rw [dBad, hA, hB, hD, hokA, hokB, Bool.not_not, Bool.not_not]
    have hplus : ∀ c, isDig c = true → ¬ c.toNat = 46 := fun c hc h => by have := (isDig_iff c).1 hc; omega
    refine W.seq (W.seq (W.region ?_))
    refine z_p ?_
    refine z_p ?_
    refine sp (v_len rfl rfl rfl rfl rfl trivial) rfl rfl rfl ?_
    refine z_F (show ¬ ((off + p.length : Nat) : Int) < s.length by omega) ?_
    refine WL.nil ?_
    refine W.cond_false rfl (W.exit ?_)
    refine W.seq (W.seq (W.cut [(0, .str s), (2, .ptr 0 0 0), (4, .ptr 1 0 0), (5, .bool (signP s)), (7, .str (A ++ B)), (8, .int .i64 (A.length : Nat)), (9, .int .i64 be), (87, .bool b2)] [o1, o2] ?_ ?_))
    · by_cases hA0 : A = []
      · have hl0 : A.length = 0 := by rw [hA0]; rfl
        have : b2 = true := by rw [hb2, hbad, hA0]; rfl
        rw [this]
        refine W.region ?_
        refine z_p ?_
        refine sq (v_pure rfl) (show _ = AV.bool true from congrArg AV.bool (beq_iff_eq.2 (by omega))) rfl rfl rfl ?_
        refine z_p ?_
        refine z_o ?_
        refine z_o ?_
        refine z_p ?_
        refine z_p ?_
        refine z_o ?_
        refine z_o ?_
        refine z_o ?_
        refine z_o ?_
        refine z_o ?_
        refine z_o ?_
        refine z_o ?_
        refine z_p ?_
        refine z_p ?_
        refine z_o ?_
        refine z_o ?_
        refine z_o ?_
        refine z_o ?_
        refine z_p ?_
        refine WL.nil ?_
        exact ⟨rfl, (by cases h : signP s <;> subst ho1 <;> subst ho2 <;> exact (by refine ⟨?_, ?_, rfl, Nat.le_of_ble_eq_true rfl⟩ <;> repeat (first | exact trivial | exact rfl | refine ⟨rfl, ?_⟩ | refine ⟨.inr ⟨rfl, ?_⟩, ?_⟩ | refine ⟨.inl rfl, ?_⟩)))⟩
      · have hl0 : A.length ≠ 0 := fun h => hA0 (List.eq_nil_of_length_eq_zero h)
        have hAe : (A == []) = false := by rw [beq_eq_false_iff_ne]; exact hA0
        by_cases hB0 : be = 0
        · have hdb : dt = true ∧ B = [] := by
            cases hdt : dt with
            | false => rw [hbe, hdt, if_neg (by decide)] at hB0; exact absurd hB0 (by decide)
            | true => rw [hbe, hdt, if_pos rfl] at hB0; exact ⟨rfl, List.eq_nil_of_length_eq_zero (by omega)⟩
          have : b2 = true := by rw [hb2, hbad, hdb.1, hdb.2]; simp
          rw [this]
          refine W.region ?_
          refine z_p ?_
          refine sq (v_pure rfl) (show _ = AV.bool false from congrArg AV.bool (beq_eq_false_iff_ne.2 (by omega))) rfl rfl rfl ?_
          refine z_p ?_
          refine z_p ?_
          refine sq (v_pure rfl) (show _ = AV.bool true from congrArg AV.bool (beq_iff_eq.2 (by omega))) rfl rfl rfl ?_
          refine z_p ?_
          refine z_p ?_
          refine z_o ?_
          refine z_o ?_
          refine z_o ?_
          refine z_o ?_
          refine z_o ?_
          refine z_o ?_
          refine z_o ?_
          refine z_p ?_
          refine z_p ?_
          refine z_o ?_
          refine z_o ?_
          refine z_o ?_
          refine z_o ?_
          refine z_p ?_
          refine WL.nil ?_
          exact ⟨rfl, (by cases h : signP s <;> subst ho1 <;> subst ho2 <;> exact (by refine ⟨?_, ?_, rfl, Nat.le_of_ble_eq_true rfl⟩ <;> repeat (first | exact trivial | exact rfl | refine ⟨rfl, ?_⟩ | refine ⟨.inr ⟨rfl, ?_⟩, ?_⟩ | refine ⟨.inl rfl, ?_⟩)))⟩
        · have hdb : (dt && B == []) = false := by
            cases hdt : dt with
            | false => rfl
            | true =>
              rw [hbe, hdt, if_pos rfl] at hB0
              rw [Bool.true_and, beq_eq_false_iff_ne]
              intro h; rw [h] at hB0; exact hB0 rfl
          rw [hAe, hdb, Bool.false_or, Bool.false_or] at hbad
          by_cases hl1 : 1 < A.length
          · obtain ⟨c, r, hcr⟩ : ∃ c r, A = c :: r := by
              cases h : A with
              | nil => exact absurd h hA0
              | cons c r => exact ⟨c, r, rfl⟩
            have h0 : (A ++ B)[(0 : Int).toNat]? = some c := by rw [hcr]; rfl
            have hh : (A.head? == some 48) = (c == 48) := by rw [hcr]; rfl
            rw [decide_eq_true hl1, Bool.true_and, hh] at hbad
            cases hc48 : (c == 48) with
            | true =>
              have : b2 = true := by rw [hb2, hbad, hc48]; rfl
              rw [this]
              refine W.region ?_
              refine z_p ?_
              refine sq (v_pure rfl) (show _ = AV.bool false from congrArg AV.bool (beq_eq_false_iff_ne.2 (by omega))) rfl rfl rfl ?_
              refine z_p ?_
              refine z_p ?_
              refine sq (v_pure rfl) (show _ = AV.bool false from congrArg AV.bool (beq_eq_false_iff_ne.2 (by omega))) rfl rfl rfl ?_
              refine z_p ?_
              refine z_p ?_
              refine z_p ?_
              refine z_T (show (A.length : Int) > 1 by omega) ?_
              refine z_p ?_
              refine z_p ?_
              refine sp (v_index_str rfl rfl rfl rfl rfl (by omega) h0) rfl rfl rfl ?_
              refine sq (v_pure rfl) (show _ = AV.bool true from congrArg AV.bool ((b_eqI c 48 (by decide)).trans hc48)) rfl rfl rfl ?_
              refine z_p ?_
              refine z_p ?_
              refine z_p ?_
              refine z_o ?_
              refine z_o ?_
              refine z_o ?_
              refine z_o ?_
              refine z_p ?_
              refine WL.nil ?_
              exact ⟨rfl, (by cases h : signP s <;> subst ho1 <;> subst ho2 <;> exact (by refine ⟨?_, ?_, rfl, Nat.le_of_ble_eq_true rfl⟩ <;> repeat (first | exact trivial | exact rfl | refine ⟨rfl, ?_⟩ | refine ⟨.inr ⟨rfl, ?_⟩, ?_⟩ | refine ⟨.inl rfl, ?_⟩)))⟩
            | false =>
              rw [hc48] at hbad
              rw [hbad, Bool.false_or, hall] at hb2
              cases hsg : signP s with
              | true =>
                rw [hsg, Bool.true_and] at hb2
                refine W.region ?_
                refine z_p ?_
                refine sq (v_pure rfl) (show _ = AV.bool false from congrArg AV.bool (beq_eq_false_iff_ne.2 (by omega))) rfl rfl rfl ?_
                refine z_p ?_
                refine z_p ?_
                refine sq (v_pure rfl) (show _ = AV.bool false from congrArg AV.bool (beq_eq_false_iff_ne.2 (by omega))) rfl rfl rfl ?_
                refine z_p ?_
                refine z_p ?_
                refine z_p ?_
                refine z_T (show (A.length : Int) > 1 by omega) ?_
                refine z_p ?_
                refine z_p ?_
                refine sp (v_index_str rfl rfl rfl rfl rfl (by omega) h0) rfl rfl rfl ?_
                refine sq (v_pure rfl) (show _ = AV.bool false from congrArg AV.bool ((b_eqI c 48 (by decide)).trans hc48)) rfl rfl rfl ?_
                refine z_p ?_
                refine z_p ?_
                refine z_p ?_
                refine z_p ?_
                refine z_p ?_
                refine sq (v_pure rfl) (show _ = AV.bool b2 from congrArg AV.bool hb2.symm) rfl rfl rfl ?_
                refine z_p ?_
                refine z_p ?_
                refine WL.nil ?_
                exact ⟨rfl, (by cases b2 <;> subst ho1 <;> subst ho2 <;> exact (by refine ⟨?_, ?_, rfl, Nat.le_of_ble_eq_true rfl⟩ <;> repeat (first | exact trivial | exact rfl | refine ⟨rfl, ?_⟩ | refine ⟨.inr ⟨rfl, ?_⟩, ?_⟩ | refine ⟨.inl rfl, ?_⟩)))⟩
              | false =>
                rw [hsg, Bool.false_and] at hb2
                rw [hb2]
                refine W.region ?_
                refine z_p ?_
                refine sq (v_pure rfl) (show _ = AV.bool false from congrArg AV.bool (beq_eq_false_iff_ne.2 (by omega))) rfl rfl rfl ?_
                refine z_p ?_
                refine z_p ?_
                refine sq (v_pure rfl) (show _ = AV.bool false from congrArg AV.bool (beq_eq_false_iff_ne.2 (by omega))) rfl rfl rfl ?_
                refine z_p ?_
                refine z_p ?_
                refine z_p ?_
                refine z_T (show (A.length : Int) > 1 by omega) ?_
                refine z_p ?_
                refine z_p ?_
                refine sp (v_index_str rfl rfl rfl rfl rfl (by omega) h0) rfl rfl rfl ?_
                refine sq (v_pure rfl) (show _ = AV.bool false from congrArg AV.bool ((b_eqI c 48 (by decide)).trans hc48)) rfl rfl rfl ?_
                refine z_p ?_
                refine z_p ?_
                refine z_p ?_
                refine z_p ?_
                refine z_p ?_
                refine z_o ?_
                refine z_p ?_
                refine z_p ?_
                refine WL.nil ?_
                exact ⟨rfl, (by subst ho1; subst ho2; exact (by refine ⟨?_, ?_, rfl, Nat.le_of_ble_eq_true rfl⟩ <;> repeat (first | exact trivial | exact rfl | refine ⟨rfl, ?_⟩ | refine ⟨.inr ⟨rfl, ?_⟩, ?_⟩ | refine ⟨.inl rfl, ?_⟩)))⟩
          · rw [decide_eq_false hl1, Bool.false_and] at hbad
            rw [hbad, Bool.false_or, hall] at hb2
            cases hsg : signP s with
            | true =>
              rw [hsg, Bool.true_and] at hb2
              refine W.region ?_
              refine z_p ?_
              refine sq (v_pure rfl) (show _ = AV.bool false from congrArg AV.bool (beq_eq_false_iff_ne.2 (by omega))) rfl rfl rfl ?_
              refine z_p ?_
              refine z_p ?_
              refine sq (v_pure rfl) (show _ = AV.bool false from congrArg AV.bool (beq_eq_false_iff_ne.2 (by omega))) rfl rfl rfl ?_
              refine z_p ?_
              refine z_p ?_
              refine z_p ?_
              refine z_F (show ¬ (A.length : Int) > 1 by omega) ?_
              refine z_p ?_
              refine z_o ?_
              refine z_o ?_
              refine z_o ?_
              refine z_p ?_
              refine z_p ?_
              refine z_p ?_
              refine z_p ?_
              refine z_p ?_
              refine sq (v_pure rfl) (show _ = AV.bool b2 from congrArg AV.bool hb2.symm) rfl rfl rfl ?_
              refine z_p ?_
              refine z_p ?_
              refine WL.nil ?_
              exact ⟨rfl, (by cases b2 <;> subst ho1 <;> subst ho2 <;> exact (by refine ⟨?_, ?_, rfl, Nat.le_of_ble_eq_true rfl⟩ <;> repeat (first | exact trivial | exact rfl | refine ⟨rfl, ?_⟩ | refine ⟨.inr ⟨rfl, ?_⟩, ?_⟩ | refine ⟨.inl rfl, ?_⟩)))⟩
            | false =>
              rw [hsg, Bool.false_and] at hb2
              rw [hb2]
              refine W.region ?_
              refine z_p ?_
              refine sq (v_pure rfl) (show _ = AV.bool false from congrArg AV.bool (beq_eq_false_iff_ne.2 (by omega))) rfl rfl rfl ?_
              refine z_p ?_
              refine z_p ?_
              refine sq (v_pure rfl) (show _ = AV.bool false from congrArg AV.bool (beq_eq_false_iff_ne.2 (by omega))) rfl rfl rfl ?_
              refine z_p ?_
              refine z_p ?_
              refine z_p ?_
              refine z_F (show ¬ (A.length : Int) > 1 by omega) ?_
              refine z_p ?_
              refine z_o ?_
              refine z_o ?_
              refine z_o ?_
              refine z_p ?_
              refine z_p ?_
              refine z_p ?_
              refine z_p ?_
              refine z_p ?_
              refine z_o ?_
              refine z_p ?_
              refine z_p ?_
              refine WL.nil ?_
              exact ⟨rfl, (by subst ho1; subst ho2; exact (by refine ⟨?_, ?_, rfl, Nat.le_of_ble_eq_true rfl⟩ <;> repeat (first | exact trivial | exact rfl | refine ⟨rfl, ?_⟩ | refine ⟨.inr ⟨rfl, ?_⟩, ?_⟩ | refine ⟨.inl rfl, ?_⟩)))⟩
    cases hb3 : b2 with
    | true =>
      have he5 : dErr s = 5 := by rw [dErr, ← hb2, hb3]; rfl
      refine W.cond_true rfl ?_
      subst ho1; subst ho2
      refine W.seq (W.region ?_)
      first | refine z_l3 ?_ | refine z_r3 ?_
      refine z_s [_, _] ?_
      refine z_p ?_
      refine WL.nil ?_
      exact W.ret (fin (cs := [rDecAV 0 0, .int .i64 5]) rfl (.shut (.plain (rDecAV_plain _ _)) (.shut (.plain rfl) .nil)) (by rw [herr5 he5]; rfl))
    | false =>
      refine W.cond_false rfl (W.skip ?_)
      have hbB : be = (B.length : Int) ∨ (be = -1 ∧ B = []) := by
        cases hdt : dt with
        | false => rw [hbe, hdt]; exact .inr ⟨rfl, hseen.nodot hdt⟩
        | true => rw [hbe, hdt]; exact .inl rfl
      by_cases h64 : 64 < B.length
      · have he : dErr s = 10 := by rw [dErr, ← hb2, hb3, hB, if_neg (by decide), if_pos h64]
        have hbe2 : be > 64 := by
          rcases hbB with h | ⟨_, h⟩
          · omega
          · rw [h] at h64; simp at h64
        subst ho1; subst ho2
        refine W.seq (W.seq (W.region ?_))
        refine z_p ?_
        refine z_T hbe2 ?_
        refine WL.nil ?_
        refine W.cond_true rfl ?_
        refine W.seq (W.region ?_)
        first | refine z_l3 ?_ | refine z_r3 ?_
        refine z_s [_, _] ?_
        refine z_p ?_
        refine WL.nil ?_
        exact W.ret (fin (cs := [rDecAV 0 0, .int .i64 10]) rfl (.shut (.plain (rDecAV_plain _ _)) (.shut (.plain rfl) .nil)) (by rw [rdAV, he]; rfl))
      · have he : dErr s = 0 := by rw [dErr, ← hb2, hb3, hB, if_neg (by decide), if_neg h64]
        have hbe2 : ¬ be > 64 := by
          rcases hbB with h | ⟨h, _⟩ <;> omega
        have hread := rRead_spec (A ++ B) (by simp; omega) (fun c hc => (List.mem_append.1 hc).elim (hseen.dA c) (hseen.dB c))
        have hof := rwOf (decF (A ++ B)) (signP s) (dZ s) (by rw [dZ, hall])
        rw [rdAV, he, if_pos rfl, hB]
        have hmx : (if (0 : Int) > be then (0 : Int) else be) = (B.length : Nat) := by
          rcases hbB with h | ⟨h1, h2⟩
          · rw [if_neg (by omega), h]
          · rw [if_pos (by omega), h2]; rfl
        subst ho1; subst ho2
        refine W.seq (W.seq (W.region ?_))
        refine z_p ?_
        refine z_F hbe2 ?_
        refine WL.nil ?_
        refine W.cond_false rfl (W.skip ?_)
        refine W.seq (W.region ?_)
        refine z_p ?_
        refine z_c (hread) ?_
        refine z_p ?_
        refine WL.nil ?_
        refine W.seq (W.region ?_)
        refine z_p ?_
        refine z_p ?_
        refine z_c (hof) ?_
        refine z_a 2 [_, _, _] ?_
        refine z_s [_, _, _] ?_
        refine WL.nil ?_
        refine W.seq (W.region ?_)
        first | refine z_l2 ?_ | refine z_r2 ?_
        refine z_p ?_
        refine sq (v_max2 rfl rfl rfl) (show _ = AV.int .i64 (B.length : Nat) from congrArg (AV.int .i64) hmx) rfl rfl rfl ?_
        refine sq (v_build rfl rfl rfl rfl rfl rfl rfl) (rfl : _ = AV.agg [_, _, _]) rfl rfl rfl ?_
        refine z_s [_, _, _] ?_
        refine z_p ?_
        refine WL.nil ?_
        exact W.ret (fin (cs := [rDecAV (dZ s) B.length, .int .i64 0]) rfl (.shut (.plain (rDecAV_plain _ _)) (.shut (.plain rfl) .nil)) rfl)

end Go.Proofs.YtfiohajalaejoaaDoor

set_option linter.unusedVariables false
set_option linter.unusedSimpArgs false
namespace Go.Lens
open Go Go.RowKit

def bytesAV (s : List UInt8) : List AV := s.map fun c => .int .u8 c.toNat
theorem bytesAV_length (s : List UInt8) : (bytesAV s).length = s.length := by simp [bytesAV]
theorem bytesAV_append (s t : List UInt8) : bytesAV (s ++ t) = bytesAV s ++ bytesAV t := by simp [bytesAV]
@[simp] theorem bytesAV_plain (l : List UInt8) : plainL (bytesAV l) = true := by
  induction l with
  | nil => rfl
  | cons x l ih => simp only [bytesAV, List.map_cons, plainL, AV.plain, Bool.true_and]; exact ih
def byteVals (s : List UInt8) : List Value := s.map fun c => Value.int .u8 c.toNat
theorem bytes_rel {w : World} {H : View} : ∀ {s : List UInt8} {vs : List Value}, RelL w (bytesAV s) H vs ↔ vs = byteVals s
  | [], vs => by simp [bytesAV, byteVals, RelL]
  | c :: s, vs => by
    simp only [bytesAV, byteVals, List.map_cons, RelL]
    constructor
    · rintro ⟨v, vs', rfl, h1, h2⟩
      simp only [RelV] at h1
      rw [h1, (bytes_rel (s := s)).1 h2]; rfl
    · rintro rfl
      exact ⟨_, _, rfl, rfl, (bytes_rel (s := s)).2 rfl⟩


/-! ### pointers -/
theorem v_isnil_nilp {C : Ctx} {o : Oper} {st : St} {t t' e : TypeId} {x : Operand} {y : Ty} (hop : o.op = .binOp .eql t x (.const (.pointer none)) t')
    (hx : ev st x = some .nilp) (hy : C.T.at t = some y) (hk : y.k = .pointer e) : VStep C o st (.bool true) st.objs := by
  refine VStep.of_pure fun H a w hi => ?_
  obtain ⟨d, i, hdd, _, hkd, _⟩ := C.ty hy
  rw [hk] at hkd
  obtain rfl := kOf_pointer hkd
  have h1 := ev_rel hi hx
  simp only [RelV] at h1
  refine ⟨.bool true, ?_, rfl⟩
  have hc0 : a.eval (.const (.pointer none)) = .pointer none := rfl
  have hp : C.P.underlying t = some (.pointer (C.P.pointee t)) := by simp [Program.pointee, hdd]
  simp only [execOp, hop, h1, hc0, Sem.run_bind, eqGuard_at_pointer, Sem.run_pure, Result.andThen_ok, run_eql_pointer_nil w t none hp]
  rfl
theorem v_isnil_ptr {C : Ctx} {o : Oper} {st : St} {t t' e : TypeId} {x : Operand} {y : Ty} {ob ver i esz : Nat} {cs : List AV} {flat : Bool} {own : Option TypeId} (hop : o.op = .binOp .eql t x (.const (.pointer none)) t')
    (hx : ev st x = some (.ptr ob ver i)) (hob : st.objs[ob]? = some (.cells cs ver esz flat own)) (hy : C.T.at t = some y) (hk : y.k = .pointer e) : VStep C o st (.bool false) st.objs := by
  refine VStep.of_pure fun H a w hi => ?_
  obtain ⟨d, i', hdd, _, hkd, _⟩ := C.ty hy
  rw [hk] at hkd
  obtain rfl := kOf_pointer hkd
  obtain ⟨_, _, hp0⟩ := ev_rel hi hx
  have h1 := hp0 (hi.objs.rel ob _ hob).1
  refine ⟨.bool false, ?_, rfl⟩
  have hc0 : a.eval (.const (.pointer none)) = .pointer none := rfl
  have hp : C.P.underlying t = some (.pointer (C.P.pointee t)) := by simp [Program.pointee, hdd]
  simp only [execOp, hop, h1, hc0, Sem.run_bind, eqGuard_at_pointer, Sem.run_pure, Result.andThen_ok, run_eql_pointer_nil w t _ hp]
  rfl
theorem v_same_ptr {C : Ctx} {o : Oper} {st : St} {t t' e : TypeId} {x x' : Operand} {y ye : Ty} {ob ver i esz : Nat} {cs : List AV} {flat : Bool} {own : Option TypeId} (hop : o.op = .binOp .neq t x x' t')
    (hx : ev st x = some (.ptr ob ver i)) (hx' : ev st x' = some (.ptr ob ver i)) (hob : st.objs[ob]? = some (.cells cs ver esz flat own)) (hy : C.T.at t = some y) (hk : y.k = .pointer e) (hye : C.T.at e = some ye) : VStep C o st (.bool false) st.objs := by
  refine VStep.of_pure fun H a w hi => ?_
  obtain ⟨d, i', hdd, _, hkd, _⟩ := C.ty hy
  rw [hk] at hkd
  obtain rfl := kOf_pointer hkd
  obtain ⟨_, ie, _, hie, _⟩ := C.ty hye
  obtain ⟨_, _, hp0⟩ := ev_rel hi hx
  obtain ⟨_, _, hp1⟩ := ev_rel hi hx'
  have h1 := hp0 (hi.objs.rel ob _ hob).1
  have h2 := hp1 (hi.objs.rel ob _ hob).1
  refine ⟨.bool false, ?_, rfl⟩
  simp only [execOp, hop, h1, h2, Sem.run_bind, eqGuard_at_pointer, Sem.run_pure, Result.andThen_ok, Lib.run_neq_ptr_same w _ hdd hie]

theorem liesAt_self {P : Program} {e : TypeId} {s : Nat} (hc : P.cellsOf e = s) (hs : 0 < s) (count : Nat) (hn : 1 ≤ count) : liesAt P P.depth e count 0 e 1 = true := by
  have hd : P.depth = (2 * (P.types.size + Made.depth) + 1) + 1 := rfl
  rw [hd]
  simp only [liesAt, Bool.or_eq_true]
  left
  rw [hd]
  have : s ≠ 0 := by omega
  simp [rowAt, hc, hn, sameLayout, this]

/-- a variable whose block's type is known -/
theorem v_allocT {C : Ctx} {o : Oper} {env : List (Nat × AV)} {objs : List AObj} {t : TypeId} {y : Ty} {z : List Value} {ds : List AV} (hop : o.op = .alloc t) (hy : C.T.at t = some y) (hz : y.zero = some z) (hd : ofVals z = some ds) (hzl : z.length = y.size) :
    VStep C o ⟨env, objs⟩ (.ptr objs.length 0 0) (objs ++ [.cells ds 0 y.size false (some t)]) := by
  intro H a w hi
  obtain ⟨v, hv, hc⟩ := run_zeroValue hy hz w
  refine ⟨_, w.alloc (.cells z.toArray t), H.add w.heap.size 1, ?_, hi.newCells t y.size 1 false (some t) _ (ofVals_rel hd) (fun j u hu => by simpa using hu) (fun t' h => ?_), new_ptr hi _ 1⟩
  · simp [execOp, hop, Instr.alloc, newVar, newRow, hv, hc]
  · injection h with h
    exact ⟨h, by simp [hzl], by simp [maxLen], 1, by simp [hzl], Nat.le_refl _⟩

theorem v_to_unsafe {C : Ctx} {o : Oper} {env : List (Nat × AV)} {objs : List AObj} {s d e : TypeId} {x : Operand} {ys ye : Ty} {ob ver i esz : Nat} {cs : List AV} {flat : Bool} {own : Option TypeId} (hop : o.op = .convert s d x)
    (hx : ev ⟨env, objs⟩ x = some (.ptr ob ver i)) (hob : objs[ob]? = some (.cells cs ver esz flat own)) (hlt : i < cs.length) (hys : C.T.at s = some ys) (hk : ys.k = .pointer e) (hye : C.T.at e = some ye) (hsz : 0 < ye.size) (hd : C.P.underlying d = some .unsafePointer) :
    VStep C o ⟨env, objs⟩ (.ptr ob ver i) objs := by
  refine VStep.of_pure (st := ⟨env, objs⟩) fun H a w hi => ?_
  obtain ⟨dd, i', hdd, _, hkd, _⟩ := C.ty hys
  rw [hk] at hkd
  obtain rfl := kOf_pointer hkd
  obtain ⟨_, ie, _, hie, _, hss, _⟩ := C.ty hye
  obtain ⟨g1, g2, vs, c, e', g3, g4, g5, g6⟩ := hi.objs.rel ob _ hob
  have hr := ev_rel hi hx
  have h1 := hr.2.2 g1
  have hl := g4.length
  have hsh : w.shape? (H.blk ob) = some (e', c.size) := by simp [World.shape?, g3]
  have hoff : H.off ob + i < c.size := by
    have := g5 i vs[i] (by simp [show i < vs.length by omega])
    exact (Array.getElem?_eq_some_iff.1 this).1
  refine ⟨.pointer (some ⟨H.blk ob, H.off ob + i, none⟩), ?_, by rw [← h1]; exact hr⟩
  simp only [execOp, hop, h1, Sem.run_bind, Lib.run_to_unsafe w ⟨H.blk ob, H.off ob + i, none⟩ hdd hd hie (by rw [← hss]; omega) hsh hoff, Result.andThen_ok, Sem.run_pure]

theorem v_from_unsafe {C : Ctx} {o : Oper} {env : List (Nat × AV)} {objs : List AObj} {s d u : TypeId} {x : Operand} {yd yu : Ty} {ob ver esz : Nat} {cs : List AV} {flat : Bool} (hop : o.op = .convert s d x)
    (hx : ev ⟨env, objs⟩ x = some (.ptr ob ver 0)) (hob : objs[ob]? = some (.cells cs ver esz flat (some u))) (hlt : 0 < cs.length) (hs : C.P.underlying s = some .unsafePointer) (hyd : C.T.at d = some yd) (hk : yd.k = .pointer u) (hyu : C.T.at u = some yu) (hsz : yu.size = esz) (hpos : 0 < esz) :
    VStep C o ⟨env, objs⟩ (.ptr ob ver 0) objs := by
  refine VStep.of_pure (st := ⟨env, objs⟩) fun H a w hi => ?_
  obtain ⟨dd, i', hdd, _, hkd, _⟩ := C.ty hyd
  rw [hk] at hkd
  obtain rfl := kOf_pointer hkd
  obtain ⟨_, iu, _, hiu, _, hss, _⟩ := C.ty hyu
  obtain ⟨g1, g2, vs, c, e', g3, g4, g5, g6⟩ := hi.objs.rel ob _ hob
  obtain ⟨rfl, p2, p3, p4, N, p5, p6⟩ := g6 u rfl
  have hr := ev_rel hi hx
  have h1 := hr.2.2 g1
  have hl := g4.length
  have hcell : C.P.cellsOf e' = esz := by simp [Program.cellsOf, hiu, ← hss, hsz]
  have hN : 1 ≤ N := by
    rcases Nat.eq_zero_or_pos N with h | h
    · subst h; omega
    · exact h
  have hsh : w.shape? (H.blk ob) = some (e', c.size) := by simp [World.shape?, g3]
  have hcount : c.size / C.P.cellsOf e' = H.cap ob := by rw [hcell, p3, Nat.mul_div_cancel _ hpos]
  have hz : H.off ob + 0 = 0 := by omega
  refine ⟨.pointer (some ⟨H.blk ob, H.off ob + 0, none⟩), ?_, by rw [← h1]; exact hr⟩
  rw [hz] at h1 ⊢
  simp only [execOp, hop, h1, Sem.run_bind, Lib.run_from_unsafe w ⟨H.blk ob, 0, none⟩ hs hdd hiu hsh (by rw [hcount]; exact liesAt_self hcell hpos _ (by omega)), Result.andThen_ok, Sem.run_pure]

theorem noEscape_row {P : Program} {ob ver i : Nat} (H : View) (w : World) (vs : List Value) (h : RelL w [.ptr ob ver i] H vs) : ∃ v, (Extern.AbiNoEscape.same vs.toArray).run P w = .ok v w ∧ RelV w (.ptr ob ver i) H v := by
  obtain ⟨v, _, rfl, h1, rfl⟩ := h
  exact ⟨v, rfl, h1⟩

/-! ### a text behind bytes -/
theorem append_str_at {P : Program} (w : World) (base : Nat) (t u ty e : TypeId) (i : TypeInfo) (ht : P.underlying t = some (.slice e)) (hu : P.underlying u = some .string) (hi : P.info? e = some i) (hz : i.zero = some (.int .u8 0))
    (hsize : i.size = 1) (hby : i.bytes = 1) (v : Value) (n : Nat) (xs : List Value) (hown : w.ownsRow base e 1 v n xs) (s : ByteArray) (hbytes : n + s.size ≤ 140737488355328) (hbase : base ≤ w.heap.size) :
    ∃ v' w', (Builtin.append_ #[t, u] ty #[v, .string s]).run P w = .ok v' w' ∧ w'.ownsRow base e 1 v' (n + s.size) (xs ++ Lib.strCells s) ∧ w.grownBy w' v.ownBlock ∧
      (v' = .slice none 0 0 ↔ v = .slice none 0 0 ∧ s.size = 0) ∧ (v'.ownBlock = v.ownBlock ∨ v'.ownBlock = some w.heap.size) := by
  obtain ⟨v', w', r1, r2, r3, r4⟩ := Lib.run_append_own_string w base t u ty e i ht hu hi hz hsize hby v n xs hown s (by simp only [maxLen]; omega) hbytes hbase
  refine ⟨v', w', r1, r2, r3, r4, ?_⟩
  have hxl : xs.length = n := by simpa using hown.1
  rcases hown.2 with ⟨rfl, rfl⟩ | ⟨g, cap, cur, rfl, hbg, hg, hnc, hcm, hcs, htake⟩
  · by_cases hm : s.size = 0
    · rw [r4.2 ⟨rfl, hm⟩]; exact .inl rfl
    · have hr := run_append_nil_string (P := P) w t u ty e i (.int .u8 0) ht hu hi hz s (by omega) (by omega) (by rw [hby]; omega)
      rw [hr] at r1
      injection r1 with h1 h2
      rw [← h1]; exact .inr rfl
  · have hcs' : cur.size = cap := by simpa using hcs
    by_cases hroom : n + s.size ≤ cap
    · have hr := Lib.run_append_room_string (P := P) w t u ty e i ht hu hi hsize g n cap cur hg s hroom (by omega)
      rw [hr] at r1
      injection r1 with h1 h2
      rw [← h1]; exact .inl rfl
    · have hr := Lib.run_append_grow_string (P := P) w t u ty e i (.int .u8 0) ht hu hi hz ⟨g, 0, none⟩ n cap xs (by rw [hsize]; simpa using hxl) (hown.cells (g := g) rfl) s (by omega) (by omega) (by rw [hby]; exact growslice_fits (by omega) (by omega))
      rw [hr] at r1
      injection r1 with h1 h2
      rw [← h1]; exact .inr rfl

theorem strCells_of (s : List UInt8) : Lib.strCells ⟨s.toArray⟩ = byteVals s := by simp [Lib.strCells, byteVals]
theorem size_of (s : List UInt8) : (ByteArray.mk s.toArray).size = s.length := by simp [ByteArray.size]

/-- a row that has come to be, as an object -/
theorem new_row {C : Ctx} {H : View} {env : List (Nat × AV)} {objs : List AObj} {a : Act} {w w' : World} (hi : Inv C H ⟨env, objs⟩ a w) {e : TypeId} {esz m : Nat} {ds : List AV} {news : List Value} {v' : Value} (r2 : w'.ownsRow w.heap.size e esz v' m news) (r3 : w.grownBy w' none) (hm : 0 < m)
    (h3 : RelL w ds H.bare news) : ∃ H', Inv C H' ⟨env, objs ++ [.cells ds 0 esz true (some e)]⟩ a w' ∧ RelV w' (.sl objs.length 0 0 m true) H' v' := by
  obtain ⟨q1, q2⟩ := r2
  rcases q2 with ⟨rfl, q2⟩ | ⟨g, cp, cur, rfl, q3, q4, q5, q6, q7, q8⟩
  · omega
  have hn := hi.objs.n
  have hn' : H.n = objs.length := hn
  let H' : View := { n := H.n + 1, blk := fun o => if o = H.n then g else H.blk o, off := fun o => if o = H.n then 0 else H.off o, cap := fun o => if o = H.n then cp else H.cap o, ver := fun o => if o = H.n then 0 else H.ver o, wr := fun b => H.wr b ∨ b = g }
  have hfr : ∀ b, b < w.heap.size → w'.heap[b]? = w.heap[b]? := fun b hb => r3.block b hb (by simp)
  have hgl : g < w'.heap.size := (Array.getElem?_eq_some_iff.1 q4).1
  have hK : Keeps w H w' H' := by
    refine ⟨fun ad u hc hx => ?_, fun b hb hw => ?_, Nat.le_succ _, fun o ho => ?_, fun o ho _ => ?_⟩
    · rw [World.cell?_of_block (w := w) (hfr _ (World.block_lt_of_cell? w ad hc))]; exact hc
    · rcases hw with hw | hw
      · exact hw
      · omega
    · have : o ≠ H.n := by omega
      simp [H', this]
    · have : o ≠ H.n := by omega
      simp [H', this]
  have hlive : ∀ i ob, objs[i]? = some ob → ob.live = true → H.blk i < w.heap.size := fun i ob h1 h2 => hi.objs.lt _ (hi.objs.wr_blk h1 h2)
  refine ⟨H', ?_, ?_⟩
  · refine hi.move (objs' := objs ++ [.cells ds 0 esz true (some e)]) hK ⟨by simp [H', hn'], ?_, ?_, ?_⟩ ?_ (by have := hi.klen; simp at this ⊢; omega) ?_ ?_ ?_ ?_ ?_ r3.size r3.os r3.tape r3.output
    · intro i' ob hob
      rcases get_snoc hob with ⟨hlt, hob⟩ | ⟨he, rfl⟩
      · have hne : i' ≠ H.n := by omega
        by_cases hl : ob.live = true
        · exact (hi.objs.rel i' ob hob).keeps hK (by simp [H', hne]) (by simp [H', hne]) (by simp [H', hne]) (by simp [H', hne]) (fun h => .inl h) (hfr _ (hlive i' ob hob hl))
        · cases ob <;> first | trivial | (simp [AObj.live] at hl; done) | (have := hi.objs.rel i' _ hob; simpa [RelO, H', hne] using this)
      · have he : i' = H.n := by omega
        subst he
        refine ⟨by simp [H'], by simp [H'], news, cur, e, by simpa [H'] using q4, ?_, ?_, ?_⟩
        · exact h3.keeps ds hK.bare
        · intro j u hu
          rw [← q8, List.getElem?_take] at hu
          split at hu
          · simpa [H'] using hu
          · cases hu
        · intro t' ht'
          injection ht' with ht'
          exact ⟨ht', by simp [H'], by simpa [H'] using q7, by simpa [H'] using q6, m, q1, by simpa [H'] using q5⟩
    · intro i1 i2 ob1 ob2 p1 p2 l1 l2 hbb'
      rcases get_snoc p1 with ⟨a1, b1⟩ | ⟨a1, b1⟩ <;> rcases get_snoc p2 with ⟨a2, b2⟩ | ⟨a2, b2⟩
      · simp only [H', if_neg (show i1 ≠ H.n by omega), if_neg (show i2 ≠ H.n by omega)] at hbb'
        exact hi.objs.inj _ _ _ _ b1 b2 l1 l2 hbb'
      · simp only [H', if_neg (show i1 ≠ H.n by omega), if_pos (show i2 = H.n by omega)] at hbb'
        have := hlive _ _ b1 l1; omega
      · simp only [H', if_pos (show i1 = H.n by omega), if_neg (show i2 ≠ H.n by omega)] at hbb'
        have := hlive _ _ b2 l2; omega
      · omega
    · intro b hb
      rcases hb with hb | hb
      · have := hi.objs.lt b hb; have := r3.size; omega
      · omega
    · intro b hb
      refine ⟨fun h => h.resolve_right (by have := hi.le; omega), .inl⟩
    · intro x hx
      have := hi.klen
      have : x ≠ H.n := by simp at *; omega
      simp [H', this]
    · intro x cs ver esz flat own hx hob
      have := hi.klen
      rw [List.getElem?_append_left (by simp at *; omega)] at hob
      exact hi.lens x cs ver esz flat own hx hob
    · intro x hx
      exact Outside.of_eq (hfr _ (Nat.lt_of_lt_of_le (C.hk x hx) hi.le)) _ _
    · intro i' ob hob hl
      rcases get_snoc hob with ⟨hlt, hob⟩ | ⟨he, rfl⟩
      · simp only [H', if_neg (show i' ≠ H.n by omega)]
        exact hi.own i' ob hob hl
      · simp only [H', if_pos (show i' = H.n by omega)]
        exact .inr (Nat.le_trans hi.le q3)
    · intro b hb hM
      exact hfr b (Nat.lt_of_lt_of_le hb hi.le)
  · refine ⟨by simp [H']; omega, by simp [H', hn'], fun _ => ⟨⟨g, 0, none⟩, cp, rfl, q5, fun _ => by simp [H', hn'], fun _ => ⟨by simp [H', hn'], rfl, by simp [H', hn']⟩⟩⟩

theorem v_append_str_nil {C : Ctx} {o : Oper} {env : List (Nat × AV)} {objs : List AObj} {sl x : Operand} {t u e : TypeId} {y yu ye : Ty} {s : List UInt8} (hop : o.op = .call { callee := .builtin .append, args := #[sl, x], argTypes := #[t, u] })
    (hs : ev ⟨env, objs⟩ sl = some .nils) (hx : ev ⟨env, objs⟩ x = some (.str s)) (hy : C.T.at t = some y) (hk : y.k = .slice e) (hyu : C.T.at u = some yu) (hku : yu.k = .string) (hye : C.T.at e = some ye) (hz : (C.P.info? e).bind (fun i => i.zero) = some (.int .u8 0)) (hsz : ye.size = 1) (hbb : ye.bytes = 1)
    (hne : s ≠ []) (hbytes : s.length ≤ 140737488355328) : VStep C o ⟨env, objs⟩ (.sl objs.length 0 0 s.length true) (objs ++ [.cells (bytesAV s) 0 1 true (some e)]) := by
  intro H a w hi
  have h1 := ev_rel hi hs
  have h2 := ev_rel hi hx
  simp only [RelV] at h1 h2
  obtain ⟨d, i, hd, _, hkd, _⟩ := C.ty hy
  rw [hk] at hkd
  obtain rfl := kOf_slice hkd
  obtain ⟨du, iu, hdu, _, hkdu, _⟩ := C.ty hyu
  rw [hku] at hkdu
  obtain rfl := kOf_string hkdu
  obtain ⟨de, ie, hde, hie, _, hss, hb2, hzz⟩ := C.ty hye
  have hz0' : ie.zero = some (.int .u8 0) := by
    rw [hie] at hz
    exact hz
  have hpos : 0 < s.length := List.length_pos_iff.2 hne
  obtain ⟨v', w', r1, r2, r3, r4, r5⟩ := append_str_at (P := C.P) w w.heap.size t u o.type e ie hd hdu hie hz0' (by rw [← hss, hsz]) (by rw [← hb2, hbb]) (.slice none 0 0) 0 [] (World.ownsRow_nil w _ e _) ⟨s.toArray⟩ (by rw [size_of]; omega) (Nat.le_refl _)
  rw [size_of, strCells_of, Nat.zero_add, List.nil_append] at r2
  obtain ⟨H', k1, k2⟩ := new_row hi (ds := bytesAV s) r2 (by simpa [Value.ownBlock] using r3) hpos (bytes_rel.2 rfl)
  refine ⟨v', w', H', ?_, k1, k2⟩
  simp only [execOp, hop, resolve, invoke, builtin, Sem.run_bind, Sem.run_pure, Result.andThen_ok, List.map_toArray, List.map_cons, List.map_nil, h1, h2, r1]

theorem v_append_str_own {C : Ctx} {o : Oper} {env : List (Nat × AV)} {objs : List AObj} {sl x : Operand} {t u e : TypeId} {y yu ye : Ty} {s s0 : List UInt8} {ob ver : Nat} (hop : o.op = .call { callee := .builtin .append, args := #[sl, x], argTypes := #[t, u] })
    (hs : ev ⟨env, objs⟩ sl = some (.sl ob ver 0 s0.length true)) (hob : objs[ob]? = some (.cells (bytesAV s0) ver 1 true (some e))) (hx : ev ⟨env, objs⟩ x = some (.str s)) (hy : C.T.at t = some y) (hk : y.k = .slice e) (hyu : C.T.at u = some yu) (hku : yu.k = .string)
    (hye : C.T.at e = some ye) (hz : (C.P.info? e).bind (fun i => i.zero) = some (.int .u8 0)) (hsz : ye.size = 1) (hbb : ye.bytes = 1) (hbytes : s0.length + s.length ≤ 140737488355328) :
    VStep C o ⟨env, objs⟩ (.sl ob (ver + 1) 0 (s0 ++ s).length true) (objs.set ob (.cells (bytesAV (s0 ++ s)) (ver + 1) 1 true (some e))) := by
  intro H a w hi
  have hx2 := ev_rel hi hx
  simp only [RelV] at hx2
  obtain ⟨g1, g2, vs, cc, e', g3, g4, g5, g6⟩ := hi.objs.rel ob _ hob
  obtain ⟨rfl, p2, p3, p4, N, p5, p6⟩ := g6 e rfl
  obtain ⟨o1, o2, o3⟩ := ev_rel hi hs
  obtain ⟨ad0, cap0, f1, f2, f3, f4⟩ := o3 g1
  obtain ⟨rfl, _, rfl⟩ := f4 rfl
  obtain ⟨d, i, hd, _, hkd, _⟩ := C.ty hy
  rw [hk] at hkd
  obtain rfl := kOf_slice hkd
  obtain ⟨du, iu, hdu, _, hkdu, _⟩ := C.ty hyu
  rw [hku] at hkdu
  obtain rfl := kOf_string hkdu
  obtain ⟨de, ie, hde, hie, _, hss, hb2, hzz⟩ := C.ty hye
  have hz0' : ie.zero = some (.int .u8 0) := by
    rw [hie] at hz
    exact hz
  obtain rfl := bytes_rel.1 g4
  have hlenv : (byteVals s0).length = s0.length := by simp [byteVals]
  have hown : w.ownsRow C.w0.heap.size e' 1 (.slice (some ⟨H.blk ob, 0, none⟩) s0.length (H.cap ob)) s0.length (byteVals s0) := by
    refine ⟨by omega, .inr ⟨H.blk ob, H.cap ob, cc, rfl, ?_, g3, f2, p4, p3, ?_⟩⟩
    · rcases hi.own ob _ hob rfl with ⟨_, h⟩ | h
      · cases h
      · exact h
    · apply List.ext_getElem?
      intro j
      rw [List.getElem?_take]
      split
      · rename_i hj
        have hjv : j < (byteVals s0).length := by omega
        have := g5 j (byteVals s0)[j] (by simp [hjv])
        rw [p2, Nat.zero_add] at this
        rw [Array.getElem?_toList, this]; simp [hjv]
      · rename_i hj
        rw [List.getElem?_eq_none (by omega)]
  obtain ⟨v', w', r1, r2, r3, r4, r5⟩ := append_str_at (P := C.P) w C.w0.heap.size t u o.type e' ie hd hdu hie hz0' (by rw [← hss, hsz]) (by rw [← hb2, hbb]) _ s0.length _ hown ⟨s.toArray⟩ (by rw [size_of]; omega) hi.le
  rw [size_of, strCells_of] at r2
  obtain ⟨q1, q2⟩ := r2
  rcases q2 with ⟨rfl, q2⟩ | ⟨g, cp, cur, rfl, q3, q4, q5, q6, q7, q8⟩
  · have := (r4.1 rfl).1; simp at this
  have hgl : g < w'.heap.size := (Array.getElem?_eq_some_iff.1 q4).1
  let H' : View := { n := H.n, blk := fun o => if o = ob then g else H.blk o, off := fun o => if o = ob then 0 else H.off o, cap := fun o => if o = ob then cp else H.cap o, ver := fun o => if o = ob then ver + 1 else H.ver o, wr := fun b => H.wr b ∨ (b = g ∧ w.heap.size ≤ b) }
  have hobk : ¬ ob < C.k := by
    intro hlt
    rcases hi.own ob _ hob rfl with ⟨_, h⟩ | h
    · cases h
    · have := C.hk ob hlt
      rw [← (hi.byref ob hlt).1] at this; omega
  have hg : g = H.blk ob ∨ g = w.heap.size := by simpa [Value.ownBlock] using r5
  have hbl := hi.objs.lt _ g2
  have hwo : ∀ b, H'.wr b ↔ (H.wr b ∨ (b = H'.blk ob ∧ w.heap.size ≤ b)) := fun b => by simp [H']
  have hfr : ∀ b, b < w.heap.size → b ≠ H.blk ob → w'.heap[b]? = w.heap[b]? := fun b hb hne => r3.block b hb (by simpa [Value.ownBlock] using hne)
  have hlen2 : (s0 ++ s).length = s0.length + s.length := List.length_append
  refine ⟨.slice (some ⟨g, 0, none⟩) (s0.length + s.length) cp, w', H', ?_, ?_, ?_⟩
  · simp only [execOp, hop, resolve, invoke, builtin, Sem.run_bind, Sem.run_pure, Result.andThen_ok, List.map_toArray, List.map_cons, List.map_nil, f1, hx2, r1]
  · refine hi.write (ob := .cells (bytesAV s0) ver 1 true (some e')) (H' := H') hob rfl (fun h => rfl) ⟨rfl, fun x hx => ⟨by simp [H', hx], by simp [H', hx], by simp [H', hx], by simp [H', hx]⟩⟩ (.inr (by simp [H', g1])) ?_ (fun h => absurd h hobk) hwo hfr r3.size r3.os r3.tape r3.output ?_
    · rcases hg with hg | hg
      · exact .inl (by simp [H', hg])
      · exact .inr ⟨by simp [H', hg], by simpa [H'] using hgl⟩
    · refine ⟨by simp [H'], ?_, byteVals s0 ++ byteVals s, cur, e', by simpa [H'] using q4, ?_, ?_, ?_⟩
      · rcases hg with hg | hg
        · exact .inl (by simpa [H', hg] using g2)
        · exact .inr ⟨by simp [H'], by simp [H', hg]⟩
      · exact bytes_rel.2 (by simp [byteVals])
      · intro j u hu
        rw [← q8, List.getElem?_take] at hu
        split at hu
        · simpa [H'] using hu
        · cases hu
      · intro t' ht'
        injection ht' with ht'
        exact ⟨ht', by simp [H'], by simpa [H'] using q7, by simpa [H'] using q6, s0.length + s.length, q1, by simpa [H'] using q5⟩
  · refine ⟨o1, by simp [H'], fun _ => ⟨⟨g, 0, none⟩, cp, by rw [hlen2], by rw [hlen2]; exact q5, fun _ => by simp [H'], fun _ => ⟨by simp [H'], rfl, by simp [H']⟩⟩⟩

/-! ### bytes as a text -/
theorem v_sdata {C : Ctx} {o : Oper} {env : List (Nat × AV)} {objs : List AObj} {x : Operand} {ts : Array TypeId} {ob ver off n esz : Nat} {full : Bool} {cs : List AV} {flat : Bool} {own : Option TypeId} (hop : o.op = .call { callee := .builtin .unsafeSliceData, args := #[x], argTypes := ts })
    (hx : ev ⟨env, objs⟩ x = some (.sl ob ver off n full)) (hob : objs[ob]? = some (.cells cs ver esz flat own)) (hn : 0 < n) : VStep C o ⟨env, objs⟩ (.ptr ob ver off) objs := by
  refine VStep.of_pure (st := ⟨env, objs⟩) fun H a w hi => ?_
  have g1 := (hi.objs.rel ob _ hob).1
  obtain ⟨o1, o2, o3⟩ := ev_rel hi hx
  obtain ⟨ad, c, f1, f2, f3, f4⟩ := o3 g1
  have f3 := f3 hn
  refine ⟨.pointer (some ad), ?_, o1, o2, fun _ => by rw [f3]⟩
  simp only [execOp, hop, resolve, invoke, builtin, Sem.run_bind, Sem.run_pure, Result.andThen_ok, List.map_toArray, List.map_cons, List.map_nil, f1, Lib.run_unsafeSliceData_row w ts o.type ad n c (by omega)]
theorem v_sdata_nil {C : Ctx} {o : Oper} {env : List (Nat × AV)} {objs : List AObj} {x : Operand} {ts : Array TypeId} (hop : o.op = .call { callee := .builtin .unsafeSliceData, args := #[x], argTypes := ts })
    (hx : ev ⟨env, objs⟩ x = some .nils) : VStep C o ⟨env, objs⟩ .nilp objs := by
  refine VStep.of_pure (st := ⟨env, objs⟩) fun H a w hi => ?_
  have h1 := ev_rel hi hx
  simp only [RelV] at h1
  refine ⟨.pointer none, ?_, rfl⟩
  simp only [execOp, hop, resolve, invoke, builtin, Sem.run_bind, Sem.run_pure, Result.andThen_ok, List.map_toArray, List.map_cons, List.map_nil, h1, Lib.run_unsafeSliceData_nil]

theorem v_ustr_nil {C : Ctx} {o : Oper} {env : List (Nat × AV)} {objs : List AObj} {x x' : Operand} {pt it : TypeId} (hop : o.op = .call { callee := .builtin .unsafeString, args := #[x, x'], argTypes := #[pt, it] })
    (hx : ev ⟨env, objs⟩ x = some .nilp) (hx' : ev ⟨env, objs⟩ x' = some (.int .i64 0)) : VStep C o ⟨env, objs⟩ (.str []) objs := by
  refine VStep.of_pure (st := ⟨env, objs⟩) fun H a w hi => ?_
  have h1 := ev_rel hi hx
  have h2 := ev_rel hi hx'
  simp only [RelV] at h1 h2
  refine ⟨.string .empty, ?_, rfl⟩
  simp only [execOp, hop, resolve, invoke, builtin, Sem.run_bind, Sem.run_pure, Result.andThen_ok, List.map_toArray, List.map_cons, List.map_nil, h1, h2, Lib.run_unsafeString_none w pt it o.type none]

/-- the bytes are a text's from now on: the object is given up -/
theorem v_ustr {C : Ctx} {o : Oper} {env : List (Nat × AV)} {objs : List AObj} {x x' : Operand} {pt it e : TypeId} {yp ye : Ty} {ob ver : Nat} {s : List UInt8} (hop : o.op = .call { callee := .builtin .unsafeString, args := #[x, x'], argTypes := #[pt, it] })
    (hx : ev ⟨env, objs⟩ x = some (.ptr ob ver 0)) (hx' : ev ⟨env, objs⟩ x' = some (.int .i64 s.length)) (hob : objs[ob]? = some (.cells (bytesAV s) ver 1 true (some e))) (hne : s ≠ []) (hyp : C.T.at pt = some yp) (hk : yp.k = .pointer e) (hye : C.T.at e = some ye) (hsz : ye.size = 1)
    (hlen : s.length ≤ 9223372036854775807) : VStep C o ⟨env, objs⟩ (.str s) (objs.set ob .dead) := by
  intro H a w hi
  obtain ⟨g1, g2, vs, cc, e', g3, g4, g5, g6⟩ := hi.objs.rel ob _ hob
  obtain ⟨rfl, p2, p3, p4, N, p5, p6⟩ := g6 e rfl
  obtain ⟨o1, o2, o3⟩ := ev_rel hi hx
  have h1 := o3 g1
  have h2 := ev_rel hi hx'
  simp only [RelV] at h2
  obtain rfl := bytes_rel.1 g4
  obtain ⟨d, i, hd, _, hkd, _⟩ := C.ty hyp
  rw [hk] at hkd
  obtain rfl := kOf_pointer hkd
  obtain ⟨de, ie, hde, hie, _, hss, _⟩ := C.ty hye
  have hcell : C.P.cellsOf e' = 1 := by simp [Program.cellsOf, hie, ← hss, hsz]
  have hbv : (byteVals s).length = s.length := by simp [byteVals]
  rw [p2, Nat.zero_add] at h1
  have hrun := Lib.run_unsafeString_row (P := C.P) w pt it o.type e' hd hcell (H.blk ob) cc.size (by simp [World.shape?, g3]) s hne (by rw [p3, Nat.mul_one]; omega) hlen (fun j c hj => by
    have := g5 j (.int .u8 c.toNat) (by simp [byteVals, hj])
    rw [p2, Nat.zero_add] at this
    rw [add_mk]
    simp only [World.cell?, g3, Option.isSome_none, Bool.false_eq_true, if_false, Nat.zero_add]
    exact this)
  have hpos : s.length ≠ 0 := by simpa using hne
  have hobk : ¬ ob < C.k := by
    intro hlt
    rcases hi.own ob _ hob rfl with ⟨_, h⟩ | h
    · cases h
    · have := C.hk ob hlt
      rw [← (hi.byref ob hlt).1] at this; omega
  let H' : View := { H with ver := fun o => if o = ob then ver + 1 else H.ver o }
  refine ⟨.string ⟨s.toArray⟩, w.freeze ⟨H.blk ob, 0, none⟩ s.length, H', ?_, ?_, rfl⟩
  · simp only [execOp, hop, resolve, invoke, builtin, Sem.run_bind, Sem.run_pure, Result.andThen_ok, List.map_toArray, List.map_cons, List.map_nil, h1, h2, hrun]
  · have hbl := hi.objs.lt _ g2
    refine hi.write (st := ⟨env, objs⟩) (ob' := .dead) (H' := H') hob rfl (fun h => by cases h) ⟨rfl, fun x hx => ⟨rfl, rfl, rfl, by simp [H', hx]⟩⟩ (.inr (by simp [H', g1])) (.inl rfl) (fun h => absurd h hobk) (fun b => ⟨.inl, fun h => h.elim id fun h => by have : b = H.blk ob := h.1; omega⟩) (fun b hb hne => ?_) ?_ ?_ ?_ ?_ trivial
    · simp only [World.freeze, if_neg hpos, Array.getElem?_modify]
      rw [if_neg (fun h => hne h.symm)]
    · simp [World.freeze, hpos]
    · simp [World.freeze, hpos]
    · simp [World.freeze, hpos]
    · simp [World.freeze, hpos]

theorem push_bytes (l : List UInt8) : ∀ acc : ByteArray, (l.map fun c => ((c.toNat : Nat) : Int)).foldl (fun r n => r.push (UInt8.ofNat n.toNat)) acc = ⟨acc.data ++ l.toArray⟩ := by
  induction l with
  | nil => intro acc; simp
  | cons c l ih =>
    intro acc
    simp only [List.map_cons, List.foldl_cons]
    rw [ih]
    simp [ByteArray.push]

/-- bytes, copied to a text -/
theorem v_bytes_str {C : Ctx} {o : Oper} {env : List (Nat × AV)} {objs : List AObj} {s d e : TypeId} {x : Operand} {ys yd ye : Ty} {ob ver off n : Nat} {full : Bool} {cs : List AV} {own : Option TypeId} {flat : Bool} {esz : Nat} (l : List UInt8) (hop : o.op = .convert s d x)
    (hx : ev ⟨env, objs⟩ x = some (.sl ob ver off n full)) (hob : objs[ob]? = some (.cells cs ver esz flat own)) (hl : (cs.drop off).take n = bytesAV l) (hn : l.length = n) (hys : C.T.at s = some ys) (hk : ys.k = .slice e) (hyd : C.T.at d = some yd) (hkd : yd.k = .string) (hye : C.T.at e = some ye) (hke : ye.k = .int .u8) :
    VStep C o ⟨env, objs⟩ (.str l) objs := by
  refine VStep.of_pure (st := ⟨env, objs⟩) fun H a w hi => ?_
  obtain ⟨d1, i1, hd1, _, hk1, _⟩ := C.ty hys
  rw [hk] at hk1
  obtain rfl := kOf_slice hk1
  obtain ⟨d2, i2, hd2, _, hk2, _⟩ := C.ty hyd
  rw [hkd] at hk2
  obtain rfl := kOf_string hk2
  obtain ⟨d3, i3, hd3, _, hk3, _⟩ := C.ty hye
  rw [hke] at hk3
  obtain rfl := kOf_int hk3
  obtain ⟨g1, g2, vs, cc, e', g3, g4, g5, g6⟩ := hi.objs.rel ob _ hob
  obtain ⟨o1, o2, o3⟩ := ev_rel hi hx
  obtain ⟨ad, c, f1, f2, f3, f4⟩ := o3 g1
  have hrl := (RelL.drop off g4).take n
  rw [hl] at hrl
  have hbv := bytes_rel.1 hrl
  have hload : (loadCells ad n).run C.P w = .ok ((l.map fun c => ((c.toNat : Nat) : Int)).map (Value.int .u8)).toArray w := by
    have h := run_loadCells_list (P := C.P) w ad (byteVals l) (fun j v hj => by
      have hn0 : 0 < n := by
        have := (List.getElem?_eq_some_iff.1 hj).1
        simp [byteVals] at this; omega
      rw [f3 hn0, add_mk]
      rw [← hbv, List.getElem?_take] at hj
      split at hj
      · rw [List.getElem?_drop] at hj
        have := g5 _ _ hj
        simp only [World.cell?, g3, Option.isSome_none, Bool.false_eq_true, if_false]
        rw [Nat.add_assoc]; exact this
      · cases hj)
    have e1 : (byteVals l).length = n := by simp [byteVals, hn]
    rw [e1] at h
    rw [h]
    simp [byteVals, Function.comp_def]
  refine ⟨.string ⟨l.toArray⟩, ?_, rfl⟩
  have hrun := run_bytesToString (P := C.P) w ad n c _ hload
  rw [push_bytes] at hrun
  simp only [execOp, hop, f1, convert, Sem.run_bind, run_underlying hd1, run_underlying hd2, run_underlying hd3, Result.andThen_ok, hrun, Sem.run_pure]
  simp

theorem v_any_assign {C : Ctx} {o : Oper} {st : St} {x : Operand} (hop : o.op = .assign x) : VStep C o st .any st.objs :=
  VStep.of_pure fun H a w hi => ⟨a.eval x, by simp [execOp, hop], trivial⟩

/-- a call whose body is walked where it stands -/
theorem si {C : Ctx} {ops : Array Oper} {o : Oper} {rest : List Oper} {env : List (Nat × AV)} {objs : List AObj} {Q : Exit → St → Prop} {x : Operand} {xs : Array Operand} {ts : Array TypeId} {f : FuncId} {fs cs avs args : List AV} {fn : Func} {c : Code} {d : Nat}
    (hf : C.P.funcs[f]? = some fn) (hb : fn.body = some c) (hname : (fn.name == "runtime.NumGoroutine") = false) {nt : Nat} (hnt : fn.ntmps = nt) {rs : List ResultVar} (hrs : fn.results.toList = rs)
    (hop : o.op = .call { callee := .value x, args := xs, argTypes := ts }) (hx : ev ⟨env, objs⟩ x = some (.func (.func f) fs cs)) (hxs : evL ⟨env, objs⟩ xs.toList = some avs) (ha : fs ++ avs ++ cs = args) (hlen : Nat.ble args.length nt = true)
    (hg : gd ops ⟨env, objs⟩ o = some true) (hd : o.dst = some d) (hlt : Nat.blt d C.nt = true)
    (h : ∀ tm, W ⟨C.P, C.T, C.ok, nt, C.w0, C.k, C.H0, C.ln, C.hk, C.hj, (tm, env) :: C.sv⟩ c ⟨envOf 0 args, objs⟩ (fun e st' => (e = .ret ∨ e = .normal) ∧ ∃ cs', resAV C.T st' rs = some cs' ∧ WL C ops rest ⟨(d, tupAV cs') :: env, st'.objs⟩ Q)) :
    WL C ops (o :: rest) ⟨env, objs⟩ Q := by
  refine WL.inl hf hb hname hnt hrs hop hx hxs ha hlen hg (fun t ht => by rw [hd] at ht; injection ht with ht; subst ht; exact Nat.le_of_ble_eq_true hlt) fun tm => ?_
  rw [hd]
  exact h tm

end Go.Lens
