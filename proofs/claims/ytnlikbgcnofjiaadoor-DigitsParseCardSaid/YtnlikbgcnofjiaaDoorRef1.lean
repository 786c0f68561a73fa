/- The document's whole numbers: chattelref04.Of, From, Read; chattelref03.Text; chattelref14.Whole. -/
import Derived.Test.YtnlikbgcnofjiaaDoorRef0
import Derived.Test.YtnlikbgcnofjiaaDoorWhole0
set_option linter.unusedVariables false
set_option linter.unusedSimpArgs false
namespace Go.Proofs.YtnlikbgcnofjiaaDoor
open Go Go.Lens

def rIntAV (d : List Nat) (b : Bool) : AV := .agg [.row (i64AV d) d.length, .bool b]
@[simp] theorem rIntAV_plain (d : List Nat) (b : Bool) : (rIntAV d b).plain = true := by simp [rIntAV, AV.plain, plainL, i64AV_plain]

theorem rOf_spec (d : List Nat) (b : Bool) : Does Tryd.prog 72 [intRow d, .bool b] (rIntAV d (b && !(d == []))) := by
  refine does tab_ok Tryd.func72 rfl rfl rfl rfl rfl fun w0 H0 hk hj => ?_
  cases b
  · skip
    refine W.seq (W.region ?_)
    refine sn (a_alloc rfl rfl rfl rfl) (rfl : _ = AV.ptr 0 0 0) (rfl : _ = [_]) rfl rfl rfl ?_
    refine WL.nil ?_
    refine W.seq (W.region ?_)
    refine sp (v_pure rfl) rfl rfl rfl ?_
    refine sp (v_pure rfl) rfl rfl rfl ?_
    refine sp (v_pure rfl) rfl rfl rfl ?_
    refine so rfl rfl rfl ?_
    refine so rfl rfl rfl ?_
    refine so rfl rfl rfl ?_
    refine sp (v_pure rfl) rfl rfl rfl ?_
    refine sq (v_build rfl rfl rfl rfl rfl rfl rfl) (rfl : _ = AV.agg [_, _]) rfl rfl rfl ?_
    refine ss (a_storeA rfl rfl rfl rfl rfl (fun h => by cases h) rfl rfl rfl (Nat.le_of_ble_eq_true rfl)) (rfl : _ = [_]) rfl rfl ?_
    refine WL.nil ?_
    exact W.ret (fin (cs := [rIntAV d false]) rfl (.shut (.plain (rIntAV_plain _ _)) .nil) rfl)
  · have hb : (decide ((d.length : Int) > 0)) = !(d == []) := by cases d <;> simp
    refine W.seq (W.region ?_)
    refine sn (a_alloc rfl rfl rfl rfl) (rfl : _ = AV.ptr 0 0 0) (rfl : _ = [_]) rfl rfl rfl ?_
    refine WL.nil ?_
    refine W.seq (W.region ?_)
    refine sp (v_pure rfl) rfl rfl rfl ?_
    refine sp (v_pure rfl) rfl rfl rfl ?_
    refine sp (v_pure rfl) rfl rfl rfl ?_
    refine sp (v_pure rfl) rfl rfl rfl ?_
    first | refine sp (v_len rfl rfl rfl rfl ⟨_, rfl⟩ ⟨_, _, _, _, rfl⟩) rfl rfl rfl ?_ | refine sp (v_len rfl rfl rfl rfl ⟨_, rfl⟩ trivial) rfl rfl rfl ?_
    refine sq (v_pure rfl) (show _ = AV.bool (!(d == [])) from congrArg AV.bool hb) rfl rfl rfl ?_
    refine sp (v_pure rfl) rfl rfl rfl ?_
    refine sq (v_build rfl rfl rfl rfl rfl rfl rfl) (rfl : _ = AV.agg [_, _]) rfl rfl rfl ?_
    refine ss (a_storeA rfl rfl rfl rfl rfl (fun h => by cases h) rfl rfl rfl (Nat.le_of_ble_eq_true rfl)) (rfl : _ = [_]) rfl rfl ?_
    refine WL.nil ?_
    exact W.ret (fin (cs := [rIntAV d (true && !(d == []))]) rfl (.shut (.plain (rIntAV_plain _ _)) .nil) rfl)

theorem rFrom_spec (n : Int) (h0 : -9223372036854775807 ≤ n) (h1 : n ≤ 9223372036854775807) : Does Tryd.prog 78 [.int .i64 n] (rIntAV (digs DB n.natAbs) (decide (n < 0))) := by
  refine does tab_ok Tryd.func78 rfl rfl rfl rfl rfl fun w0 H0 hk hj => ?_
  by_cases hn : n < 0
  · have hne : digs DB n.natAbs ≠ [] := by intro h; have := (digs_eq_nil (B := DB) (by decide) _).1 h; omega
    have hne' : (digs DB n.natAbs == []) = false := by simpa using hne
    refine W.seq (W.region ?_)
    refine sn (a_alloc rfl rfl rfl rfl) (rfl : _ = AV.ptr 0 0 0) (rfl : _ = [_]) rfl rfl rfl ?_
    refine WL.nil ?_
    refine W.seq (W.seq (W.region ?_))
    refine sp (v_pure rfl) rfl rfl rfl ?_
    refine sp (v_is true rfl rfl rfl rfl (decide_eq_true hn)) rfl rfl rfl ?_
    refine WL.nil ?_
    refine W.cond_true rfl ?_
    refine W.seq (W.region ?_)
    refine sp (v_pure rfl) rfl rfl rfl ?_
    refine sq (v_pure rfl) (show _ = AV.int .i64 (n.natAbs : Nat) from congrArg (AV.int .i64) (by rw [IntKind.wrap_i64]; omega)) rfl rfl rfl ?_
    refine sc (rSmall_spec n.natAbs (by omega)) rfl rfl rfl rfl (by first | rfl | simp [plainL, AV.plain]) (by first | rfl | simp [plainL, AV.plain]) rfl rfl rfl ?_
    refine sp (v_pure rfl) rfl rfl rfl ?_
    refine WL.nil ?_
    refine W.seq (W.region ?_)
    refine sp (v_pure rfl) rfl rfl rfl ?_
    refine sc (rOf_spec (digs DB n.natAbs) true) rfl rfl rfl rfl (by first | rfl | simp [plainL, AV.plain]) (by first | rfl | simp [plainL, AV.plain]) rfl rfl rfl ?_
    refine ss (a_storeA rfl rfl rfl rfl rfl (fun h => by cases h) rfl rfl rfl (Nat.le_of_ble_eq_true rfl)) (rfl : _ = [_]) rfl rfl ?_
    refine WL.nil ?_
    refine W.ret (fin (cs := [rIntAV (digs DB n.natAbs) (true && !(digs DB n.natAbs == []))]) rfl (.shut (.plain (rIntAV_plain _ _)) .nil) ?_)
    simp [tupAV, hne', hn]
  · have hna : n = (n.natAbs : Nat) := by omega
    refine W.seq (W.region ?_)
    refine sn (a_alloc rfl rfl rfl rfl) (rfl : _ = AV.ptr 0 0 0) (rfl : _ = [_]) rfl rfl rfl ?_
    refine WL.nil ?_
    refine W.seq (W.seq (W.region ?_))
    refine sp (v_pure rfl) rfl rfl rfl ?_
    refine sp (v_is false rfl rfl rfl rfl (decide_eq_false hn)) rfl rfl rfl ?_
    refine WL.nil ?_
    refine W.cond_false rfl (W.skip ?_)
    refine W.seq (W.region ?_)
    refine sq (v_pure rfl) (show _ = AV.int .i64 (n.natAbs : Nat) from congrArg (AV.int .i64) hna) rfl rfl rfl ?_
    refine sc (rSmall_spec n.natAbs (by omega)) rfl rfl rfl rfl (by first | rfl | simp [plainL, AV.plain]) (by first | rfl | simp [plainL, AV.plain]) rfl rfl rfl ?_
    refine sp (v_pure rfl) rfl rfl rfl ?_
    refine WL.nil ?_
    refine W.seq (W.region ?_)
    refine sp (v_pure rfl) rfl rfl rfl ?_
    refine sc (rOf_spec (digs DB n.natAbs) false) rfl rfl rfl rfl (by first | rfl | simp [plainL, AV.plain]) (by first | rfl | simp [plainL, AV.plain]) rfl rfl rfl ?_
    refine ss (a_storeA rfl rfl rfl rfl rfl (fun h => by cases h) rfl rfl rfl (Nat.le_of_ble_eq_true rfl)) (rfl : _ = [_]) rfl rfl ?_
    refine WL.nil ?_
    refine W.ret (fin (cs := [rIntAV (digs DB n.natAbs) (false && !(digs DB n.natAbs == []))]) rfl (.shut (.plain (rIntAV_plain _ _)) .nil) ?_)
    simp [tupAV, hn]

theorem plain_neg (r : List UInt8) : plainP (45 :: r) = r ∧ signP (45 :: r) = true := by simp [plainP, signP, hasP]
theorem plain_pos (c : UInt8) (r : List UInt8) (h : c ≠ 45) : plainP (c :: r) = c :: r ∧ signP (c :: r) = false := by simp [plainP, signP, hasP, h]
theorem plain_nil : plainP [] = [] ∧ signP [] = false := by simp [plainP, signP, hasP]


theorem numText_no {s : List UInt8} {c : UInt8} (hc : c ∈ s) (h : isDig c = false) : numText s = false := by
  have : s.all isDig = false := by rw [List.all_eq_false]; exact ⟨c, hc, by simp [h]⟩
  simp [numText, this]

theorem rText_spec (s : List UInt8) (hs : s.length ≤ 9223372036854775807) : Does Tryd.prog 25 [.str s] (.bool (numText s)) := by
  refine does tab_ok Tryd.func25 rfl rfl rfl rfl rfl fun w0 H0 hk hj => ?_
  rcases s with _ | ⟨c, r⟩
  · skip
    refine W.seq (W.region ?_)
    refine sp (v_pure rfl) rfl rfl rfl ?_
    refine WL.nil ?_
    refine W.seq (W.seq (W.region ?_))
    refine sp (v_pure rfl) rfl rfl rfl ?_
    refine sp (v_len rfl rfl rfl rfl rfl trivial) rfl rfl rfl ?_
    refine sp (v_pure rfl) rfl rfl rfl ?_
    refine sp (v_pure rfl) rfl rfl rfl ?_
    refine so rfl rfl rfl ?_
    refine so rfl rfl rfl ?_
    refine so rfl rfl rfl ?_
    refine so rfl rfl rfl ?_
    refine so rfl rfl rfl ?_
    refine so rfl rfl rfl ?_
    refine so rfl rfl rfl ?_
    refine so rfl rfl rfl ?_
    refine sp (v_pure rfl) rfl rfl rfl ?_
    refine WL.nil ?_
    refine W.cond_true rfl ?_
    refine W.seq (W.region ?_)
    refine sp (v_pure rfl) rfl rfl rfl ?_
    refine WL.nil ?_
    exact W.ret (fin rfl (.shut (.plain rfl) .nil) rfl)
  · obtain ⟨s, hse⟩ : ∃ s, s = c :: r := ⟨_, rfl⟩
    rw [← hse] at hs ⊢
    have hlen : s.length = r.length + 1 := by rw [hse]; rfl
    have hget : s[0]? = some c := by rw [hse]; rfl
    have h6 : ¬ ((s.length : Int) = 0) := by omega
    have hl1 : 1 < s.length → (decide (1 < s.length) && s.head? == some 48) = ((c.toNat : Int) == 48) := fun h => by
      rw [decide_eq_true h, Bool.true_and, hse, List.head?_cons, Bool.eq_iff_iff, beq_iff_eq, beq_iff_eq, Option.some.injEq, ← UInt8.toNat_inj]
      show c.toNat = 48 ↔ _
      omega
    refine W.seq (W.region ?_)
    refine sp (v_pure rfl) rfl rfl rfl ?_
    refine WL.nil ?_
    by_cases h1 : (s.length : Int) > 1
    refine W.seq (W.seq (W.region ?_))
    refine sp (v_pure rfl) rfl rfl rfl ?_
    refine sp (v_len rfl rfl rfl rfl rfl trivial) rfl rfl rfl ?_
    refine sp (v_is false rfl rfl rfl rfl (by simpa using h6)) rfl rfl rfl ?_
    refine sp (v_pure rfl) rfl rfl rfl ?_
    refine sp (v_pure rfl) rfl rfl rfl ?_
    refine sp (v_len rfl rfl rfl rfl rfl trivial) rfl rfl rfl ?_
    refine sp (v_is true rfl rfl rfl rfl (decide_eq_true h1)) rfl rfl rfl ?_
    refine sp (v_pure rfl) rfl rfl rfl ?_
    refine sp (v_pure rfl) rfl rfl rfl ?_
    refine sp (v_index_str (b := c) rfl rfl rfl rfl rfl (by omega) hget) rfl rfl rfl ?_
    refine sp (v_pure rfl) rfl rfl rfl ?_
    refine sp (v_pure rfl) rfl rfl rfl ?_
    refine sq (v_pure rfl) (show _ = AV.bool (decide (1 < s.length) && s.head? == some 48) from congrArg AV.bool (hl1 (by omega)).symm) rfl rfl rfl ?_
    refine WL.nil ?_
    refine W.fits (env0 := [(0, .str s), (16, .bool (decide (1 < s.length) && s.head? == some 48))]) (objs0 := []) (by refine ⟨?_, ?_, rfl, Nat.le_of_ble_eq_true rfl⟩ <;> repeat (first | exact trivial | exact rfl | refine ⟨rfl, ?_⟩ | refine ⟨.inr ⟨rfl, ?_⟩, ?_⟩ | refine ⟨.inl rfl, ?_⟩)) ?_
    rotate_left 1
    refine W.seq (W.seq (W.region ?_))
    refine sp (v_pure rfl) rfl rfl rfl ?_
    refine sp (v_len rfl rfl rfl rfl rfl trivial) rfl rfl rfl ?_
    refine sp (v_is false rfl rfl rfl rfl (by simpa using h6)) rfl rfl rfl ?_
    refine sp (v_pure rfl) rfl rfl rfl ?_
    refine sp (v_pure rfl) rfl rfl rfl ?_
    refine sp (v_len rfl rfl rfl rfl rfl trivial) rfl rfl rfl ?_
    refine sp (v_is false rfl rfl rfl rfl (decide_eq_false h1)) rfl rfl rfl ?_
    refine sp (v_pure rfl) rfl rfl rfl ?_
    refine so rfl rfl rfl ?_
    refine so rfl rfl rfl ?_
    refine so rfl rfl rfl ?_
    refine sp (v_pure rfl) rfl rfl rfl ?_
    refine sq (v_pure rfl) (show _ = AV.bool (decide (1 < s.length) && s.head? == some 48) from congrArg AV.bool (by rw [show (decide (1 < s.length)) = false by simp; omega]; rfl)) rfl rfl rfl ?_
    refine WL.nil ?_
    refine W.fits (env0 := [(0, .str s), (16, .bool (decide (1 < s.length) && s.head? == some 48))]) (objs0 := []) (by refine ⟨?_, ?_, rfl, Nat.le_of_ble_eq_true rfl⟩ <;> repeat (first | exact trivial | exact rfl | refine ⟨rfl, ?_⟩ | refine ⟨.inr ⟨rfl, ?_⟩, ?_⟩ | refine ⟨.inl rfl, ?_⟩)) ?_
    all_goals
      refine W.cond rfl (fun hc => ?_) (fun hc => ?_)
      · skip
        refine W.seq (W.region ?_)
        refine sp (v_pure rfl) rfl rfl rfl ?_
        refine WL.nil ?_
        refine W.ret (fin rfl (.shut (.plain rfl) .nil) ?_)
        have : (decide (1 < s.length) && s.head? == some 48) = true := hc
        simp only [tupAV, numText, this, Bool.not_true, Bool.and_false]
      · have hlead : (decide (1 < s.length) && s.head? == some 48) = false := hc
        refine W.skip ?_
        refine W.seq (W.seq (W.region ?_))
        refine sp (v_pure rfl) rfl rfl rfl ?_
        refine WL.nil ?_
        refine W.block ?_
        refine W.while (fun m st => ∃ i : Nat, i ≤ s.length ∧ m = s.length - i ∧ (∀ x ∈ s.take i, isDig x = true) ∧ st = ⟨[(0, .str s), (3, .int .i64 i)], []⟩) s.length ⟨0, by omega, rfl, by simp, rfl⟩ (by refine ⟨?_, ?_, rfl, Nat.le_of_ble_eq_true rfl⟩ <;> repeat (first | exact trivial | exact rfl | refine ⟨rfl, ?_⟩ | refine ⟨.inr ⟨rfl, ?_⟩, ?_⟩ | refine ⟨.inl rfl, ?_⟩)) ?_
        rintro m _ ⟨i, hi, rfl, had, rfl⟩
        by_cases hlt : i < s.length
        · have hgi : s[i]? = some s[i] := List.getElem?_eq_getElem hlt
          have hmem : s[i] ∈ s := List.getElem_mem hlt
          refine W.seq (W.seq (W.region ?_))
          refine sp (v_pure rfl) rfl rfl rfl ?_
          refine sp (v_pure rfl) rfl rfl rfl ?_
          refine sp (v_len rfl rfl rfl rfl rfl trivial) rfl rfl rfl ?_
          refine sp (v_is true rfl rfl rfl rfl (decide_eq_true (show (i : Int) < s.length by omega))) rfl rfl rfl ?_
          refine WL.nil ?_
          refine W.cond_true rfl (W.skip ?_)
          refine W.seq (W.block ?_)
          by_cases h48 : (s[i].toNat : Int) < 48
          · have hnd : isDig s[i] = false := by rw [Bool.eq_false_iff, ne_eq, isDig_iff]; omega
            refine W.seq (W.region ?_)
            refine sp (v_pure rfl) rfl rfl rfl ?_
            refine sp (v_pure rfl) rfl rfl rfl ?_
            refine sp (v_index_str (b := s[i]) rfl rfl rfl rfl rfl (by omega) hgi) rfl rfl rfl ?_
            refine sp (v_is true rfl rfl rfl rfl (decide_eq_true h48)) rfl rfl rfl ?_
            refine sp (v_pure rfl) rfl rfl rfl ?_
            refine so rfl rfl rfl ?_
            refine so rfl rfl rfl ?_
            refine so rfl rfl rfl ?_
            refine so rfl rfl rfl ?_
            refine sp (v_pure rfl) rfl rfl rfl ?_
            refine WL.nil ?_
            refine W.cond_true rfl ?_
            refine W.seq (W.region ?_)
            refine sp (v_pure rfl) rfl rfl rfl ?_
            refine WL.nil ?_
            exact W.ret (fin rfl (.shut (.plain rfl) .nil) (congrArg AV.bool (numText_no hmem hnd).symm))
          · by_cases h57 : (s[i].toNat : Int) > 57
            · have hnd : isDig s[i] = false := by rw [Bool.eq_false_iff, ne_eq, isDig_iff]; omega
              refine W.seq (W.region ?_)
              refine sp (v_pure rfl) rfl rfl rfl ?_
              refine sp (v_pure rfl) rfl rfl rfl ?_
              refine sp (v_index_str (b := s[i]) rfl rfl rfl rfl rfl (by omega) hgi) rfl rfl rfl ?_
              refine sp (v_is false rfl rfl rfl rfl (decide_eq_false h48)) rfl rfl rfl ?_
              refine sp (v_pure rfl) rfl rfl rfl ?_
              refine sp (v_pure rfl) rfl rfl rfl ?_
              refine sp (v_pure rfl) rfl rfl rfl ?_
              refine sp (v_index_str (b := s[i]) rfl rfl rfl rfl rfl (by omega) hgi) rfl rfl rfl ?_
              refine sp (v_is true rfl rfl rfl rfl (decide_eq_true h57)) rfl rfl rfl ?_
              refine sp (v_pure rfl) rfl rfl rfl ?_
              refine WL.nil ?_
              refine W.cond_true rfl ?_
              refine W.seq (W.region ?_)
              refine sp (v_pure rfl) rfl rfl rfl ?_
              refine WL.nil ?_
              exact W.ret (fin rfl (.shut (.plain rfl) .nil) (congrArg AV.bool (numText_no hmem hnd).symm))
            · have hnd : isDig s[i] = true := by rw [isDig_iff]; omega
              refine W.seq (W.region ?_)
              refine sp (v_pure rfl) rfl rfl rfl ?_
              refine sp (v_pure rfl) rfl rfl rfl ?_
              refine sp (v_index_str (b := s[i]) rfl rfl rfl rfl rfl (by omega) hgi) rfl rfl rfl ?_
              refine sp (v_is false rfl rfl rfl rfl (decide_eq_false h48)) rfl rfl rfl ?_
              refine sp (v_pure rfl) rfl rfl rfl ?_
              refine sp (v_pure rfl) rfl rfl rfl ?_
              refine sp (v_pure rfl) rfl rfl rfl ?_
              refine sp (v_index_str (b := s[i]) rfl rfl rfl rfl rfl (by omega) hgi) rfl rfl rfl ?_
              refine sp (v_is false rfl rfl rfl rfl (decide_eq_false h57)) rfl rfl rfl ?_
              refine sp (v_pure rfl) rfl rfl rfl ?_
              refine WL.nil ?_
              refine W.cond_false rfl (W.skip ?_)
              refine W.region ?_
              refine sp (v_pure rfl) rfl rfl rfl ?_
              refine sq (v_i64 rfl rfl rfl rfl (by omega) (by omega)) (show _ = AV.int .i64 (i + 1 : Nat) from congrArg (AV.int .i64) (by omega)) rfl rfl rfl ?_
              refine sp (v_pure rfl) rfl rfl rfl ?_
              refine WL.nil ?_
              refine ⟨s.length - (i + 1), _, _, by omega, ⟨i + 1, by omega, rfl, ?_, rfl⟩, (by refine ⟨?_, ?_, rfl, Nat.le_of_ble_eq_true rfl⟩ <;> repeat (first | exact trivial | exact rfl | refine ⟨rfl, ?_⟩ | refine ⟨.inr ⟨rfl, ?_⟩, ?_⟩ | refine ⟨.inl rfl, ?_⟩))⟩
              intro x hx
              rw [List.take_succ_eq_append_getElem hlt] at hx
              rcases List.mem_append.1 hx with hx | hx
              · exact had x hx
              · rw [List.mem_singleton] at hx; subst hx; exact hnd
        · have hi' : i = s.length := by omega
          subst hi'
          have hall : s.all isDig = true := by rw [List.all_eq_true]; intro x hx; exact had x (by rw [List.take_length]; exact hx)
          have hne : (s == []) = false := by rw [hse]; rfl
          refine W.seq (W.seq (W.region ?_))
          refine sp (v_pure rfl) rfl rfl rfl ?_
          refine sp (v_pure rfl) rfl rfl rfl ?_
          refine sp (v_len rfl rfl rfl rfl rfl trivial) rfl rfl rfl ?_
          refine sp (v_is false rfl rfl rfl rfl (decide_eq_false (show ¬ ((s.length : Int) < s.length) by omega))) rfl rfl rfl ?_
          refine WL.nil ?_
          refine W.cond_false rfl (W.exit ?_)
          refine W.seq (W.region ?_)
          refine sp (v_pure rfl) rfl rfl rfl ?_
          refine WL.nil ?_
          refine W.ret (fin rfl (.shut (.plain rfl) .nil) ?_)
          simp only [tupAV, numText, hall, hlead, hne, Bool.not_false, Bool.and_self]

end Go.Proofs.YtnlikbgcnofjiaaDoor
