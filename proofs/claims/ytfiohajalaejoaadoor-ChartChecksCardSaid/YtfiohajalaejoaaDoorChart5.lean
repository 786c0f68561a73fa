/- chattelref14.Whole, chattelref19.Check, chattelref09.Make, chattellaw19.ChartChecks. -/
import Derived.Test.YtfiohajalaejoaaDoorRef1
import Derived.Test.YtfiohajalaejoaaDoorChart2
import Derived.Test.YtfiohajalaejoaaDoorLens16
set_option linter.unusedVariables false
set_option linter.unusedSimpArgs false
namespace Go.Proofs.YtfiohajalaejoaaDoor
open Go Go.Lens

def rL (s : List UInt8) : List Nat := if wE s = 0 then digs DB (decF (plainP s)) else []
def rB (s : List UInt8) : Bool := if wE s = 0 then signP s && !(digs DB (decF (plainP s)) == []) else false
def rWholeAV (s : List UInt8) : AV := .tup [rIntAV (rL s) (rB s), .int .i64 (wE s)]

theorem numText_zero {s : List UInt8} (h : numText s = true) (h0 : decF s = 0) : s = [48] := by
  rcases s with _ | ⟨c, _ | ⟨d, r⟩⟩
  · simp [numText] at h
  · have hc : isDig c = true := by simp [numText] at h; exact h
    have := (isDig_iff c).1 hc
    simp [decF] at h0
    have : c = 48 := UInt8.toNat_inj.1 (show c.toNat = 48 by omega)
    rw [this]
  · exfalso
    simp only [numText, Bool.and_eq_true, Bool.not_eq_true', List.all_eq_true] at h
    obtain ⟨⟨_, hd⟩, hl⟩ := h
    have hc := (isDig_iff c).1 (hd c (by simp))
    have h48 : c ≠ 48 := by intro e; subst e; simp at hl
    have hn : c.toNat ≠ 48 := fun e => h48 (UInt8.toNat_inj.1 e)
    have e : c :: d :: r = [c] ++ (d :: r) := rfl
    rw [e, decF_append] at h0
    have hp : 0 < 10 ^ (d :: r).length := Nat.pow_pos (by decide)
    have hz : decF [c] = 0 := by
      rcases Nat.eq_zero_or_pos (decF [c]) with h | h
      · exact h
      · have := Nat.mul_pos h hp; omega
    simp [decF] at hz
    omega
theorem digs_nil_iff (s : List UInt8) {B : Nat} (hB : 2 ≤ B) (h : numText s = true) : digs B (decF s) = [] ↔ s = [48] := by
  rw [digs_eq_nil hB]
  exact ⟨numText_zero h, fun e => by subst e; rfl⟩

theorem wE_long {s : List UInt8} (h : (plainP s).length > 4096) : wE s = 7 := by simp only [wE, if_pos h]
theorem wE_bad {s : List UInt8} (h : ¬ (plainP s).length > 4096) (h2 : numText (plainP s) = false) : wE s = 5 := by simp only [wE, if_neg h, if_pos h2]
theorem wE_nought {s : List UInt8} (h : ¬ (plainP s).length > 4096) (h2 : numText (plainP s) = true) (h3 : plainP s = [48]) (h4 : signP s = true) : wE s = 5 := by
  have hd : digs LB (decF (plainP s)) = [] := (digs_nil_iff _ (by decide) h2).2 h3
  simp only [wE, if_neg h, h2, h4, hd]; rfl
theorem wE_ok {s : List UInt8} (h : ¬ (plainP s).length > 4096) (h2 : numText (plainP s) = true) (h3 : plainP s = [48] → signP s = false) : wE s = 0 := by
  have : (signP s && (digs LB (decF (plainP s)) == [])) = false := by
    by_cases hp : plainP s = [48]
    · rw [h3 hp, Bool.false_and]
    · have : digs LB (decF (plainP s)) ≠ [] := fun e => hp ((digs_nil_iff _ (by decide) h2).1 e)
      simp [this]
  simp only [wE, if_neg h, h2, this]
  simp
theorem rWhole_err {s : List UInt8} {e : Int} (h : wE s = e) (he : e ≠ 0) : rWholeAV s = .tup [rIntAV [] false, .int .i64 e] := by
  subst h; simp only [rWholeAV, rL, rB, if_neg he]

/-- the text without its sign, as the two functions find it -/
theorem numText_digs {s : List UInt8} (h : numText s = true) : ∀ c ∈ s, isDig c = true := by
  simp only [numText, Bool.and_eq_true, List.all_eq_true] at h
  exact h.1.2

theorem rRead4_spec (s : List UInt8) (hs : s.length ≤ 1000000000) (h : numText (plainP s) = true) : Does Tryd.prog 56 [.str s] (rIntAV (digs DB (decF (plainP s))) (signP s && !(digs DB (decF (plainP s)) == []))) := by
  rcases s with _ | ⟨c, r⟩
  · rw [plain_nil.1] at h; simp [numText] at h
  · by_cases hc : c = 45
    · subst hc
      obtain ⟨e1, e2⟩ := plain_neg r
      rw [e1] at h
      have hl : ((45 : UInt8) :: r).length = r.length + 1 := rfl
      rw [e1, e2, Bool.true_and]
      exact rRead4_neg r (by omega) (numText_digs h)
    · obtain ⟨e1, e2⟩ := plain_pos c r hc
      rw [e1] at h
      rw [e1, e2, Bool.false_and]
      exact rRead4_pos c r hc hs (numText_digs h)

theorem plainP_le (s : List UInt8) : (plainP s).length ≤ s.length := by
  simp only [plainP]; split
  · simp
  · exact Nat.le_refl _
theorem nought_len {s : List UInt8} (h : plainP s = [48]) : (decide ((s.length : Int) > 1)) = signP s := by
  rcases s with _ | ⟨c, r⟩
  · simp [plainP, hasP] at h
  · by_cases hc : c = 45
    · subst hc
      obtain ⟨e1, e2⟩ := plain_neg r
      rw [e1] at h; subst h; rw [e2]; rfl
    · obtain ⟨e1, e2⟩ := plain_pos c r hc
      rw [e1] at h; rw [h] at e2 ⊢; rw [e2]; rfl

theorem rWhole_spec (s : List UInt8) (hs : s.length ≤ 1000000000) : Does Tryd.prog 31 [.str s] (rWholeAV s) := by
  have hp := plainP_le s
  have ht := rText_spec (plainP s) (by omega)
  refine does tab_ok Tryd.func31 rfl rfl rfl rfl rfl fun w0 H0 hk hj => ?_
  refine W.seq (W.region ?_)
  refine sn (a_alloc rfl rfl rfl rfl) (rfl : _ = AV.ptr 0 0 0) (rfl : _ = [_]) rfl rfl rfl ?_
  refine sp (v_pure rfl) rfl rfl rfl ?_
  refine WL.nil ?_
  refine W.seq (W.region ?_)
  refine sc (rFrom_spec 0 (by decide) (by decide)) rfl rfl rfl rfl (by first | rfl | simp [plainL, AV.plain]) (by first | rfl | simp [plainL, AV.plain]) rfl rfl rfl ?_
  refine sn (a_alloc rfl rfl rfl rfl) (rfl : _ = AV.ptr 1 0 0) (rfl : _ = [_, _]) rfl rfl rfl ?_
  refine ss (a_storeA rfl rfl rfl rfl rfl (fun h => by cases h) rfl rfl rfl (Nat.le_of_ble_eq_true rfl)) (rfl : _ = [AObj.cells [.nils, .bool false] 0 1 false none, AObj.cells [.row (i64AV (digs DB (Int.natAbs 0))) (digs DB (Int.natAbs 0)).length, .bool false] 0 1 false none]) rfl rfl ?_
  refine WL.nil ?_
  have hz : digs DB (Int.natAbs 0) = [] := digs_zero DB
  rw [hz]
  obtain ⟨p, hpp⟩ : ∃ p, p = plainP s := ⟨_, rfl⟩
  rw [← hpp] at hp ht
  have h3 : (s = [] ∧ s = p) ∨ (s[0]? = some 45 ∧ s.drop 1 = p ∧ 0 < s.length) ∨ (∃ c, s[0]? = some c ∧ ((c.toNat : Int) == 45) = false ∧ s = p ∧ 0 < s.length) := by
    rcases s with _ | ⟨c, r⟩
    · exact .inl ⟨rfl, by rw [hpp, plain_nil.1]⟩
    · by_cases hc : c = 45
      · subst hc
        exact .inr (.inl ⟨rfl, by rw [hpp, (plain_neg r).1]; rfl, by simp⟩)
      · refine .inr (.inr ⟨c, rfl, ?_, by rw [hpp, (plain_pos c r hc).1], by simp⟩)
        rw [beq_eq_false_iff_ne]; intro h; exact hc (UInt8.toNat_inj.1 (by show c.toNat = 45; omega))
  rcases h3 with ⟨h3, h4⟩ | ⟨h3, h4, h5⟩ | ⟨c, h3, h4, h6, h5⟩
  refine W.seq (W.region ?_)
  refine sp (v_pure rfl) rfl rfl rfl ?_
  refine sq (v_pure rfl) (show _ = AV.str p from congrArg AV.str h4) rfl rfl rfl ?_
  refine WL.nil ?_
  refine W.seq (W.seq (W.region ?_))
  refine sp (v_pure rfl) rfl rfl rfl ?_
  refine sp (v_len rfl rfl rfl rfl rfl trivial) rfl rfl rfl ?_
  refine sp (v_is false rfl rfl rfl rfl (decide_eq_false (show ¬ ((s.length : Int) > 0) by rw [h3]; decide))) rfl rfl rfl ?_
  refine sp (v_pure rfl) rfl rfl rfl ?_
  refine so rfl rfl rfl ?_
  refine so rfl rfl rfl ?_
  refine so rfl rfl rfl ?_
  refine sp (v_pure rfl) rfl rfl rfl ?_
  refine WL.nil ?_
  refine W.cond_false rfl (W.skip ?_)
  refine W.fits (env0 := [(0, .str s), (3, .int .i64 0), (4, .ptr 1 0 0), (2, .ptr 0 0 0), (5, .str p)]) (objs0 := [.cells [.nils, .bool false] 0 1 false none, .cells [.row (i64AV []) 0, .bool false] 0 1 false none]) (by refine ⟨?_, ?_, rfl, Nat.le_of_ble_eq_true rfl⟩ <;> repeat (first | exact trivial | exact rfl | refine ⟨rfl, ?_⟩ | refine ⟨.inr ⟨rfl, ?_⟩, ?_⟩ | refine ⟨.inl rfl, ?_⟩)) ?_
  rotate_left 1
  refine W.seq (W.region ?_)
  refine sp (v_pure rfl) rfl rfl rfl ?_
  refine sp (v_pure rfl) rfl rfl rfl ?_
  refine WL.nil ?_
  refine W.seq (W.seq (W.region ?_))
  refine sp (v_pure rfl) rfl rfl rfl ?_
  refine sp (v_len rfl rfl rfl rfl rfl trivial) rfl rfl rfl ?_
  refine sp (v_is true rfl rfl rfl rfl (decide_eq_true (show ((s.length : Int) > 0) by omega))) rfl rfl rfl ?_
  refine sp (v_pure rfl) rfl rfl rfl ?_
  refine sp (v_pure rfl) rfl rfl rfl ?_
  refine sp (v_index_str (b := 45) rfl rfl rfl rfl rfl (by omega) h3) rfl rfl rfl ?_
  refine sp (v_pure rfl) rfl rfl rfl ?_
  refine sp (v_pure rfl) rfl rfl rfl ?_
  refine WL.nil ?_
  refine W.cond_true rfl ?_
  refine W.region ?_
  refine sp (v_pure rfl) rfl rfl rfl ?_
  refine sq (v_slice_str rfl rfl rfl rfl ⟨_, _, rfl, by omega, rfl⟩ rfl (by omega) (by omega)) (show _ = AV.str p from congrArg AV.str (by rw [← h4]; simp [List.take_of_length_le])) rfl rfl rfl ?_
  refine sp (v_pure rfl) rfl rfl rfl ?_
  refine WL.nil ?_
  refine W.fits (env0 := [(0, .str s), (3, .int .i64 0), (4, .ptr 1 0 0), (2, .ptr 0 0 0), (5, .str p)]) (objs0 := [.cells [.nils, .bool false] 0 1 false none, .cells [.row (i64AV []) 0, .bool false] 0 1 false none]) (by refine ⟨?_, ?_, rfl, Nat.le_of_ble_eq_true rfl⟩ <;> repeat (first | exact trivial | exact rfl | refine ⟨rfl, ?_⟩ | refine ⟨.inr ⟨rfl, ?_⟩, ?_⟩ | refine ⟨.inl rfl, ?_⟩)) ?_
  rotate_left 1
  refine W.seq (W.region ?_)
  refine sp (v_pure rfl) rfl rfl rfl ?_
  refine sq (v_pure rfl) (show _ = AV.str p from congrArg AV.str h6) rfl rfl rfl ?_
  refine WL.nil ?_
  refine W.seq (W.seq (W.region ?_))
  refine sp (v_pure rfl) rfl rfl rfl ?_
  refine sp (v_len rfl rfl rfl rfl rfl trivial) rfl rfl rfl ?_
  refine sp (v_is true rfl rfl rfl rfl (decide_eq_true (show ((s.length : Int) > 0) by omega))) rfl rfl rfl ?_
  refine sp (v_pure rfl) rfl rfl rfl ?_
  refine sp (v_pure rfl) rfl rfl rfl ?_
  refine sp (v_index_str (b := c) rfl rfl rfl rfl rfl (by omega) h3) rfl rfl rfl ?_
  refine sq (v_pure rfl) (show _ = AV.bool false from congrArg AV.bool h4) rfl rfl rfl ?_
  refine sp (v_pure rfl) rfl rfl rfl ?_
  refine WL.nil ?_
  refine W.cond_false rfl (W.skip ?_)
  refine W.fits (env0 := [(0, .str s), (3, .int .i64 0), (4, .ptr 1 0 0), (2, .ptr 0 0 0), (5, .str p)]) (objs0 := [.cells [.nils, .bool false] 0 1 false none, .cells [.row (i64AV []) 0, .bool false] 0 1 false none]) (by refine ⟨?_, ?_, rfl, Nat.le_of_ble_eq_true rfl⟩ <;> repeat (first | exact trivial | exact rfl | refine ⟨rfl, ?_⟩ | refine ⟨.inr ⟨rfl, ?_⟩, ?_⟩ | refine ⟨.inl rfl, ?_⟩)) ?_
  all_goals
    by_cases hlong : p.length > 4096
    · have he := wE_long (s := s) (hpp ▸ hlong)
      refine W.seq (W.seq (W.region ?_))
      refine sp (v_pure rfl) rfl rfl rfl ?_
      refine sp (v_len rfl rfl rfl rfl rfl trivial) rfl rfl rfl ?_
      refine sp (v_is true rfl rfl rfl rfl (decide_eq_true (show (p.length : Int) > 4096 by omega))) rfl rfl rfl ?_
      refine WL.nil ?_
      refine W.cond_true rfl ?_
      refine W.seq (W.region ?_)
      first | refine sq (v_load rfl rfl rfl rfl rfl) (rfl : _ = AV.agg [_, _]) rfl rfl rfl ?_ | refine sq (v_load_radr rfl rfl rfl rfl) (rfl : _ = AV.agg [_, _]) rfl rfl rfl ?_
      refine ss (a_storeA rfl rfl rfl rfl rfl (fun h => by cases h) rfl rfl rfl (Nat.le_of_ble_eq_true rfl)) (rfl : _ = [_, _]) rfl rfl ?_
      refine sp (v_pure rfl) rfl rfl rfl ?_
      refine WL.nil ?_
      rw [rWhole_err he (by decide)]
      exact W.ret (fin (cs := [rIntAV [] false, .int .i64 7]) rfl (.shut (.plain (rIntAV_plain _ _)) (.shut (.plain rfl) .nil)) rfl)
    · skip
      refine W.seq (W.seq (W.region ?_))
      refine sp (v_pure rfl) rfl rfl rfl ?_
      refine sp (v_len rfl rfl rfl rfl rfl trivial) rfl rfl rfl ?_
      refine sp (v_is false rfl rfl rfl rfl (decide_eq_false (show ¬ ((p.length : Int) > 4096) by omega))) rfl rfl rfl ?_
      refine WL.nil ?_
      refine W.cond_false rfl (W.skip ?_)
      by_cases hn : numText p = true
      · rw [hn] at ht
        by_cases hz8 : p = [48]
        · have hl8 := nought_len (hpp ▸ hz8)
          by_cases hs8 : signP s = true
          · have he := wE_nought (s := s) (hpp ▸ hlong) (hpp ▸ hn) (hpp ▸ hz8) hs8
            refine W.seq (W.region ?_)
            refine sp (v_pure rfl) rfl rfl rfl ?_
            refine sc (ht) rfl rfl rfl rfl (by first | rfl | simp [plainL, AV.plain]) (by first | rfl | simp [plainL, AV.plain]) rfl rfl rfl ?_
            refine sp (v_pure rfl) rfl rfl rfl ?_
            refine WL.nil ?_
            refine W.seq (W.seq (W.region ?_))
            refine sp (v_pure rfl) rfl rfl rfl ?_
            refine sp (v_pure rfl) rfl rfl rfl ?_
            refine sp (v_pure rfl) rfl rfl rfl ?_
            refine sp (v_pure rfl) rfl rfl rfl ?_
            refine sp (v_is true rfl rfl rfl rfl (by simpa using hz8)) rfl rfl rfl ?_
            refine sp (v_pure rfl) rfl rfl rfl ?_
            refine sp (v_pure rfl) rfl rfl rfl ?_
            refine sp (v_len rfl rfl rfl rfl rfl trivial) rfl rfl rfl ?_
            refine sq (v_pure rfl) (show _ = AV.bool true from congrArg AV.bool (by rw [hl8, hs8])) rfl rfl rfl ?_
            refine sp (v_pure rfl) rfl rfl rfl ?_
            refine sp (v_pure rfl) rfl rfl rfl ?_
            refine WL.nil ?_
            refine W.cond_true rfl ?_
            refine W.seq (W.region ?_)
            first | refine sq (v_load rfl rfl rfl rfl rfl) (rfl : _ = AV.agg [_, _]) rfl rfl rfl ?_ | refine sq (v_load_radr rfl rfl rfl rfl) (rfl : _ = AV.agg [_, _]) rfl rfl rfl ?_
            refine ss (a_storeA rfl rfl rfl rfl rfl (fun h => by cases h) rfl rfl rfl (Nat.le_of_ble_eq_true rfl)) (rfl : _ = [_, _]) rfl rfl ?_
            refine sp (v_pure rfl) rfl rfl rfl ?_
            refine WL.nil ?_
            rw [rWhole_err he (by decide)]
            exact W.ret (fin (cs := [rIntAV [] false, .int .i64 5]) rfl (.shut (.plain (rIntAV_plain _ _)) (.shut (.plain rfl) .nil)) rfl)
          · have hs8' : signP s = false := by simpa using hs8
            have he := wE_ok (s := s) (hpp ▸ hlong) (hpp ▸ hn) fun _ => hs8'
            have hr := rRead4_spec s hs (hpp ▸ hn)
            refine W.seq (W.region ?_)
            refine sp (v_pure rfl) rfl rfl rfl ?_
            refine sc (ht) rfl rfl rfl rfl (by first | rfl | simp [plainL, AV.plain]) (by first | rfl | simp [plainL, AV.plain]) rfl rfl rfl ?_
            refine sp (v_pure rfl) rfl rfl rfl ?_
            refine WL.nil ?_
            refine W.seq (W.seq (W.region ?_))
            refine sp (v_pure rfl) rfl rfl rfl ?_
            refine sp (v_pure rfl) rfl rfl rfl ?_
            refine sp (v_pure rfl) rfl rfl rfl ?_
            refine sp (v_pure rfl) rfl rfl rfl ?_
            refine sp (v_is true rfl rfl rfl rfl (by simpa using hz8)) rfl rfl rfl ?_
            refine sp (v_pure rfl) rfl rfl rfl ?_
            refine sp (v_pure rfl) rfl rfl rfl ?_
            refine sp (v_len rfl rfl rfl rfl rfl trivial) rfl rfl rfl ?_
            refine sq (v_pure rfl) (show _ = AV.bool false from congrArg AV.bool (by rw [hl8, hs8'])) rfl rfl rfl ?_
            refine sp (v_pure rfl) rfl rfl rfl ?_
            refine sp (v_pure rfl) rfl rfl rfl ?_
            refine WL.nil ?_
            refine W.cond_false rfl (W.skip ?_)
            refine W.seq (W.region ?_)
            refine sp (v_pure rfl) rfl rfl rfl ?_
            refine sc (hr) rfl rfl rfl rfl (by first | rfl | simp [plainL, AV.plain]) (by first | rfl | simp [plainL, AV.plain]) rfl rfl rfl ?_
            refine ss (a_storeA rfl rfl rfl rfl rfl (fun h => by cases h) rfl rfl rfl (Nat.le_of_ble_eq_true rfl)) (rfl : _ = [_, _]) rfl rfl ?_
            refine sp (v_pure rfl) rfl rfl rfl ?_
            refine WL.nil ?_
            refine W.ret (fin (cs := [rIntAV (digs DB (decF (plainP s))) (signP s && !(digs DB (decF (plainP s)) == [])), .int .i64 0]) rfl (.shut (.plain (rIntAV_plain _ _)) (.shut (.plain rfl) .nil)) ?_)
            simp only [tupAV, rWholeAV, rL, rB, he, if_true]
        · have he := wE_ok (s := s) (hpp ▸ hlong) (hpp ▸ hn) fun h => absurd (hpp.trans h) hz8
          have hr := rRead4_spec s hs (hpp ▸ hn)
          refine W.seq (W.region ?_)
          refine sp (v_pure rfl) rfl rfl rfl ?_
          refine sc (ht) rfl rfl rfl rfl (by first | rfl | simp [plainL, AV.plain]) (by first | rfl | simp [plainL, AV.plain]) rfl rfl rfl ?_
          refine sp (v_pure rfl) rfl rfl rfl ?_
          refine WL.nil ?_
          refine W.seq (W.seq (W.region ?_))
          refine sp (v_pure rfl) rfl rfl rfl ?_
          refine sp (v_pure rfl) rfl rfl rfl ?_
          refine sp (v_pure rfl) rfl rfl rfl ?_
          refine sp (v_pure rfl) rfl rfl rfl ?_
          refine sp (v_is false rfl rfl rfl rfl (by simpa using hz8)) rfl rfl rfl ?_
          refine sp (v_pure rfl) rfl rfl rfl ?_
          refine so rfl rfl rfl ?_
          refine so rfl rfl rfl ?_
          refine so rfl rfl rfl ?_
          refine sp (v_pure rfl) rfl rfl rfl ?_
          refine sp (v_pure rfl) rfl rfl rfl ?_
          refine WL.nil ?_
          refine W.cond_false rfl (W.skip ?_)
          refine W.seq (W.region ?_)
          refine sp (v_pure rfl) rfl rfl rfl ?_
          refine sc (hr) rfl rfl rfl rfl (by first | rfl | simp [plainL, AV.plain]) (by first | rfl | simp [plainL, AV.plain]) rfl rfl rfl ?_
          refine ss (a_storeA rfl rfl rfl rfl rfl (fun h => by cases h) rfl rfl rfl (Nat.le_of_ble_eq_true rfl)) (rfl : _ = [_, _]) rfl rfl ?_
          refine sp (v_pure rfl) rfl rfl rfl ?_
          refine WL.nil ?_
          refine W.ret (fin (cs := [rIntAV (digs DB (decF (plainP s))) (signP s && !(digs DB (decF (plainP s)) == [])), .int .i64 0]) rfl (.shut (.plain (rIntAV_plain _ _)) (.shut (.plain rfl) .nil)) ?_)
          simp only [tupAV, rWholeAV, rL, rB, he, if_true]
      · have hn' : numText p = false := by simpa using hn
        rw [hn'] at ht
        have he := wE_bad (s := s) (hpp ▸ hlong) (hpp ▸ hn')
        refine W.seq (W.region ?_)
        refine sp (v_pure rfl) rfl rfl rfl ?_
        refine sc (ht) rfl rfl rfl rfl (by first | rfl | simp [plainL, AV.plain]) (by first | rfl | simp [plainL, AV.plain]) rfl rfl rfl ?_
        refine sp (v_pure rfl) rfl rfl rfl ?_
        refine WL.nil ?_
        refine W.seq (W.seq (W.region ?_))
        refine sp (v_pure rfl) rfl rfl rfl ?_
        refine sp (v_pure rfl) rfl rfl rfl ?_
        refine sp (v_pure rfl) rfl rfl rfl ?_
        refine so rfl rfl rfl ?_
        refine so rfl rfl rfl ?_
        refine so rfl rfl rfl ?_
        refine so rfl rfl rfl ?_
        refine so rfl rfl rfl ?_
        refine so rfl rfl rfl ?_
        refine so rfl rfl rfl ?_
        refine sp (v_pure rfl) rfl rfl rfl ?_
        refine WL.nil ?_
        refine W.cond_true rfl ?_
        refine W.seq (W.region ?_)
        first | refine sq (v_load rfl rfl rfl rfl rfl) (rfl : _ = AV.agg [_, _]) rfl rfl rfl ?_ | refine sq (v_load_radr rfl rfl rfl rfl) (rfl : _ = AV.agg [_, _]) rfl rfl rfl ?_
        refine ss (a_storeA rfl rfl rfl rfl rfl (fun h => by cases h) rfl rfl rfl (Nat.le_of_ble_eq_true rfl)) (rfl : _ = [_, _]) rfl rfl ?_
        refine sp (v_pure rfl) rfl rfl rfl ?_
        refine WL.nil ?_
        rw [rWhole_err he (by decide)]
        exact W.ret (fin (cs := [rIntAV [] false, .int .i64 5]) rfl (.shut (.plain (rIntAV_plain _ _)) (.shut (.plain rfl) .nil)) rfl)

end Go.Proofs.YtfiohajalaejoaaDoor
