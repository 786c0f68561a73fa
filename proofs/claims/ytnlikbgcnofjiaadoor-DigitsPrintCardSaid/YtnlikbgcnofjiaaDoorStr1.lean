/- strings: Trim of plain signs. -/
import Derived.Test.YtnlikbgcnofjiaaDoorStr0
set_option linter.unusedVariables false
set_option linter.unusedSimpArgs false
namespace Go.Proofs.YtnlikbgcnofjiaaDoor
open Go Go.Lens

def boolsAV (l : List Bool) : List AV := l.map AV.bool
theorem boolsAV_plain (l : List Bool) : plainL (boolsAV l) = true := by
  induction l with
  | nil => rfl
  | cons x l ih => simp only [boolsAV, List.map_cons, plainL, AV.plain, Bool.true_and]; exact ih
theorem boolsAV_noRow (l : List Bool) : noRowL (boolsAV l) = true := by
  induction l with
  | nil => rfl
  | cons x l ih => simp only [boolsAV, List.map_cons, noRowL, AV.noRow, Bool.true_and]; exact ih
theorem boolsAV_in (k : Nat) (l : List Bool) : scopedL k (boolsAV l) = true := by
  induction l with
  | nil => rfl
  | cons x l ih => simp only [boolsAV, List.map_cons, scopedL, AV.inside, Bool.true_and]; exact ih
/-- the table of a set of signs -/
def tbl (l : List UInt8) : List Bool := (List.range 256).map fun k => l.any fun c => c.toNat == k
theorem tbl_length (l : List UInt8) : (tbl l).length = 256 := by simp [tbl]
theorem tbl_get (l : List UInt8) (c : UInt8) : (tbl l)[c.toNat]? = some (l.contains c) := by
  have := c.toNat_lt
  simp only [tbl, List.getElem?_map, List.getElem?_range (show c.toNat < 256 by omega), Option.map_some, Option.some.injEq]
  rw [Bool.eq_iff_iff]
  simp only [List.any_eq_true, List.contains_iff_mem, beq_iff_eq]
  constructor
  · rintro ⟨x, hx, h⟩
    have : x = c := UInt8.toNat_inj.1 h
    exact this ▸ hx
  · intro h; exact ⟨c, h, rfl⟩

def tblO (l : List UInt8) : AObj := .cells (boolsAV (tbl l)) 0 1 false none
theorem tblO_plain (l : List UInt8) : ∀ ob, ob ∈ [tblO l] → match ob with | .cells ds _ _ false _ => plainL ds = true | _ => True := by
  intro ob hob
  rw [List.mem_singleton] at hob
  subst hob
  exact boolsAV_plain _

theorem contains_spec (l : List UInt8) (c : UInt8) : Go.Lens.Spec Tryd.prog 113 [.ptr 0 0 0, .int .u8 c.toNat] [tblO l] (fun r os => r = .bool (l.contains c) ∧ os = [tblO l]) := by
  have hc := c.toNat_lt
  refine doesR tab_ok Tryd.func113 rfl rfl rfl rfl rfl rfl fun w0 H0 hk hj => ?_
  --@ n 1
  refine W.seq (W.region ?_)
  refine sp (v_pure rfl) rfl rfl rfl ?_
  refine WL.nil ?_
  refine W.seq (W.region ?_)
  refine sp (v_pure rfl) rfl rfl rfl ?_
  refine sp (v_pure rfl) rfl rfl rfl ?_
  refine sp (v_nilCheck rfl rfl rfl) rfl rfl rfl ?_
  refine sp (v_indexAddr_arr rfl rfl rfl rfl rfl rfl rfl (by omega) (by omega)) rfl rfl rfl ?_
  refine sp (v_load rfl rfl rfl rfl (show (boolsAV (tbl l))[0 + (c.toNat : Int).toNat * 1]? = some (.bool (l.contains c)) from by simp [boolsAV, tbl_get])) rfl rfl rfl ?_
  refine sp (v_pure rfl) rfl rfl rfl ?_
  refine WL.nil ?_
  exact W.ret (finR rfl (.shut (.plain rfl) .nil) rfl (tblO_plain l) rfl)

theorem trimLeftA_spec (l s : List UInt8) : Go.Lens.Spec Tryd.prog 90 [.str s, .ptr 0 0 0] [tblO l] (fun r os => r = .str (s.dropWhile l.contains) ∧ os = [tblO l]) := by
  refine doesR tab_ok Tryd.func90 rfl rfl rfl rfl rfl rfl fun w0 H0 hk hj => ?_
  refine W.seq (W.region ?_)
  refine sp (v_pure rfl) rfl rfl rfl ?_
  refine WL.nil ?_
  refine W.seq (W.block ?_)
  refine W.while (fun m st => ∃ s' : List UInt8, m = s'.length ∧ s'.length ≤ s.length ∧ s'.dropWhile l.contains = s.dropWhile l.contains ∧ st = ⟨[(0, .str s'), (1, .ptr 0 0 0)], [tblO l]⟩) s.length ⟨s, rfl, Nat.le_refl _, rfl, rfl⟩ ?_ ?_
  · exact ⟨⟨rfl, rfl, trivial⟩, ⟨.inr ⟨rfl, boolsAV_in _ _⟩, trivial⟩, rfl, Nat.le_of_ble_eq_true rfl⟩
  rintro m _ ⟨s', rfl, hsl, hd, rfl⟩
  cases s' with
  | nil =>
    refine W.seq (W.seq (W.region ?_))
    refine sp (v_pure rfl) rfl rfl rfl ?_
    refine sp (v_len rfl rfl rfl rfl rfl trivial) rfl rfl rfl ?_
    refine sp (v_is false rfl rfl rfl rfl (decide_eq_false (show ¬ ((([] : List UInt8).length : Nat) : Int) > 0 by simp))) rfl rfl rfl ?_
    refine WL.nil ?_
    refine W.cond_false rfl (W.exit ?_)
    refine W.seq (W.region ?_)
    refine sp (v_pure rfl) rfl rfl rfl ?_
    refine sp (v_pure rfl) rfl rfl rfl ?_
    refine WL.nil ?_
    exact W.ret (finR rfl (.shut (.plain rfl) .nil) rfl (tblO_plain l) (congrArg AV.str hd))
  | cons c s' =>
    have hl1 : (c :: s').length = s'.length + 1 := rfl
    refine W.seq (W.seq (W.region ?_))
    refine sp (v_pure rfl) rfl rfl rfl ?_
    refine sp (v_len rfl rfl rfl rfl rfl trivial) rfl rfl rfl ?_
    refine sp (v_is true rfl rfl rfl rfl (decide_eq_true (show (((c :: s').length : Nat) : Int) > 0 by simp))) rfl rfl rfl ?_
    refine WL.nil ?_
    refine W.cond_true rfl (W.skip ?_)
    refine W.block ?_
    refine W.seq (W.seq (W.region ?_))
    refine sp (v_pure rfl) rfl rfl rfl ?_
    refine sp (v_pure rfl) rfl rfl rfl ?_
    refine sp (v_index_str (b := c) rfl rfl rfl rfl rfl (by omega) rfl) rfl rfl rfl ?_
    refine srp (contains_spec l c) rfl rfl rfl rfl rfl (.refP (i := 0) (sz := 256) rfl (by simp [boolsAV, tbl_length]) (fun _ => by rw [List.drop_zero, List.take_of_length_le (by simp [boolsAV, tbl_length])]; exact boolsAV_plain _) (.plain rfl .nil)) rfl (by rw [List.drop_zero, List.take_of_length_le (by simp [boolsAV, tbl_length])]) rfl rfl (boolsAV_noRow _) (boolsAV_plain _) rfl rfl rfl ?_
    refine sp (v_pure rfl) rfl rfl rfl ?_
    refine WL.nil ?_
    refine W.cond rfl (fun hc => ?_) (fun hc => ?_)
    · have hc' : l.contains c = false := by simpa using hc
      refine W.exit ?_
      refine W.seq (W.region ?_)
      refine sp (v_pure rfl) rfl rfl rfl ?_
      refine sp (v_pure rfl) rfl rfl rfl ?_
      refine WL.nil ?_
      refine W.ret (finR rfl (.shut (.plain rfl) .nil) rfl (tblO_plain l) (congrArg AV.str ?_))
      rw [← hd, List.dropWhile_cons, if_neg (by rw [hc']; simp)]
    · have hc' : l.contains c = true := by simpa using hc
      refine W.skip ?_
      refine W.region ?_
      refine sp (v_pure rfl) rfl rfl rfl ?_
      refine sq (v_slice_str rfl rfl rfl rfl ⟨_, _, rfl, by omega, rfl⟩ rfl (by omega) (by omega)) (show _ = AV.str s' from by simp) rfl rfl rfl ?_
      refine sp (v_pure rfl) rfl rfl rfl ?_
      refine WL.nil ?_
      refine ⟨s'.length, _, _, by simp, ⟨s', rfl, by simp only [List.length_cons] at hsl; omega, by rw [← hd, List.dropWhile_cons, if_pos hc'], rfl⟩, ⟨⟨rfl, rfl, trivial⟩, ⟨.inr ⟨rfl, boolsAV_in _ _⟩, trivial⟩, rfl, Nat.le_of_ble_eq_true rfl⟩⟩

/-- the same from the right -/
def dropR (p : UInt8 → Bool) (s : List UInt8) : List UInt8 := (s.reverse.dropWhile p).reverse
theorem dropR_snoc {p : UInt8 → Bool} {s : List UInt8} {c : UInt8} : dropR p (s ++ [c]) = if p c then dropR p s else s ++ [c] := by
  simp only [dropR, List.reverse_append, List.reverse_cons, List.reverse_nil, List.nil_append, List.singleton_append, List.dropWhile_cons]
  split <;> simp

theorem trimRightA_spec (l s : List UInt8) (hs : s.length ≤ 9223372036854775807) : Go.Lens.Spec Tryd.prog 91 [.str s, .ptr 0 0 0] [tblO l] (fun r os => r = .str (dropR l.contains s) ∧ os = [tblO l]) := by
  refine doesR tab_ok Tryd.func91 rfl rfl rfl rfl rfl rfl fun w0 H0 hk hj => ?_
  refine W.seq (W.region ?_)
  refine sp (v_pure rfl) rfl rfl rfl ?_
  refine WL.nil ?_
  refine W.seq (W.block ?_)
  refine W.while (fun m st => ∃ s' : List UInt8, m = s'.length ∧ s'.length ≤ s.length ∧ dropR l.contains s' = dropR l.contains s ∧ st = ⟨[(0, .str s'), (1, .ptr 0 0 0)], [tblO l]⟩) s.length ⟨s, rfl, Nat.le_refl _, rfl, rfl⟩ ?_ ?_
  · exact ⟨⟨rfl, rfl, trivial⟩, ⟨.inr ⟨rfl, boolsAV_in _ _⟩, trivial⟩, rfl, Nat.le_of_ble_eq_true rfl⟩
  rintro m _ ⟨s', rfl, hsl, hd, rfl⟩
  rcases List.eq_nil_or_concat s' with rfl | ⟨s', c, rfl⟩
  · skip
    refine W.seq (W.seq (W.region ?_))
    refine sp (v_pure rfl) rfl rfl rfl ?_
    refine sp (v_len rfl rfl rfl rfl rfl trivial) rfl rfl rfl ?_
    refine sp (v_is false rfl rfl rfl rfl (decide_eq_false (show ¬ ((([] : List UInt8).length : Nat) : Int) > 0 by simp))) rfl rfl rfl ?_
    refine WL.nil ?_
    refine W.cond_false rfl (W.exit ?_)
    refine W.seq (W.region ?_)
    refine sp (v_pure rfl) rfl rfl rfl ?_
    refine sp (v_pure rfl) rfl rfl rfl ?_
    refine WL.nil ?_
    exact W.ret (finR rfl (.shut (.plain rfl) .nil) rfl (tblO_plain l) (congrArg AV.str hd))
  · rw [List.concat_eq_append] at hsl hd ⊢
    have hle : (s' ++ [c]).length = s'.length + 1 := by simp
    refine W.seq (W.seq (W.region ?_))
    refine sp (v_pure rfl) rfl rfl rfl ?_
    refine sp (v_len rfl rfl rfl rfl rfl trivial) rfl rfl rfl ?_
    refine sp (v_is true rfl rfl rfl rfl (decide_eq_true (show (((s' ++ [c]).length : Nat) : Int) > 0 by omega))) rfl rfl rfl ?_
    refine WL.nil ?_
    refine W.cond_true rfl (W.skip ?_)
    refine W.block ?_
    refine W.seq (W.seq (W.region ?_))
    refine sp (v_pure rfl) rfl rfl rfl ?_
    refine sp (v_pure rfl) rfl rfl rfl ?_
    refine sp (v_pure rfl) rfl rfl rfl ?_
    refine sp (v_len rfl rfl rfl rfl rfl trivial) rfl rfl rfl ?_
    refine sp (v_i64 rfl rfl rfl rfl (by omega) (by omega)) rfl rfl rfl ?_
    refine sp (v_index_str (b := c) rfl rfl rfl rfl rfl (by omega) (by rw [show (((s' ++ [c]).length : Nat) - 1 : Int).toNat = s'.length by omega]; simp)) rfl rfl rfl ?_
    refine srp (contains_spec l c) rfl rfl rfl rfl rfl (.refP (i := 0) (sz := 256) rfl (by simp [boolsAV, tbl_length]) (fun _ => by rw [List.drop_zero, List.take_of_length_le (by simp [boolsAV, tbl_length])]; exact boolsAV_plain _) (.plain rfl .nil)) rfl (by rw [List.drop_zero, List.take_of_length_le (by simp [boolsAV, tbl_length])]) rfl rfl (boolsAV_noRow _) (boolsAV_plain _) rfl rfl rfl ?_
    refine sp (v_pure rfl) rfl rfl rfl ?_
    refine WL.nil ?_
    refine W.cond rfl (fun hc => ?_) (fun hc => ?_)
    · have hc' : l.contains c = false := by simpa using hc
      refine W.exit ?_
      refine W.seq (W.region ?_)
      refine sp (v_pure rfl) rfl rfl rfl ?_
      refine sp (v_pure rfl) rfl rfl rfl ?_
      refine WL.nil ?_
      refine W.ret (finR rfl (.shut (.plain rfl) .nil) rfl (tblO_plain l) (congrArg AV.str ?_))
      rw [← hd, dropR_snoc, if_neg (by rw [hc']; simp)]
    · have hc' : l.contains c = true := by simpa using hc
      refine W.skip ?_
      refine W.region ?_
      refine sp (v_pure rfl) rfl rfl rfl ?_
      refine sp (v_pure rfl) rfl rfl rfl ?_
      refine sp (v_len rfl rfl rfl rfl rfl trivial) rfl rfl rfl ?_
      refine sp (v_i64 rfl rfl rfl rfl (by omega) (by omega)) rfl rfl rfl ?_
      refine sq (v_slice_str rfl rfl rfl rfl rfl ⟨_, _, rfl, by omega, rfl⟩ (by omega) (by omega)) (show _ = AV.str s' from by rw [show (((s' ++ [c]).length : Nat) - 1 : Int).toNat = s'.length by omega]; simp) rfl rfl rfl ?_
      refine sp (v_pure rfl) rfl rfl rfl ?_
      refine WL.nil ?_
      refine ⟨s'.length, _, _, by omega, ⟨s', rfl, by omega, by rw [← hd, dropR_snoc, if_pos hc'], rfl⟩, ⟨⟨rfl, rfl, trivial⟩, ⟨.inr ⟨rfl, boolsAV_in _ _⟩, trivial⟩, rfl, Nat.le_of_ble_eq_true rfl⟩⟩

end Go.Proofs.YtnlikbgcnofjiaaDoor
