/- What the laws' inputs are: limbs, whole numbers. -/
import Derived.Test.YtnlikbgcnofjiaaDoorPow0
import Derived.Test.YtnlikbgcnofjiaaDoorLens16
set_option linter.unusedVariables false
set_option linter.unusedSimpArgs false
namespace Go.Proofs.YtnlikbgcnofjiaaDoor
open Go Go.Lens

def SubL : List AV → List AV → Prop
  | [], [] => True
  | c :: cs, d :: ds => Sub c d ∧ SubL cs ds
  | _, _ => False
theorem SubL.rel : ∀ {cs ds : List AV}, SubL cs ds → ∀ (w : World) (H : View) (vs : List Value), RelL w cs H vs → RelL w ds H vs
  | [], [], _, _, _, _, h => h
  | c :: cs, d :: ds, ⟨h1, h2⟩, w, H, vs, h => by
    obtain ⟨v, vs', e, g1, g2⟩ := h
    exact ⟨v, vs', e, h1 w H v g1, SubL.rel h2 w H vs' g2⟩
theorem _root_.Go.Lens.Does.sub {P : Program} {f : FuncId} {args args' : List AV} {r : AV} (h : Does P f args' r) (hs : SubL args args') : Does P f args r :=
  ⟨h.1, fun H w vs ho hr => h.2 H w vs ho (hs.rel w H vs hr)⟩
theorem SubL.refl : ∀ (cs : List AV), SubL cs cs
  | [] => trivial
  | c :: cs => ⟨Sub.refl c, SubL.refl cs⟩

theorem avOfL_u64 {H : Type} : ∀ (ds : List (DataW H)), (∀ x ∈ ds, ∃ n, x = .lit (.int .u64 n) ∧ (Lit.int .u64 n).wf = true) → ∃ l : List Nat, Small LB l ∧ l.length = ds.length ∧ avOfL ds = u64AV l
  | [], _ => ⟨[], fun _ h => (by cases h), rfl, rfl⟩
  | d :: ds, h => by
    obtain ⟨n, rfl, hn⟩ := h d (by simp)
    obtain ⟨l, h1, h2, h3⟩ := avOfL_u64 ds fun x hx => h x (by simp [hx])
    have hn' : 0 ≤ n ∧ n ≤ 18446744073709551615 := by simpa [Lit.wf, IntKind.min, IntKind.max, IntKind.signed, IntKind.bits] using hn
    obtain ⟨m, rfl⟩ := Int.eq_ofNat_of_zero_le hn'.1
    refine ⟨m :: l, fun x hx => ?_, by simp [h2], ?_⟩
    · rcases List.mem_cons.1 hx with rfl | hx
      · simp only [LB]; omega
      · exact h1 x hx
    · simp only [avOfL, avOf, h3, u64AV, List.map_cons]; rfl
/-- limbs, as they come -/
theorem shape_limbs {H : Type} {g : Nat} {d : DataW H} (h : d = .nil ∨ ∃ ds rest, d = .slice ds rest ∧ ds.length ≤ maxLen ∧ ∀ x ∈ ds, shapeT tab (g + 1) 38 x) :
    ∃ l : List Nat, Small LB l ∧ l.length ≤ 9223372036854775807 ∧ Sub ((avOf d).headD .any) (.row (u64AV l) l.length) ∧ ∃ c, avOf d = [c] := by
  rcases h with rfl | ⟨ds, rest, rfl, hl, hx⟩
  · exact ⟨[], fun _ h => (by cases h), by simp, Sub.nils, _, rfl⟩
  · obtain ⟨l, h1, h2, h3⟩ := avOfL_u64 ds fun x hx' => hx x hx'
    refine ⟨l, h1, by rw [h2]; simpa [maxLen] using hl, ?_, _, rfl⟩
    simp only [avOf, List.headD_cons, h3, h2]
    exact Sub.refl _
theorem avArg_slice {H : Type} {d : DataW H} {c : AV} (h : avOf d = [c]) (hd : d = .nil ∨ ∃ ds rest, d = .slice ds rest) : avArg d = (avOf d).headD .any := by
  rcases hd with rfl | ⟨ds, rest, rfl⟩ <;> rfl

/-- the first so many -/
theorem min_nat (n k : Nat) : AV.int .i64 (if (k : Int) < (n : Int) then (k : Int) else (n : Int)) = .int .i64 ((min n k : Nat) : Int) := by
  congr 1
  split
  · rw [Nat.min_eq_right (by omega)]
  · rw [Nat.min_eq_left (by omega)]
theorem take_row (l : List Nat) (k : Nat) : AV.row (((u64AV l).drop (0 * 1)).take (((((min l.length k : Nat) : Int)).toNat - 0) * 1)) ((((min l.length k : Nat) : Int)).toNat - 0) = .row (u64AV (l.take k)) (l.take k).length := by
  have e : (u64AV l).take (min l.length k) = u64AV (l.take k) := by
    rw [u64AV, ← List.map_take]
    congr 1
    rcases Nat.le_total l.length k with h | h
    · rw [Nat.min_eq_left h, List.take_of_length_le (Nat.le_refl _), List.take_of_length_le h]
    · rw [Nat.min_eq_right h]
  simp only [Int.toNat_natCast, Nat.sub_zero, Nat.zero_mul, Nat.mul_one, List.drop_zero, e, List.length_take]
  rw [Nat.min_comm]
theorem small_take {B : Nat} {l : List Nat} (h : Small B l) (k : Nat) : Small B (l.take k) := fun x hx => h x (List.mem_of_mem_take hx)
/-- a number of a few limbs -/
theorem val_take_lt {l : List Nat} (h : Small LB l) (k : Nat) : val LB (l.take k) < LB ^ k := by
  refine Nat.lt_of_lt_of_le (val_lt (small_take h k)) (Nat.pow_le_pow_right (by decide) ?_)
  rw [List.length_take]; omega
theorem val_take_lim {l : List Nat} (h : Small LB l) {k : Nat} (hk : k ≤ 1000000) : Lim (val LB (l.take k)) := Lim.of_lt (val_take_lt h k) hk

end Go.Proofs.YtnlikbgcnofjiaaDoor
