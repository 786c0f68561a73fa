/- Plain law: numbers as limbs. -/
import Derived.Test.YtnlikbgcnofjiaaDoorLens14
set_option linter.unusedVariables false
set_option linter.unusedSimpArgs false
namespace Go.Lens

/-- without the noughts at the end -/
def trim (l : List Nat) : List Nat := (l.reverse.dropWhile (· == 0)).reverse
theorem trim_snoc0 (l : List Nat) : trim (l ++ [0]) = trim l := by simp [trim]
theorem trim_snoc (l : List Nat) (x : Nat) (h0 : x ≠ 0) : trim (l ++ [x]) = l ++ [x] := by simp [trim, h0]
theorem trim_take (l : List Nat) (n : Nat) (hn : n < l.length) (h0 : l[n] = 0) : trim (l.take (n + 1)) = trim (l.take n) := by
  rw [List.take_succ_eq_append_getElem hn, h0, trim_snoc0]
theorem trim_self (l : List Nat) (n : Nat) (hn : n < l.length) (h0 : l[n] ≠ 0) : trim (l.take (n + 1)) = l.take (n + 1) := by
  rw [List.take_succ_eq_append_getElem hn]
  exact trim_snoc _ _ h0

def val (B : Nat) : List Nat → Nat
  | [] => 0
  | x :: l => x + B * val B l
theorem val_append (B : Nat) (l m : List Nat) : val B (l ++ m) = val B l + B ^ l.length * val B m := by
  induction l with
  | nil => simp [val]
  | cons x l ih => simp only [List.cons_append, val, ih, List.length_cons, Nat.pow_succ, Nat.mul_add, Nat.add_assoc]; congr 2; rw [← Nat.mul_assoc, Nat.mul_comm B]
theorem val_snoc (B : Nat) (l : List Nat) (x : Nat) : val B (l ++ [x]) = val B l + B ^ l.length * x := by simp [val_append, val]

def Small (B : Nat) (l : List Nat) : Prop := ∀ x ∈ l, x < B
def Canon (B : Nat) (l : List Nat) : Prop := Small B l ∧ l.getLast? ≠ some 0

theorem list_snoc_ind {α : Type} {P : List α → Prop} (h0 : P []) (h1 : ∀ l x, P l → P (l ++ [x])) (l : List α) : P l := by
  have : ∀ m : List α, P m.reverse := by
    intro m
    induction m with
    | nil => exact h0
    | cons x m ih => rw [List.reverse_cons]; exact h1 _ _ ih
  have := this l.reverse
  rwa [List.reverse_reverse] at this

theorem trim_val (B : Nat) (l : List Nat) : val B (trim l) = val B l := by
  refine list_snoc_ind (P := fun l => val B (trim l) = val B l) rfl (fun l x ih => ?_) l
  by_cases h : x = 0
  · subst h; rw [trim_snoc0, ih, val_snoc]; simp
  · rw [trim_snoc l x h]
theorem trim_canon {B : Nat} {l : List Nat} (h : Small B l) : Canon B (trim l) := by
  revert h
  refine list_snoc_ind (P := fun l => Small B l → Canon B (trim l)) (fun _ => ⟨fun x hx => by simp [trim] at hx, by simp [trim]⟩) (fun l x ih h => ?_) l
  by_cases h0 : x = 0
  · subst h0; rw [trim_snoc0]; exact ih fun y hy => h y (by simp [hy])
  · rw [trim_snoc l x h0]; exact ⟨h, by simp [h0]⟩
theorem trim_length (l : List Nat) : (trim l).length ≤ l.length := by
  refine list_snoc_ind (P := fun l => (trim l).length ≤ l.length) (by simp [trim]) (fun l x ih => ?_) l
  by_cases h : x = 0
  · subst h; rw [trim_snoc0]; simp; omega
  · rw [trim_snoc l x h]; exact Nat.le_refl _

theorem canon_tail {B x : Nat} {l : List Nat} (h : Canon B (x :: l)) : Canon B l := by
  refine ⟨fun y hy => h.1 y (by simp [hy]), fun he => h.2 ?_⟩
  cases l with
  | nil => simp at he
  | cons y l => simpa [List.getLast?_cons] using he
theorem val_pos {B : Nat} (hB : 0 < B) : ∀ {l : List Nat}, Canon B l → l ≠ [] → 0 < val B l
  | [], _, h => absurd rfl h
  | [x], h, _ => by
    have : x ≠ 0 := fun e => h.2 (by simp [e])
    simp [val]; omega
  | x :: y :: l, h, _ => by
    have := val_pos hB (canon_tail h) (by simp)
    have := Nat.mul_pos hB this
    simp only [val] at *; omega
theorem canon_unique {B : Nat} (hB : 0 < B) : ∀ {l m : List Nat}, Canon B l → Canon B m → val B l = val B m → l = m
  | [], [], _, _, _ => rfl
  | [], y :: m, _, hm, h => by have := val_pos hB hm (by simp); rw [← h] at this; simp [val] at this
  | x :: l, [], hl, _, h => by have := val_pos hB hl (by simp); rw [h] at this; simp [val] at this
  | x :: l, y :: m, hl, hm, h => by
    have h1 := hl.1 x (by simp)
    have h2 := hm.1 y (by simp)
    simp only [val] at h
    have e1 : x = y := by
      have := congrArg (· % B) h
      simpa [Nat.add_mul_mod_self_left, Nat.mod_eq_of_lt h1, Nat.mod_eq_of_lt h2] using this
    subst e1
    have e2 : val B l = val B m := Nat.eq_of_mul_eq_mul_left hB (by omega)
    rw [canon_unique hB (canon_tail hl) (canon_tail hm) e2]

/-- the digits of a number, the least first -/
def digs (B : Nat) (n : Nat) : List Nat :=
  if h : n = 0 ∨ B < 2 then [] else (n % B) :: digs B (n / B)
termination_by n
decreasing_by exact Nat.div_lt_self (by omega) (by omega)

theorem digs_zero (B : Nat) : digs B 0 = [] := by rw [digs]; simp
theorem digs_pos {B n : Nat} (hB : 2 ≤ B) (hn : n ≠ 0) : digs B n = (n % B) :: digs B (n / B) := by rw [digs, dif_neg (by omega)]
theorem digs_spec {B : Nat} (hB : 2 ≤ B) (n : Nat) : val B (digs B n) = n ∧ Canon B (digs B n) := by
  induction n using Nat.strongRecOn with
  | _ n ih =>
    by_cases h : n = 0
    · subst h; rw [digs_zero]; exact ⟨rfl, (fun x hx => by cases hx), by simp⟩
    · obtain ⟨h1, h2⟩ := ih (n / B) (Nat.div_lt_self (by omega) (by omega))
      rw [digs_pos hB h]
      refine ⟨by simp only [val, h1]; exact Nat.mod_add_div n B, fun x hx => ?_, fun he => ?_⟩
      · rcases List.mem_cons.1 hx with rfl | hx
        · exact Nat.mod_lt _ (by omega)
        · exact h2.1 x hx
      · cases hd : digs B (n / B) with
        | nil =>
          rw [hd] at he h1
          simp at he
          simp [val] at h1
          have := Nat.mod_add_div n B
          rw [← h1, he] at this
          omega
        | cons y l =>
          rw [hd] at he h2
          refine h2.2 ?_
          simpa [List.getLast?_cons] using he
theorem digs_val {B : Nat} (hB : 2 ≤ B) (n : Nat) : val B (digs B n) = n := (digs_spec hB n).1
theorem digs_canon {B : Nat} (hB : 2 ≤ B) (n : Nat) : Canon B (digs B n) := (digs_spec hB n).2
theorem digs_of_canon {B : Nat} (hB : 2 ≤ B) {l : List Nat} (h : Canon B l) : digs B (val B l) = l := canon_unique (by omega) (digs_canon hB _) h (digs_val hB _)
theorem trim_digs {B : Nat} (hB : 2 ≤ B) {l : List Nat} (h : Small B l) : trim l = digs B (val B l) := by
  rw [← trim_val B l, digs_of_canon hB (trim_canon h)]
theorem digs_eq_nil {B : Nat} (hB : 2 ≤ B) (n : Nat) : digs B n = [] ↔ n = 0 := by
  refine ⟨fun h => ?_, fun h => by rw [h, digs_zero]⟩
  have := digs_val hB n
  rw [h] at this; simpa [val] using this.symm
theorem digs_length {B : Nat} (hB : 2 ≤ B) {n k : Nat} (h : n < B ^ k) : (digs B n).length ≤ k := by
  induction k generalizing n with
  | zero => have : n = 0 := by simpa using h
            subst this; rw [digs_zero]; simp
  | succ k ih =>
    by_cases h0 : n = 0
    · subst h0; rw [digs_zero]; simp
    · rw [digs_pos hB h0]
      have := ih (n := n / B) (Nat.div_lt_of_lt_mul (by rw [Nat.pow_succ, Nat.mul_comm] at h; exact h))
      simp; omega
theorem val_lt {B : Nat} : ∀ {l : List Nat}, Small B l → val B l < B ^ l.length
  | [], _ => by simp [val]
  | x :: l, h => by
    have h1 := h x (by simp)
    have h2 := val_lt (l := l) fun y hy => h y (by simp [hy])
    simp only [val, List.length_cons, Nat.pow_succ]
    calc x + B * val B l < B + B * val B l := by omega
      _ = B * (val B l + 1) := by rw [Nat.mul_add, Nat.mul_one, Nat.add_comm]
      _ ≤ B * B ^ l.length := Nat.mul_le_mul_left _ h2
      _ = B ^ l.length * B := Nat.mul_comm _ _

/-- the first digits' number -/
def pv (B : Nat) (l : List Nat) (i : Nat) : Nat := val B (l.take i)
theorem pv_succ (B : Nat) (l : List Nat) (i : Nat) : pv B l (i + 1) = pv B l i + B ^ i * l.getD i 0 := by
  unfold pv
  by_cases h : i < l.length
  · rw [List.take_succ_eq_append_getElem h, val_snoc]
    simp [List.getD, h, Nat.min_eq_left (Nat.le_of_lt h)]
  · rw [List.take_of_length_le (by omega), List.take_of_length_le (by omega)]
    simp [List.getD, List.getElem?_eq_none (show l.length ≤ i by omega)]
theorem pv_all (B : Nat) {l : List Nat} {i : Nat} (h : l.length ≤ i) : pv B l i = val B l := by unfold pv; rw [List.take_of_length_le h]
theorem pv_zero (B : Nat) (l : List Nat) : pv B l 0 = 0 := by simp [pv, val]

end Go.Lens
