/- slices.Equal of entries. law 20: BookSums. -/
import Derived.Test.YtehoobhbginahaaGreatDoorKBU9

set_option linter.unusedVariables false
set_option linter.unusedSimpArgs false
namespace Go.Proofs.YtehoobhbginahaaGreatDoor
open Go Go.Lens
theorem okEn : okEq Tryz.prog [34, 32] = true := by kernel_rfl
def eqEn (x y : En) : Bool := (x.y == y.y && (x.m == y.m && (x.d == y.d && true))) && (x.db == y.db && (x.cr == y.cr && (x.am == y.am && true)))
theorem eqEn_iff {x y : En} : eqEn x y = true ↔ x = y := by
  obtain ⟨a, b, c, d, e, f⟩ := x
  obtain ⟨a', b', c', d', e', f'⟩ := y
  simp only [eqEn, Bool.and_true, Bool.and_eq_true, beq_iff_eq, En.mk.injEq]
  constructor
  · rintro ⟨⟨h1, h2, h3⟩, h4, h5, h6⟩; exact ⟨h1, h2, h3, h4, h5, h6⟩
  · rintro ⟨h1, h2, h3, h4, h5, h6⟩; exact ⟨⟨h1, h2, h3⟩, h4, h5, h6⟩
open Classical in
theorem equal_ens (a b : List En) (ha : a.length ≤ 1000000) (hb : b.length ≤ 1000000) : Does Tryz.prog 19 [.row (ensAV a) a.length, .row (ensAV b) b.length] (.bool (decide (a = b))) := by
  refine does tab_ok Tryz.func19 rfl rfl rfl rfl rfl fun w0 H0 hk hj => ?_
  refine W.seq (W.region ?_)
  refine z_p ?_
  refine WL.nil ?_
  refine W.seq (W.seq (W.region ?_))
  refine z_p ?_
  first | refine z_n ?_ | refine z_m ?_ | refine z_k ?_
  refine z_p ?_
  first | refine z_n ?_ | refine z_m ?_ | refine z_k ?_
  refine z_p ?_
  refine WL.nil ?_
  refine W.cond rfl (fun hc => ?_) (fun hc => ?_)
  · have hne : a ≠ b := fun e => by subst e; simp at hc
    refine W.seq (W.region ?_)
    refine z_p ?_
    refine WL.nil ?_
    refine W.ret (fin rfl (.shut (.plain rfl) .nil) ?_)
    show AV.bool false = _
    rw [decide_eq_false hne]
  · have hl : a.length = b.length := by
      have : ¬ ((a.length : Int) ≠ b.length) := by simpa using hc
      omega
    refine W.skip ?_
    refine W.seq (W.seq (W.region ?_))
    refine z_p ?_
    first | refine z_n ?_ | refine z_m ?_ | refine z_k ?_
    refine z_p ?_
    refine WL.nil ?_
    refine W.block ?_
    refine W.while (fun n st => ∃ i, i ≤ a.length ∧ n = a.length - i ∧ a.take i = b.take i ∧ st = ⟨[(0, .row (ensAV a) a.length), (1, .row (ensAV b) b.length), (12, .int .i64 (a.length : Nat)), (13, .int .i64 (i : Nat))], []⟩) a.length
      ⟨0, Nat.zero_le _, rfl, rfl, rfl⟩ (by refine ⟨?_, ?_, rfl, Nat.le_of_ble_eq_true rfl⟩ <;> repeat (first | exact trivial | exact rfl | refine ⟨rfl, ?_⟩ | refine ⟨.inr ⟨rfl, ?_⟩, ?_⟩ | refine ⟨.inl rfl, ?_⟩)) ?_
    rintro _ _ ⟨i, hi, rfl, hpre, rfl⟩
    by_cases hil : i < a.length
    · have hib : i < b.length := by omega
      obtain ⟨ra, hea⟩ := ensAV_at hil
      obtain ⟨rb, heb⟩ := ensAV_at hib
      have hna : ensAV a ≠ [] := fun e => by have := ensAV_length a; rw [e] at this; simp at this; omega
      have hnb : ensAV b ≠ [] := fun e => by have := ensAV_length b; rw [e] at this; simp at this; omega
      refine W.seq (W.region ?_)
      refine z_T (show ((i : Nat) : Int) < (a.length : Nat) by omega) ?_
      refine WL.nil ?_
      refine W.seq (W.cond_true rfl (W.skip ?_))
      refine W.seq (W.block ?_)
      refine W.seq (W.region ?_)
      refine z_p ?_
      refine z_p ?_
      refine WL.nil ?_
      refine W.seq (W.drawnR mixed [16, 17, 18, 19, 20, 21, 22, 23] (by kernel_rfl) ?_)
      apply DrawFrom.stepR
      · intro more
        refine z_p ?_
        exact z_e
      apply DrawFrom.stepR
      · intro more
        refine z_p ?_
        exact z_e
      apply DrawFrom.stepR
      · intro more
        refine sp (v_indexAddr_row rfl rfl rfl rfl rfl rfl (by omega) (by omega) hna) rfl rfl rfl ?_
        exact z_e
      apply DrawFrom.stepR
      · intro more
        refine sq (v_load_radr rfl rfl rfl (loadc_enr (i := i * 6) hea rfl rfl)) (show _ = a[i].av from rfl) rfl rfl rfl ?_
        exact z_e
      apply DrawFrom.stepR
      · intro more
        refine z_p ?_
        exact z_e
      apply DrawFrom.stepR
      · intro more
        refine z_p ?_
        exact z_e
      apply DrawFrom.stepR
      · intro more
        refine sp (v_indexAddr_row rfl rfl rfl rfl rfl rfl (by omega) (by omega) hnb) rfl rfl rfl ?_
        exact z_e
      apply DrawFrom.stepR
      · intro more
        refine sq (v_load_radr rfl rfl rfl (loadc_enr (i := i * 6) heb rfl rfl)) (show _ = b[i].av from rfl) rfl rfl rfl ?_
        exact z_e
      refine DrawFrom.doneR (rfl : _ = (_, _) :: (_, _) :: (_, _) :: (_, _) :: (_, _) :: (_, _) :: (_, _) :: (_, _) :: _) ?_
      refine sp (v_neq_struct (b := eqEn a[i] b[i]) 3 okEn rfl rfl rfl rfl rfl) rfl rfl rfl ?_
      refine WL.nil ?_
      refine W.cond rfl (fun hc => ?_) (fun hc => ?_)
      · have hne : a ≠ b := fun e => by
          subst e
          have : eqEn a[i] a[i] = true := eqEn_iff.2 rfl
          rw [this] at hc; cases hc
        refine W.seq (W.region ?_)
        refine z_p ?_
        refine WL.nil ?_
        refine W.ret (fin rfl (.shut (.plain rfl) .nil) ?_)
        show AV.bool false = _
        rw [decide_eq_false hne]
      · have heq : a[i] = b[i] := eqEn_iff.1 (by
          cases h : eqEn a[i] b[i]
          · rw [h] at hc; cases hc
          · rfl)
        refine W.skip ?_
        refine W.region ?_
        refine sq (v_i64 rfl rfl rfl rfl (by omega) (by omega)) (show _ = AV.int .i64 ((i + 1 : Nat) : Int) from rfl) rfl rfl rfl ?_
        refine z_p ?_
        refine WL.nil ?_
        exact ⟨a.length - (i + 1), _, _, by omega, ⟨i + 1, by omega, rfl, by rw [List.take_succ_eq_append_getElem hil, List.take_succ_eq_append_getElem hib, hpre, heq], rfl⟩, (by refine ⟨?_, ?_, rfl, Nat.le_of_ble_eq_true rfl⟩ <;> repeat (first | exact trivial | exact rfl | refine ⟨rfl, ?_⟩ | refine ⟨.inr ⟨rfl, ?_⟩, ?_⟩ | refine ⟨.inl rfl, ?_⟩))⟩
    · have hie : i = a.length := by omega
      subst hie
      have hab : a = b := by rw [List.take_length, hl, List.take_length] at hpre; exact hpre
      refine W.seq (W.region ?_)
      refine z_F (show ¬ ((a.length : Nat) : Int) < (a.length : Nat) by omega) ?_
      refine WL.nil ?_
      refine W.seq (W.cond_false rfl (W.exit ?_))
      refine W.seq (W.region ?_)
      refine z_p ?_
      refine WL.nil ?_
      refine W.ret (fin rfl (.shut (.plain rfl) .nil) ?_)
      show AV.bool true = _
      rw [decide_eq_true hab]
open Classical in
theorem equal_same (a b : List En) (h : a = b) (ha : a.length ≤ 1000000) : Does Tryz.prog 19 [.row (ensAV a) a.length, .row (ensAV b) b.length] (.bool true) := by
  have := equal_ens a b ha (h ▸ ha)
  rw [decide_eq_true h] at this
  exact this
end Go.Proofs.YtehoobhbginahaaGreatDoor

set_option linter.unusedVariables false
set_option linter.unusedSimpArgs false
namespace Go.Proofs.YtehoobhbginahaaGreatDoor
open Go Go.Lens
theorem scoped_up {k k' : Nat} {cs : List AV} (h : scopedL k cs = true) (hk : k ≤ k') : scopedL k' cs = true := scopedL_mono hk cs h
/-- a book behind plain objects -/
theorem ScO.bk {m j : Nat} {l : List En} {X Y Z : AObj} (O : List AObj) (hO : O.all AObj.plainB = true) (hm : O.length = m) (hB : Bk m j l X Y Z) (hj : j = m + 2 := by rfl) : ScO (O ++ [Y, X, Z]) := by
  subst hj; subst hm
  have h0 : ScO ([] : List AObj) := fun o cs ver esz own h => by simp at h
  refine (h0.more hO : ScO ([] ++ O)).app fun o cs ver esz own ho => ?_
  match o, ho with
  | 0, ho => cases hB <;> simp at ho
  | 1, ho =>
    simp at ho; subst ho
    exact scoped_up (hB.scoped (n := O.length + 3) (by omega) (by omega)) (by simp)
  | 2, ho => cases hB <;> simp at ho
  | o + 3, ho => simp at ho
/-! ### what comes in -/
theorem Sub.aggL {cs ds : List AV} (h : SubL cs ds) : Sub (.agg cs) (.agg ds) := by
  rintro w H v ⟨vs, rfl, hr⟩
  exact ⟨vs, rfl, h.rel w H vs hr⟩
theorem avOfL_nat {H : Type} {k : IntKind} {B : Nat} (hB : ∀ n : Int, (Lit.int k n).wf = true → 0 ≤ n ∧ n < B) : ∀ (ds : List (DataW H)), (∀ x ∈ ds, ∃ n, x = .lit (.int k n) ∧ (Lit.int k n).wf = true) →
    ∃ l : List Nat, l.length = ds.length ∧ avOfL ds = l.map (fun (n : Nat) => AV.int k (n : Int)) ∧ ∀ x ∈ l, x < B
  | [], _ => ⟨[], rfl, rfl, fun _ h => by cases h⟩
  | d :: ds, h => by
    obtain ⟨n, rfl, hn⟩ := h _ (.head _)
    obtain ⟨l, h1, h2, h3⟩ := avOfL_nat hB ds fun x hx => h x (.tail _ hx)
    have h4 := hB n hn
    refine ⟨n.toNat :: l, by simp [h1], ?_, fun x hx => ?_⟩
    · simp only [avOfL, avOf, h2, List.map_cons, List.singleton_append, Int.toNat_of_nonneg h4.1]
    · rcases List.mem_cons.1 hx with rfl | hx
      · omega
      · exact h3 x hx
theorem shape_nats {H : Type} {k : IntKind} {B : Nat} (hB : ∀ n : Int, (Lit.int k n).wf = true → 0 ≤ n ∧ n < B) {d : DataW H} (h : d = .nil ∨ ∃ ds rest, d = .slice ds rest ∧ ds.length ≤ maxLen ∧ ∀ x ∈ ds, ∃ n, x = .lit (.int k n) ∧ (Lit.int k n).wf = true) :
    ∃ l : List Nat, (∀ x ∈ l, x < B) ∧ l.length ≤ 9223372036854775807 ∧ ∃ c, avOf d = [c] ∧ Sub c (.row (l.map (fun (n : Nat) => AV.int k (n : Int))) l.length) := by
  rcases h with rfl | ⟨ds, rest, rfl, hl, hx⟩
  · exact ⟨[], fun _ h => (by cases h), by simp, _, rfl, Sub.nils⟩
  · obtain ⟨l, h1, h2, h3⟩ := avOfL_nat hB ds hx
    refine ⟨l, h3, by rw [h1]; simpa [maxLen] using hl, _, rfl, ?_⟩
    rw [h2, h1]
    exact Sub.refl _
theorem wf_u8 (n : Int) (h : (Lit.int .u8 n).wf = true) : 0 ≤ n ∧ n < ((256 : Nat) : Int) := by
  have : 0 ≤ n ∧ n ≤ 255 := by simpa [Lit.wf, IntKind.min, IntKind.max, IntKind.signed, IntKind.bits] using h
  omega
theorem wf_u32 (n : Int) (h : (Lit.int .u32 n).wf = true) : 0 ≤ n ∧ n < ((4294967296 : Nat) : Int) := by
  have : 0 ≤ n ∧ n ≤ 4294967295 := by simpa [Lit.wf, IntKind.min, IntKind.max, IntKind.signed, IntKind.bits] using h
  omega
theorem raw_shape {H : Type} {d : DataW H} (h : shapeT tab 8 26 d) : ∃ z, RawOK z ∧ Sub (avArg d) (rawAV z) := by
  obtain ⟨_, rfl, ⟨d0, _, rfl, ⟨l3, rfl, h3, hx⟩, ⟨d1, _, rfl, hd1, ⟨d2, _, rfl, hd2, ⟨d3, _, rfl, hd3, rfl⟩⟩⟩⟩⟩ := h
  match l3, h3 with
  | [xa, xb, xc], _ =>
    obtain ⟨a, rfl, _⟩ := hx xa (by simp)
    obtain ⟨b, rfl, _⟩ := hx xb (by simp)
    obtain ⟨c, rfl, _⟩ := hx xc (by simp)
    obtain ⟨l1, a1, a2, c1, a3, a4⟩ := shape_nats wf_u8 hd1
    obtain ⟨l2, b1, b2, c2, b3, b4⟩ := shape_nats wf_u8 hd2
    obtain ⟨l3, e1, e2, c3, e3, e4⟩ := shape_nats wf_u32 hd3
    refine ⟨⟨a, b, c, l1, l2, l3⟩, ⟨a1, b1, e1, a2, b2, e2⟩, ?_⟩
    have e : avArg (DataW.agg [.agg [.lit (.int .i64 a), .lit (.int .i64 b), .lit (.int .i64 c)], d1, d2, d3] : DataW H) = .agg [.int .i64 a, .int .i64 b, .int .i64 c, c1, c2, c3] := by
      simp only [avArg, avOfL, a3, b3, e3, avOf, List.cons_append, List.nil_append, List.append_nil]
    rw [e]
    exact Sub.aggL ⟨Sub.refl _, Sub.refl _, Sub.refl _, a4, b4, e4, trivial⟩
end Go.Proofs.YtehoobhbginahaaGreatDoor
