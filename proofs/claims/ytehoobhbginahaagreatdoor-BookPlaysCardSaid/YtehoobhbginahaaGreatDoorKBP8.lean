/- chattelref19.Check, chattelref09.Make, chattellaw19.ChartChecks. book: a book's entries and balances. book: Post. book: Post, of any book. Lens, part 31: slices of the call's own against nil; empty literals without room. book: Entries, Len. book: Upto. book: Back, when it may not be; a nil book. chattellaw20: wakes. Lens, part 32: a slice in a cell of an object that is given up; what an object says may be told weaker. -/
import Derived.Test.YtehoobhbginahaaGreatDoorKBP7

set_option linter.unusedVariables false
set_option linter.unusedSimpArgs false
namespace Go.Proofs.YtehoobhbginahaaGreatDoor
open Go Go.Lens
theorem rem_any {k : IntKind} {a b : Int} (h : b ≠ 0) : binAV .rem (.int k a) (.int k b) = some (.int k (a.tmod b)) := by
 simp only [binAV, isShift, intAV, Bool.false_eq_true, if_false, if_true, if_neg h]
theorem tmod_fix {a b : Int} (hb : 0 < b) : (if a.tmod b < 0 then a.tmod b + b else a.tmod b) = a % b := by
 have h0 := Int.emod_nonneg a (show b ≠ 0 by omega)
 have h1 := Int.emod_lt_of_pos a hb
 rw [Int.tmod_eq_emod]
 split
 ·rw [if_neg (by omega)]; omega
 ·rw [if_pos (by omega)]; omega
theorem tmod_bounds {a b : Int} (hb : 0 < b) : -b < a.tmod b ∧ a.tmod b < b := by
 have h0 := Int.emod_nonneg a (show b ≠ 0 by omega)
 have h1 := Int.emod_lt_of_pos a hb
 rw [Int.tmod_eq_emod]
 split <;> omega
theorem daysF_right {y m : Int} (hy : 1 ≤ y ∧ y ≤ 9999) (hm : 1 ≤ m ∧ m ≤ 12) : 28 ≤ daysF y m ∧ daysF y m ≤ 31 := by
 unfold daysF
 rw [if_neg (by omega)]
 split
 ·split <;> omega
 ·split <;> omega
def makeM (b : Int) : Int := b % 12 + 1
theorem nil_same (s : List UInt8) : (digs LB (decF (plainP s)) == []) = (digs DB (decF (plainP s)) == []) := by
 rw [Bool.eq_iff_iff, beq_iff_eq, beq_iff_eq, digs_eq_nil (B := LB) (by decide), digs_eq_nil (B := DB) (by decide)]
theorem chart_last (am : List UInt8) : (if (if wL am = [] then (0 : Int) else if wB am then -1 else 1) ≤ 0 then (19 : Int) else 0) = if rB am = true ∨ rL am = [] then 19 else 0 := by
 have h1 : wL am = [] ↔ rL am = [] := by
  simp only [wL, rL]
  split
  ·rw [digs_eq_nil (B := LB) (by decide), digs_eq_nil (B := DB) (by decide)]
  ·rfl
 have h2 : wB am = rB am := by simp only [wB, rB, nil_same]
 rw [h2]
 by_cases h : rL am = []
 ·rw [if_pos (h1.2 h), if_pos (by decide), if_pos (.inr h)]
 ·rw [if_neg (fun e => h (h1.1 e))]
  cases rB am
  ·rw [if_neg (by decide), if_neg (by simpa using h)]
  ·rw [if_pos (by decide), if_pos (.inl rfl)]
theorem rCheck_spec (y m d db cr : Int) (am : List UInt8) (hs : am.length ≤ 1000000000) : Does Tryz.prog 47 [entryAV y m d db cr am] (.int .i64 (chartF y m d db cr am)) := by
 have hw : Does Tryz.prog 72 [.str am] (.tup [rIntAV (rL am) (rB am), .int .i64 (wE am)]) := rWhole_spec am hs
 refine does tab_ok Tryz.func47 rfl rfl rfl rfl rfl fun w0 H0 hk hj => ?_
 refine W.seq (W.region ?_)
 first | refine z_B 0 [_] ?_ | refine sn (a_box rfl rfl (.inr ⟨trivial, rfl⟩)) (rfl : _ = AV.ptr 0 0 0) (rfl : _ = [_]) rfl rfl rfl ?_
 refine z_p ?_
 refine WL.nil ?_
 refine W.seq (W.region ?_)
 first | refine z_f ?_ | refine z_g ?_
 first | refine z_l3 ?_ | refine z_r3 ?_
 refine z_c (right_spec y m d) ?_
 refine z_p ?_
 refine WL.nil ?_
 refine W.seq (W.seq (W.region ?_))
 refine z_p ?_
 refine z_p ?_
 refine WL.nil ?_
 refine W.cond rfl (fun hc10 => ?_) (fun hc10 => ?_)
 ·skip
  refine W.seq (W.region ?_)
  refine z_p ?_
  refine WL.nil ?_
  refine W.ret (fin rfl (.shut (.plain (by first | rfl | simp [plainL, AV.plain])) .nil) ?_)
  refine congrArg (AV.int .i64) ?_; clear hk hj hw; cases hr : rightF y m d <;> simp_all [chartF, chart_last, isF] <;> omega
 ·skip
  refine W.skip ?_
  refine W.seq (W.seq (W.region ?_))
  first | refine z_f ?_ | refine z_g ?_
  first | refine z_l ?_ | refine z_r ?_
  refine spb (v_pure rfl) rfl rfl rfl (fun h13 => ?_) (fun h13 => ?_)
  ·skip
   rw [decide_eq_true_eq] at h13
   refine z_p ?_
   refine z_o ?_
   refine z_o ?_
   refine z_o ?_
   refine z_p ?_
   refine z_p ?_
   refine z_o ?_
   refine z_o ?_
   refine z_o ?_
   refine z_p ?_
   refine z_p ?_
   refine z_o ?_
   refine z_o ?_
   refine z_o ?_
   refine z_p ?_
   refine WL.nil ?_
   refine W.cond_true rfl ?_
   refine W.seq (W.region ?_)
   refine z_p ?_
   refine WL.nil ?_
   refine W.ret (fin rfl (.shut (.plain (by first | rfl | simp [plainL, AV.plain])) .nil) ?_)
   refine congrArg (AV.int .i64) ?_; clear hk hj hw; cases hr : rightF y m d <;> simp_all [chartF, chart_last, isF] <;> omega
  ·skip
   rw [decide_eq_false_iff_not] at h13
   refine z_p ?_
   first | refine z_f ?_ | refine z_g ?_
   first | refine z_l ?_ | refine z_r ?_
   refine z_p ?_
   refine spb (v_pure rfl) rfl rfl rfl (fun h18 => ?_) (fun h18 => ?_)
   ·skip
    rw [decide_eq_true_eq] at h18
    refine z_p ?_
    refine z_o ?_
    refine z_o ?_
    refine z_o ?_
    refine z_p ?_
    refine z_p ?_
    refine z_o ?_
    refine z_o ?_
    refine z_o ?_
    refine z_p ?_
    refine WL.nil ?_
    refine W.cond_true rfl ?_
    refine W.seq (W.region ?_)
    refine z_p ?_
    refine WL.nil ?_
    refine W.ret (fin rfl (.shut (.plain (by first | rfl | simp [plainL, AV.plain])) .nil) ?_)
    refine congrArg (AV.int .i64) ?_; clear hk hj hw; cases hr : rightF y m d <;> simp_all [chartF, chart_last, isF] <;> omega
   ·skip
    rw [decide_eq_false_iff_not] at h18
    refine z_p ?_
    first | refine z_f ?_ | refine z_g ?_
    first | refine z_l ?_ | refine z_r ?_
    refine z_p ?_
    refine spb (v_pure rfl) rfl rfl rfl (fun h23 => ?_) (fun h23 => ?_)
    ·skip
     rw [decide_eq_true_eq] at h23
     refine z_p ?_
     refine z_o ?_
     refine z_o ?_
     refine z_o ?_
     refine z_p ?_
     refine WL.nil ?_
     refine W.cond_true rfl ?_
     refine W.seq (W.region ?_)
     refine z_p ?_
     refine WL.nil ?_
     refine W.ret (fin rfl (.shut (.plain (by first | rfl | simp [plainL, AV.plain])) .nil) ?_)
     refine congrArg (AV.int .i64) ?_; clear hk hj hw; cases hr : rightF y m d <;> simp_all [chartF, chart_last, isF] <;> omega
    ·skip
     rw [decide_eq_false_iff_not] at h23
     refine z_p ?_
     first | refine z_f ?_ | refine z_g ?_
     first | refine z_l ?_ | refine z_r ?_
     refine z_p ?_
     refine z_p ?_
     refine WL.nil ?_
     refine W.cond rfl (fun hc28 => ?_) (fun hc28 => ?_)
     ·rw [decide_eq_true_eq] at hc28
      refine W.seq (W.region ?_)
      refine z_p ?_
      refine WL.nil ?_
      refine W.ret (fin rfl (.shut (.plain (by first | rfl | simp [plainL, AV.plain])) .nil) ?_)
      refine congrArg (AV.int .i64) ?_; clear hk hj hw; cases hr : rightF y m d <;> simp_all [chartF, chart_last, isF] <;> omega
     ·rw [decide_eq_false_iff_not] at hc28
      refine W.skip ?_
      refine W.seq (W.seq (W.region ?_))
      first | refine z_f ?_ | refine z_g ?_
      first | refine z_l ?_ | refine z_r ?_
      first | refine z_f ?_ | refine z_g ?_
      first | refine z_l ?_ | refine z_r ?_
      refine z_p ?_
      refine WL.nil ?_
      refine W.cond rfl (fun hc33 => ?_) (fun hc33 => ?_)
      ·rw [beq_iff_eq] at hc33
       refine W.seq (W.region ?_)
       refine z_p ?_
       refine WL.nil ?_
       refine W.ret (fin rfl (.shut (.plain (by first | rfl | simp [plainL, AV.plain])) .nil) ?_)
       refine congrArg (AV.int .i64) ?_; clear hk hj hw; cases hr : rightF y m d <;> simp_all [chartF, chart_last, isF] <;> omega
      ·rw [beq_eq_false_iff_ne] at hc33
       refine W.skip ?_
       refine W.seq (W.region ?_)
       first | refine z_f ?_ | refine z_g ?_
       first | refine z_l ?_ | refine z_r ?_
       refine sc hw rfl rfl rfl rfl (by simp [plainL, AV.plain]) (by simp [plainL, AV.plain, rIntAV_plain]) rfl rfl rfl ?_
       refine z_p ?_
       refine z_p ?_
       refine z_p ?_
       refine z_a 1 [_, _] ?_
       refine z_s [_, _] ?_
       refine z_p ?_
       refine WL.nil ?_
       refine W.seq (W.seq (W.region ?_))
       refine z_p ?_
       refine z_p ?_
       refine WL.nil ?_
       refine W.cond rfl (fun hc41 => ?_) (fun hc41 => ?_)
       ·rw [bne_iff_ne] at hc41
        refine W.seq (W.region ?_)
        refine z_p ?_
        refine z_p ?_
        refine WL.nil ?_
        refine W.ret (fin rfl (.shut (.plain (by first | rfl | simp [plainL, AV.plain])) .nil) ?_)
        refine congrArg (AV.int .i64) ?_; clear hk hj hw; cases hr : rightF y m d <;> simp_all [chartF, chart_last, isF] <;> omega
       ·rw [bne_eq_false_iff_eq] at hc41
        refine W.skip ?_
        refine W.seq (W.seq (W.region ?_))
        first | refine z_f ?_ | refine z_g ?_
        refine spb (v_load rfl rfl rfl rfl rfl) rfl rfl rfl (fun h44 => ?_) (fun h44 => ?_)
        ·skip
         refine z_p ?_
         refine z_o ?_
         refine z_o ?_
         refine z_o ?_
         refine z_o ?_
         refine z_p ?_
         refine WL.nil ?_
         refine W.cond_true rfl ?_
         refine W.seq (W.region ?_)
         refine z_p ?_
         refine WL.nil ?_
         refine W.ret (fin rfl (.shut (.plain (by first | rfl | simp [plainL, AV.plain])) .nil) ?_)
         refine congrArg (AV.int .i64) ?_; clear hk hj hw; cases hr : rightF y m d <;> simp_all [chartF, chart_last, isF] <;> omega
        ·skip
         refine z_p ?_
         first | refine z_f ?_ | refine z_g ?_
         first | refine z_l ?_ | refine z_r ?_
         first | refine z_n ?_ | refine z_m ?_ | refine z_k ?_
         refine z_p ?_
         refine z_p ?_
         refine WL.nil ?_
         refine W.cond rfl (fun hc50 => ?_) (fun hc50 => ?_)
         ·rw [beq_iff_eq] at hc50
          refine W.seq (W.region ?_)
          refine z_p ?_
          refine WL.nil ?_
          refine W.ret (fin rfl (.shut (.plain (by first | rfl | simp [plainL, AV.plain])) .nil) ?_)
          refine congrArg (AV.int .i64) ?_; clear hk hj hw; cases hr : rightF y m d <;> simp_all [chartF, chart_last, isF] <;> omega
         ·rw [beq_eq_false_iff_ne] at hc50
          refine W.skip ?_
          refine W.seq (W.region ?_)
          refine z_p ?_
          refine WL.nil ?_
          refine W.ret (fin rfl (.shut (.plain (by first | rfl | simp [plainL, AV.plain])) .nil) ?_)
          refine congrArg (AV.int .i64) ?_; clear hk hj hw; cases hr : rightF y m d <;> simp_all [chartF, chart_last, isF] <;> omega
end Go.Proofs.YtehoobhbginahaaGreatDoor

set_option linter.unusedVariables false
set_option linter.unusedSimpArgs false
namespace Go.Proofs.YtehoobhbginahaaGreatDoor
open Go Go.Lens
def En.chart (x : En) : Int := chartF x.y x.m x.d x.db x.cr x.am
def ensAV (l : List En) : List AV := l.flatMap En.cells
theorem ensAV_length (l : List En) : (ensAV l).length = l.length * 6 := by
 induction l with
 | nil => rfl
 | cons x r ih => simp only [ensAV, List.flatMap_cons, List.length_append, List.length_cons] at *; rw [ih]; simp [En.cells]; omega
theorem ensAV_snoc (l : List En) (x : En) : ensAV (l ++ [x]) = ensAV l ++ x.cells := by simp [ensAV]
@[simp] theorem ensAV_plain (l : List En) : plainL (ensAV l) = true := by
  induction l with
  | nil => rfl
  | cons x r ih => simp only [ensAV, List.flatMap_cons] at *; rw [plainL_append, ih]; rfl
/-- what an entry adds to an account -/
def En.part (x : En) (a : Int) : Int := (if a = x.db then amZ x.am else 0) - (if a = x.cr then amZ x.am else 0)
def bal (l : List En) (a : Int) : Int := (l.map fun x => x.part a).sum
theorem bal_snoc (l : List En) (x : En) : bal (l ++ [x]) = cntF (bal l) x.db x.cr (amZ x.am) := by
 funext a
 rw [cntF_eq]
 simp only [bal, List.map_append, List.sum_append, List.map_cons, List.map_nil, List.sum_cons, List.sum_nil, En.part]
 omega
theorem good_amZ {x : En} (h : x.chart = 0) : wE x.am = 0 ∧ 0 < amZ x.am ∧ signP x.am = false := by
 simp only [En.chart, chartF] at h
 split at h
 ·cases h
 split at h
 ·cases h
 split at h
 ·cases h
 split at h
 ·rename_i h1; exact absurd h h1
 ·rename_i h0
  have hE : wE x.am = 0 := Classical.byContradiction h0
  have hL : wL x.am = digs LB (decF (plainP x.am)) := by simp [wL, hE]
  have hB : wB x.am = (signP x.am && !(digs LB (decF (plainP x.am)) == [])) := by simp [wB, hE]
  refine ⟨hE, ?_⟩
  by_cases hn : wL x.am = []
  ·rw [if_pos hn] at h; simp at h
  ·rw [if_neg hn] at h
   cases hb : wB x.am with
   | true => rw [hb] at h; simp at h
   | false =>
    rw [hB] at hb
    have h3 : (digs LB (decF (plainP x.am)) == []) = false := by rw [← hL]; simpa using hn
    rw [h3] at hb
    have hs : signP x.am = false := by simpa using hb
    have hd : decF (plainP x.am) ≠ 0 := fun e => hn (by rw [hL, e, digs_zero])
    refine ⟨?_, hs⟩
    simp only [amZ, hE, if_true, hs, Bool.false_eq_true, if_false]
    omega
def bigE : Nat := 4096
def bigA : Nat := 10 ^ bigE
theorem amZ_le (s : List UInt8) (h : wE s = 0) : (amZ s).natAbs < bigA := by
 have hl : ¬ (plainP s).length > 4096 := fun hl => by rw [wE_long hl] at h; cases h
 have h1 : decF (plainP s) < 10 ^ (plainP s).length := decF_lt (by
  refine numText_digs ?_
  cases hn : numText (plainP s) with
  | true => rfl
  | false => rw [wE_bad hl hn] at h; cases h)
 have h2 : (10 : Nat) ^ (plainP s).length ≤ bigA := Nat.pow_le_pow_right (by decide) (show _ ≤ bigE by unfold bigE; omega)
 simp only [amZ, h, if_true]
 split <;> omega
theorem Lim.small {x N : Nat} (hx : x ≤ N * bigA) (hN : N ≤ 4194304) : Lim x := by
 refine Lim.of_bits (k := 22 + 4 * bigE + 1) ?_ (by unfold bigE; omega)
 have h1 : bigA ≤ 2 ^ (4 * bigE) := by rw [Nat.pow_mul]; exact Nat.pow_le_pow_left (by decide) _
 have h2 : N * bigA ≤ 2 ^ 22 * 2 ^ (4 * bigE) := Nat.mul_le_mul (by omega) h1
 rw [← Nat.pow_add] at h2
 have h3 : 2 ^ (22 + 4 * bigE) < 2 ^ (22 + 4 * bigE + 1) := Nat.pow_lt_pow_right (by decide) (by omega)
 omega
theorem bigA_pos : 0 < bigA := Nat.pow_pos (by decide)
theorem Lim.num {x : Nat} (h : x ≤ 4194304) : Lim x := Lim.small (N := x) (Nat.le_mul_of_pos_right _ bigA_pos) h
def GoodL (l : List En) : Prop := ∀ x ∈ l, x.chart = 0
theorem bal_le {l : List En} (h : GoodL l) (a : Int) : (bal l a).natAbs ≤ l.length * bigA := by
 induction l with
 | nil => simp [bal]
 | cons x r ih =>
  have h1 := ih fun y hy => h y (List.mem_cons_of_mem _ hy)
  have hx := h x (List.mem_cons_self ..)
  have h2 := amZ_le x.am (good_amZ hx).1
  have hne : x.db ≠ x.cr := by
   intro e
   simp only [En.chart, chartF] at hx
   split at hx
   ·cases hx
   split at hx
   ·cases hx
   first | cases hx | (rw [if_pos e] at hx; cases hx)
  have h3 : (x.part a).natAbs ≤ bigA := by
   simp only [En.part]
   by_cases e1 : a = x.db <;> by_cases e2 : a = x.cr
   ·exact absurd (e1.symm.trans e2) hne
   ·simp only [if_pos e1, if_neg e2]; omega
   ·simp only [if_pos e2, if_neg e1]; omega
   ·simp only [if_neg e1, if_neg e2]; omega
  have h4 : bal (x :: r) a = x.part a + bal r a := rfl
  rw [h4, List.length_cons, Nat.add_mul, Nat.one_mul]
  omega
/-- a book: its own cells, its map, and the row of its entries if that is its own -/
inductive Bk (m j : Nat) (l : List En) : AObj → AObj → AObj → Prop
  | clip (es : List (Int × AV)) (hes : KV es (bal l)) (hg : GoodL l) : Bk m j l (bkO (.clip (ensAV l) l.length) m) (.kv .i64 es) .slot
  | own (es : List (Int × AV)) (ver : Nat) (hes : KV es (bal l)) (hg : GoodL l) (hl : l ≠ []) : Bk m j l (bkO (.sl j ver 0 l.length true) m) (.kv .i64 es) (.cells (ensAV l) ver 6 true (some 34))
end Go.Proofs.YtehoobhbginahaaGreatDoor

set_option linter.unusedVariables false
set_option linter.unusedSimpArgs false
namespace Go.Proofs.YtehoobhbginahaaGreatDoor
open Go Go.Lens
/-- what Post tells -/
def postE (l : List En) (x : En) : Int :=
  if x.chart ≠ 0 then x.chart else match l.getLast? with
    | some p => if cmpD x.y x.m x.d p.y p.m p.d < 0 then 12 else 0
    | none => 0
theorem loadc_date {l : List En} {p : En} {i : Nat} {y : Ty} (h : (ensAV l).drop i = p.cells) (hk : y.k.agg = true) (hs : y.size = 3) : loadc y (ensAV l) i = some (dateAV p.y p.m p.d) := by
 have hl : (ensAV l).length - i = 6 := by rw [← List.length_drop, h]; rfl
 rw [loadc, hk, if_pos rfl, h, hs, if_pos (by omega)]
 rfl
section
variable {nt : Nat} {w0 : World} {k : Nat} {H0 : View} {ln : Nat → Nat} {hk : ∀ o, o < k → H0.blk o < w0.heap.size} {hj : ∀ x o, x < k → o < k → H0.blk x = H0.blk o → x = o} {sv : List (Array Value × List (Nat × AV))}
  {ops : Array Oper} {o : Oper} {rest : List Oper} {env : List (Nat × AV)} {objs : List AObj} {Q : Exit → St → Prop} {x : Operand} {xs : Array Operand} {ts : Array TypeId} {d b m j : Nat}
/-- an entry that may not be -/
theorem post_bad {cv : AV} (e : En) (hop : o.op = .call { callee := .value x, args := xs, argTypes := ts }) (hx : ev ⟨env, objs⟩ x = some (.func (.func 10) [] [])) (hxs : evL ⟨env, objs⟩ xs.toList = some [.ptr b 0 0, e.av])
  (hb : objs[b]? = some (bkO cv m)) (hs : e.am.length ≤ 9223372036854775807) (he : e.chart ≠ 0) (hg : gd ops ⟨env, objs⟩ o = some true) (hd : o.dst = some d) (hlt : Nat.blt d nt = true)
  (h : WL ⟨Tryz.prog, tab, tab_ok, nt, w0, k, H0, ln, hk, hj, sv⟩ ops rest ⟨(d, .int .i64 e.chart) :: env, objs⟩ Q) :
  WL ⟨Tryz.prog, tab, tab_ok, nt, w0, k, H0, ln, hk, hj, sv⟩ ops (o :: rest) ⟨env, objs⟩ Q := by
 refine si Tryz.func10 rfl rfl rfl rfl hop hx hxs rfl rfl hg hd hlt fun tm => ?_
 refine W.get fun hO hE hS hK => W.base ?_
 generalize hN : objs.length = N at *
 refine W.seq (W.region ?_)
 first | refine sn (a_boxB (by first | assumption | (simp only [List.length_set]; assumption)) rfl rfl (.inl rfl)) (rfl : _ = AV.ptr (N + 0) 0 0) rfl rfl rfl rfl ?_ | refine sn (a_boxB (by first | assumption | (simp only [List.length_set]; assumption)) rfl rfl (.inr ⟨trivial, rfl⟩)) (rfl : _ = AV.ptr (N + 0) 0 0) rfl rfl rfl rfl ?_
 refine z_p ?_
 refine WL.nil ?_
 refine W.seq (W.seq (W.region ?_))
 refine z_p ?_
 refine sp (v_isnil_ptr rfl rfl (get_old hb) rfl rfl) rfl rfl rfl ?_
 refine WL.nil ?_
 refine W.cond_false rfl (W.skip ?_)
 refine W.seq (W.seq (W.region ?_))
 first | refine sq (v_load rfl rfl (get_new (by first | assumption | (simp only [List.length_set]; assumption)) rfl) rfl rfl) (rfl : _ = AV.agg [_, _, _, _, _, _]) rfl rfl rfl ?_ | refine sq (v_load rfl rfl (get_old hb) rfl rfl) (rfl : _ = AV.agg [_, _, _, _, _, _]) rfl rfl rfl ?_ | refine sq (v_load_radr rfl rfl rfl rfl) (rfl : _ = AV.agg [_, _, _, _, _, _]) rfl rfl rfl ?_
 refine z_c (chartCheck_spec e.y e.m e.d e.db e.cr e.am hs) ?_
 refine z_p ?_
 refine WL.nil ?_
 refine W.seq (W.region ?_)
 refine z_p ?_
 refine sp (v_is true rfl rfl rfl rfl (show (chartF e.y e.m e.d e.db e.cr e.am != 0) = true by simpa [En.chart] using he)) rfl rfl rfl ?_
 refine WL.nil ?_
 refine W.cond_true rfl ?_
 refine W.seq (W.region ?_)
 refine z_p ?_
 refine z_p ?_
 refine WL.nil ?_
 exact W.ret ⟨.inl rfl, _, rfl, sd h hO hN hS rfl rfl hK⟩
/-- an entry that comes too early, or may be: the row of entries is the book's own -/
theorem post_own {es : List (Int × AV)} {l : List En} {ver : Nat} (e p : En) (hl : l ≠ []) (hop : o.op = .call { callee := .value x, args := xs, argTypes := ts }) (hx : ev ⟨env, objs⟩ x = some (.func (.func 10) [] [])) (hxs : evL ⟨env, objs⟩ xs.toList = some [.ptr b 0 0, e.av])
  (hb : objs[b]? = some (bkO (.sl j ver 0 l.length true) m)) (hm : objs[m]? = some (.kv .i64 es)) (hj' : objs[j]? = some (.cells (ensAV l) ver 6 true (some 34))) (hes : KV es (bal l)) (hbm : b ≠ m) (hbj : b ≠ j) (hmj : m ≠ j) (hmk : k ≤ m) (hll : l.length ≤ 1000000) (hgl : GoodL l)
  (hp : l.getLast? = some p) (hs : e.am.length ≤ 9223372036854775807) (he : e.chart = 0) (hg : gd ops ⟨env, objs⟩ o = some true) (hd : o.dst = some d) (hlt : Nat.blt d nt = true)
  (h1 : cmpD e.y e.m e.d p.y p.m p.d < 0 → WL ⟨Tryz.prog, tab, tab_ok, nt, w0, k, H0, ln, hk, hj, sv⟩ ops rest ⟨(d, .int .i64 12) :: env, objs⟩ Q)
  (h2 : ¬ cmpD e.y e.m e.d p.y p.m p.d < 0 → WL ⟨Tryz.prog, tab, tab_ok, nt, w0, k, H0, ln, hk, hj, sv⟩ ops rest ⟨(d, .int .i64 0) :: env, ((objs.set j (.cells (ensAV (l ++ [e])) (ver + 1) 6 true (some 34))).set b (bkO (.sl j (ver + 1) 0 (l.length + 1) true) m)).set m (.kv .i64 (cntE es (bal l) e.db e.cr (amZ e.am)))⟩ Q) :
  WL ⟨Tryz.prog, tab, tab_ok, nt, w0, k, H0, ln, hk, hj, sv⟩ ops (o :: rest) ⟨env, objs⟩ Q := by
 have hn0 : 0 < l.length := List.length_pos_iff.2 hl
 have hlast : (ensAV l).drop ((l.length - 1) * 6) = p.cells := by
  obtain ⟨l0, rfl⟩ : ∃ l0, l = l0 ++ [p] := by
   have := List.getLast?_eq_some_iff.1 hp
   exact this
  rw [ensAV_snoc, List.length_append, List.length_singleton, Nat.add_sub_cancel, ← ensAV_length, List.drop_left]
 refine si Tryz.func10 rfl rfl rfl rfl hop hx hxs rfl rfl hg hd hlt fun tm => ?_
 refine W.get fun hO hE hS hK => W.base ?_
 generalize hN : objs.length = N at *
 refine W.seq (W.region ?_)
 first | refine sn (a_boxB (by first | assumption | (simp only [List.length_set]; assumption)) rfl rfl (.inl rfl)) (rfl : _ = AV.ptr (N + 0) 0 0) rfl rfl rfl rfl ?_ | refine sn (a_boxB (by first | assumption | (simp only [List.length_set]; assumption)) rfl rfl (.inr ⟨trivial, rfl⟩)) (rfl : _ = AV.ptr (N + 0) 0 0) rfl rfl rfl rfl ?_
 refine z_p ?_
 refine WL.nil ?_
 refine W.seq (W.seq (W.region ?_))
 refine z_p ?_
 refine sp (v_isnil_ptr rfl rfl (get_old hb) rfl rfl) rfl rfl rfl ?_
 refine WL.nil ?_
 refine W.cond_false rfl (W.skip ?_)
 refine W.seq (W.seq (W.region ?_))
 first | refine sq (v_load rfl rfl (get_new (by first | assumption | (simp only [List.length_set]; assumption)) rfl) rfl rfl) (rfl : _ = AV.agg [_, _, _, _, _, _]) rfl rfl rfl ?_ | refine sq (v_load rfl rfl (get_old hb) rfl rfl) (rfl : _ = AV.agg [_, _, _, _, _, _]) rfl rfl rfl ?_ | refine sq (v_load rfl rfl (get_old hj') rfl rfl) (rfl : _ = AV.agg [_, _, _, _, _, _]) rfl rfl rfl ?_ | refine sq (v_load_radr rfl rfl rfl rfl) (rfl : _ = AV.agg [_, _, _, _, _, _]) rfl rfl rfl ?_
 refine z_c (chartCheck_spec e.y e.m e.d e.db e.cr e.am hs) ?_
 refine z_p ?_
 refine WL.nil ?_
 refine W.seq (W.region ?_)
 refine z_p ?_
 refine sp (v_is false rfl rfl rfl rfl (show (chartF e.y e.m e.d e.db e.cr e.am != 0) = false by simpa [En.chart] using he)) rfl rfl rfl ?_
 refine WL.nil ?_
 refine W.cond_false rfl (W.skip ?_)
 refine W.seq (W.seq (W.region ?_))
 refine z_p ?_
 first | refine z_p ?_ | refine sp (v_nilCheck rfl rfl (get_new (by first | assumption | (simp only [List.length_set]; assumption)) rfl)) rfl rfl rfl ?_ | refine sp (v_nilCheck rfl rfl (get_old hb)) rfl rfl rfl ?_ | refine sp (v_nilCheck rfl rfl (get_old hj')) rfl rfl rfl ?_
 first | refine sp (v_fieldAddr rfl rfl (get_new (by first | assumption | (simp only [List.length_set]; assumption)) rfl) rfl rfl rfl rfl (by decide)) rfl rfl rfl ?_ | refine sp (v_fieldAddr rfl rfl (get_old hb) rfl rfl rfl rfl (by decide)) rfl rfl rfl ?_ | refine sp (v_fieldAddr rfl rfl (get_old hj') rfl rfl rfl rfl (by decide)) rfl rfl rfl ?_ | refine z_g ?_
 first | refine sp (v_load rfl rfl (get_new (by first | assumption | (simp only [List.length_set]; assumption)) rfl) rfl rfl) rfl rfl rfl ?_ | refine sp (v_load rfl rfl (get_old hb) rfl rfl) rfl rfl rfl ?_ | refine sp (v_load rfl rfl (get_old hj') rfl rfl) rfl rfl rfl ?_ | refine z_r ?_
 refine sp (v_len rfl rfl rfl rfl ⟨_, rfl⟩ ⟨_, _, _, _, get_old hj'⟩) rfl rfl rfl ?_
 refine z_p ?_
 refine WL.nil ?_
 refine W.seq (W.drawnR mixed [19, 20, 21, 22, 23, 24, 25, 26, 27, 28, 29, 30, 31, 32] (by kernel_rfl) ?_)
 apply DrawFrom.stepR
 ·intro more
  refine z_p ?_
  exact z_e
 apply DrawFrom.stepR
 ·intro more
  refine z_T (show ((l.length : Nat) : Int) > 0 by omega) ?_
  exact z_e
 apply DrawFrom.stepR
 ·intro more
  refine z_p ?_
  exact z_e
 apply DrawFrom.stepR
 ·intro more
  first | refine sp (v_fieldAddr rfl rfl (get_new (by first | assumption | (simp only [List.length_set]; assumption)) rfl) rfl rfl rfl rfl (by decide)) rfl rfl rfl ?_ | refine sp (v_fieldAddr rfl rfl (get_old hb) rfl rfl rfl rfl (by decide)) rfl rfl rfl ?_ | refine sp (v_fieldAddr rfl rfl (get_old hj') rfl rfl rfl rfl (by decide)) rfl rfl rfl ?_ | refine z_g ?_
  exact z_e
 apply DrawFrom.stepR
 ·intro more
  refine sq (v_load rfl rfl (get_new (by first | assumption | (simp only [List.length_set]; assumption)) rfl) rfl rfl) (show _ = dateAV e.y e.m e.d from rfl) rfl rfl rfl ?_
  exact z_e
 apply DrawFrom.stepR
 ·intro more
  refine z_p ?_
  exact z_e
 apply DrawFrom.stepR
 ·intro more
  first | refine z_p ?_ | refine sp (v_nilCheck rfl rfl (get_new (by first | assumption | (simp only [List.length_set]; assumption)) rfl)) rfl rfl rfl ?_ | refine sp (v_nilCheck rfl rfl (get_old hb)) rfl rfl rfl ?_ | refine sp (v_nilCheck rfl rfl (get_old hj')) rfl rfl rfl ?_
  exact z_e
 apply DrawFrom.stepR
 ·intro more
  first | refine sp (v_fieldAddr rfl rfl (get_new (by first | assumption | (simp only [List.length_set]; assumption)) rfl) rfl rfl rfl rfl (by decide)) rfl rfl rfl ?_ | refine sp (v_fieldAddr rfl rfl (get_old hb) rfl rfl rfl rfl (by decide)) rfl rfl rfl ?_ | refine sp (v_fieldAddr rfl rfl (get_old hj') rfl rfl rfl rfl (by decide)) rfl rfl rfl ?_ | refine z_g ?_
  exact z_e
 apply DrawFrom.stepR
 ·intro more
  first | refine sp (v_load rfl rfl (get_new (by first | assumption | (simp only [List.length_set]; assumption)) rfl) rfl rfl) rfl rfl rfl ?_ | refine sp (v_load rfl rfl (get_old hb) rfl rfl) rfl rfl rfl ?_ | refine sp (v_load rfl rfl (get_old hj') rfl rfl) rfl rfl rfl ?_ | refine z_r ?_
  exact z_e
 apply DrawFrom.stepR
 ·intro more
  refine z_p ?_
  exact z_e
 apply DrawFrom.stepR
 ·intro more
  refine z_i ?_
  exact z_e
 apply DrawFrom.stepR
 ·intro more
  refine sp (v_indexAddr rfl rfl (get_old hj') rfl rfl rfl rfl (by omega) (by omega)) rfl rfl rfl ?_
  exact z_e
 apply DrawFrom.stepR
 ·intro more
  first | refine sp (v_fieldAddr rfl rfl (get_new (by first | assumption | (simp only [List.length_set]; assumption)) rfl) rfl rfl rfl rfl (by decide)) rfl rfl rfl ?_ | refine sp (v_fieldAddr rfl rfl (get_old hb) rfl rfl rfl rfl (by decide)) rfl rfl rfl ?_ | refine sp (v_fieldAddr rfl rfl (get_old hj') rfl rfl rfl rfl (by decide)) rfl rfl rfl ?_ | refine z_g ?_
  exact z_e
 apply DrawFrom.stepR
 ·intro more
  refine sq (v_load rfl rfl (get_old hj') rfl (loadc_date (i := 0 + (((l.length : Nat) : Int) - 1).toNat * 6 + 0) (by rw [show 0 + (((l.length : Nat) : Int) - 1).toNat * 6 + 0 = (l.length - 1) * 6 by omega]; exact hlast) rfl rfl)) (show _ = dateAV p.y p.m p.d from rfl) rfl rfl rfl ?_
  exact z_e
 refine DrawFrom.doneR (rfl : _ = (_, _) :: (_, _) :: (_, _) :: (_, _) :: (_, _) :: (_, _) :: (_, _) :: (_, _) :: (_, _) :: (_, _) :: (_, _) :: (_, _) :: (_, _) :: (_, _) :: _) ?_
 refine z_c (dateCmp_spec e.y e.m e.d p.y p.m p.d) ?_
 refine z_p ?_
 refine z_p ?_
 refine WL.nil ?_
 refine W.cond rfl (fun hc => ?_) (fun hc => ?_)
 ·have hc0 : cmpD e.y e.m e.d p.y p.m p.d < 0 := by simpa using hc
  refine W.seq (W.region ?_)
  refine z_p ?_
  refine WL.nil ?_
  exact W.ret ⟨.inl rfl, _, rfl, sd (h1 hc0) hO hN hS rfl rfl hK⟩
 ·have hc0 : ¬ cmpD e.y e.m e.d p.y p.m p.d < 0 := by simpa using hc
  refine W.skip ?_
  have hb2 : (objs.set j (.cells (ensAV (l ++ [e])) (ver + 1) 6 true (some 34)))[b]? = some (bkO (.sl j ver 0 l.length true) m) := get_other hb (Ne.symm hbj)
  have hm2 : (objs.set j (.cells (ensAV (l ++ [e])) (ver + 1) 6 true (some 34)))[m]? = some (.kv .i64 es) := get_other hm (Ne.symm hmj)
  have hj2 : (objs.set j (.cells (ensAV (l ++ [e])) (ver + 1) 6 true (some 34)))[j]? = some (.cells (ensAV (l ++ [e])) (ver + 1) 6 true (some 34)) := get_set hj'
  have hb3 : ((objs.set j (.cells (ensAV (l ++ [e])) (ver + 1) 6 true (some 34))).set b (bkO (.sl j (ver + 1) 0 (l.length + 1) true) m))[b]? = some (bkO (.sl j (ver + 1) 0 (l.length + 1) true) m) := get_set hb2
  have hm3 : ((objs.set j (.cells (ensAV (l ++ [e])) (ver + 1) 6 true (some 34))).set b (bkO (.sl j (ver + 1) 0 (l.length + 1) true) m))[m]? = some (.kv .i64 es) := get_other hm2 hbm
  have hz := amZ_le e.am (good_amZ he).1
  have hL1 : Lim (amZ e.am).natAbs := Lim.small (N := 1) (by omega) (by omega)
  have hL2 : ∀ a, Lim (bal l a).natAbs := fun a => Lim.small (N := l.length) (bal_le hgl a) (by omega)
  have hL3 : Lim (turn (bal l) e.db (bal l e.db + amZ e.am) e.cr).natAbs := by
   refine Lim.small (N := l.length + 1) ?_ (by omega)
   have q1 := bal_le hgl e.db
   have q2 := bal_le hgl e.cr
   rw [Nat.add_mul, Nat.one_mul]
   simp only [turn]
   split <;> omega
  refine W.seq (W.middle mixed [36, 37, 38, 39, 40, 41, 42] [0] [1, 2, 3, 4, 5, 6] 1 rfl rfl rfl rfl rfl rfl ?_)
  apply MidV.step
  ·intro more
   refine z_p ?_
   exact z_e
  apply MidV.step
  ·intro more
   first | refine z_p ?_ | refine sp (v_nilCheck rfl rfl (get_new (by first | assumption | (simp only [List.length_set]; assumption)) rfl)) rfl rfl rfl ?_ | refine sp (v_nilCheck rfl rfl (get_old hb)) rfl rfl rfl ?_ | refine sp (v_nilCheck rfl rfl (get_old hb2)) rfl rfl rfl ?_ | refine sp (v_nilCheck rfl rfl (get_old hb3)) rfl rfl rfl ?_
   exact z_e
  apply MidV.step
  ·intro more
   first | refine sp (v_fieldAddr rfl rfl (get_new (by first | assumption | (simp only [List.length_set]; assumption)) rfl) rfl rfl rfl rfl (by decide)) rfl rfl rfl ?_ | refine sp (v_fieldAddr rfl rfl (get_old hb) rfl rfl rfl rfl (by decide)) rfl rfl rfl ?_ | refine sp (v_fieldAddr rfl rfl (get_old hb2) rfl rfl rfl rfl (by decide)) rfl rfl rfl ?_ | refine sp (v_fieldAddr rfl rfl (get_old hb3) rfl rfl rfl rfl (by decide)) rfl rfl rfl ?_ | refine z_g ?_
   exact z_e
  apply MidV.step
  ·intro more
   first | refine sp (v_load rfl rfl (get_new (by first | assumption | (simp only [List.length_set]; assumption)) rfl) rfl rfl) rfl rfl rfl ?_ | refine sp (v_load rfl rfl (get_old hb) rfl rfl) rfl rfl rfl ?_ | refine sp (v_load rfl rfl (get_old hb2) rfl rfl) rfl rfl rfl ?_ | refine sp (v_load rfl rfl (get_old hb3) rfl rfl) rfl rfl rfl ?_ | refine z_r ?_
   exact z_e
  apply MidV.step
  ·intro more
   first | refine sq (v_load rfl rfl (get_new (by first | assumption | (simp only [List.length_set]; assumption)) rfl) rfl rfl) (rfl : _ = AV.agg [_, _, _, _, _, _]) rfl rfl rfl ?_ | refine sq (v_load rfl rfl (get_old hb) rfl rfl) (rfl : _ = AV.agg [_, _, _, _, _, _]) rfl rfl rfl ?_ | refine sq (v_load rfl rfl (get_old hb2) rfl rfl) (rfl : _ = AV.agg [_, _, _, _, _, _]) rfl rfl rfl ?_ | refine sq (v_load rfl rfl (get_old hb3) rfl rfl) (rfl : _ = AV.agg [_, _, _, _, _, _]) rfl rfl rfl ?_ | refine sq (v_load_radr rfl rfl rfl rfl) (rfl : _ = AV.agg [_, _, _, _, _, _]) rfl rfl rfl ?_
   exact z_e
  apply MidV.step
  ·intro more
   refine sq (v_buildRow rfl rfl rfl rfl rfl rfl rfl (Nat.le_of_ble_eq_true rfl) (Nat.le_of_ble_eq_true rfl) rfl rfl rfl rfl) (rfl : _ = AV.row [_, _, _, _, _, _] 1) rfl rfl rfl ?_
   exact z_e
  refine MidV.done ?_
  apply MidM.val rfl
  ·intro more
   refine sn (v_append_own rfl rfl (get_old hj') (ensAV_length l) rfl rfl rfl rfl rfl rfl (by decide) (.inr (.inl ⟨rfl, rfl⟩)) (by simp [AV.oneB]) (by omega) (show (l.length + 1) * 56 ≤ 140737488355328 by omega)) (rfl : _ = AV.sl j (ver + 1) 0 (l.length + 1) true) ((set_old hj').trans (by rw [ensAV_snoc]; rfl) : _ = objs.set j (.cells (ensAV (l ++ [e])) (ver + 1) 6 true (some 34)) ++ [AObj.cells e.cells 0 1 false none]) rfl rfl rfl ?_
   exact z_e
  refine MidM.done ?_
  apply MidF.step
  ·refine ⟨fun more => ?_, fun more => ?_, trivial⟩
   refine z_p ?_
   exact z_e
   refine z_p ?_
   exact z_e
  refine MidF.done ?_
  first | refine z_p ?_ | refine sp (v_nilCheck rfl rfl (get_new (by first | assumption | (simp only [List.length_set]; assumption)) rfl)) rfl rfl rfl ?_ | refine sp (v_nilCheck rfl rfl (get_old hb)) rfl rfl rfl ?_ | refine sp (v_nilCheck rfl rfl (get_old hb2)) rfl rfl rfl ?_ | refine sp (v_nilCheck rfl rfl (get_old hb3)) rfl rfl rfl ?_
  first | refine sp (v_fieldAddr rfl rfl (get_new (by first | assumption | (simp only [List.length_set]; assumption)) rfl) rfl rfl rfl rfl (by decide)) rfl rfl rfl ?_ | refine sp (v_fieldAddr rfl rfl (get_old hb) rfl rfl rfl rfl (by decide)) rfl rfl rfl ?_ | refine sp (v_fieldAddr rfl rfl (get_old hb2) rfl rfl rfl rfl (by decide)) rfl rfl rfl ?_ | refine sp (v_fieldAddr rfl rfl (get_old hb3) rfl rfl rfl rfl (by decide)) rfl rfl rfl ?_ | refine z_g ?_
  refine ss (a_store1 rfl rfl (get_old hb2) rfl ⟨_, _, _, _, get_old hj2⟩ (fun h => by cases h) rfl rfl (Nat.le_of_ble_eq_true rfl)) (show _ = (objs.set j (.cells (ensAV (l ++ [e])) (ver + 1) 6 true (some 34))).set b (bkO (.sl j (ver + 1) 0 (l.length + 1) true) m) ++ _ from set_old hb2) rfl rfl ?_
  refine WL.nil ?_
  refine W.seq (W.drawnR mixed [46, 47, 48, 49] (by kernel_rfl) ?_)
  apply DrawFrom.stepR
  ·intro more
   refine z_p ?_
   exact z_e
  apply DrawFrom.stepR
  ·intro more
   first | refine sq (v_load rfl rfl (get_new (by first | assumption | (simp only [List.length_set]; assumption)) rfl) rfl rfl) (rfl : _ = AV.agg [_, _, _, _, _, _]) rfl rfl rfl ?_ | refine sq (v_load rfl rfl (get_old hb) rfl rfl) (rfl : _ = AV.agg [_, _, _, _, _, _]) rfl rfl rfl ?_ | refine sq (v_load rfl rfl (get_old hb2) rfl rfl) (rfl : _ = AV.agg [_, _, _, _, _, _]) rfl rfl rfl ?_ | refine sq (v_load rfl rfl (get_old hb3) rfl rfl) (rfl : _ = AV.agg [_, _, _, _, _, _]) rfl rfl rfl ?_ | refine sq (v_load_radr rfl rfl rfl rfl) (rfl : _ = AV.agg [_, _, _, _, _, _]) rfl rfl rfl ?_
   exact z_e
  apply DrawFrom.stepR
  ·intro more
   first | refine sq (v_load rfl rfl (get_new (by first | assumption | (simp only [List.length_set]; assumption)) rfl) rfl rfl) (rfl : _ = AV.agg [_, _, _, _, _, _]) rfl rfl rfl ?_ | refine sq (v_load rfl rfl (get_old hb) rfl rfl) (rfl : _ = AV.agg [_, _, _, _, _, _]) rfl rfl rfl ?_ | refine sq (v_load rfl rfl (get_old hb2) rfl rfl) (rfl : _ = AV.agg [_, _, _, _, _, _]) rfl rfl rfl ?_ | refine sq (v_load rfl rfl (get_old hb3) rfl rfl) (rfl : _ = AV.agg [_, _, _, _, _, _]) rfl rfl rfl ?_ | refine sq (v_load_radr rfl rfl rfl rfl) (rfl : _ = AV.agg [_, _, _, _, _, _]) rfl rfl rfl ?_
   exact z_e
  apply DrawFrom.stepR
  ·intro more
   refine z_c (bookAmount_spec e hs) ?_
   exact z_e
  refine DrawFrom.doneR (rfl : _ = (_, _) :: (_, _) :: (_, _) :: (_, _) :: _) ?_
  refine count_si e (amZ e.am) rfl rfl rfl (get_old hb3) (get_old hm3) hes hbm hmk hL1 (hL2 _) hL3 rfl rfl rfl ?_
  rw [set_old hm3]
  refine WL.nil ?_
  refine W.seq (W.region ?_)
  refine z_p ?_
  refine WL.nil ?_
  have hjN : j < N := by rw [← hN]; exact (List.getElem?_eq_some_iff.1 hj').1
  have hmN : m < N := by rw [← hN]; exact (List.getElem?_eq_some_iff.1 hm).1
  refine W.ret ⟨.inl rfl, _, rfl, sd (h2 hc0) (((hO.own j _ _ _ _).set (fun cs _ _ _ h => ?_)).kv m _ _) (by simp only [List.length_set]; exact hN) hS rfl rfl hK⟩
  simp only [bkO, AObj.cells.injEq] at h
  rw [← h.1, List.length_set]
  simp [scopedL, AV.inside, hN, hjN, hmN]
/-- the row of entries has no room -/
theorem post_clip0 {es : List (Int × AV)} {l : List En} (e : En) (hop : o.op = .call { callee := .value x, args := xs, argTypes := ts }) (hx : ev ⟨env, objs⟩ x = some (.func (.func 10) [] [])) (hxs : evL ⟨env, objs⟩ xs.toList = some [.ptr b 0 0, e.av])
  (hb : objs[b]? = some (bkO (.clip (ensAV l) l.length) m)) (hm : objs[m]? = some (.kv .i64 es)) (hj' : objs[j]? = some .slot) (hjk : k ≤ j) (hes : KV es (bal l)) (hbm : b ≠ m) (hbj : b ≠ j) (hmj : m ≠ j) (hmk : k ≤ m) (hll : l.length ≤ 1000000) (hgl : GoodL l)
  (hl : l = []) (hs : e.am.length ≤ 9223372036854775807) (he : e.chart = 0) (hg : gd ops ⟨env, objs⟩ o = some true) (hd : o.dst = some d) (hlt : Nat.blt d nt = true)
  (h2 : WL ⟨Tryz.prog, tab, tab_ok, nt, w0, k, H0, ln, hk, hj, sv⟩ ops rest ⟨(d, .int .i64 0) :: env, ((objs.set j (.cells (ensAV (l ++ [e])) 1 6 true (some 34))).set b (bkO (.sl j 1 0 (l.length + 1) true) m)).set m (.kv .i64 (cntE es (bal l) e.db e.cr (amZ e.am)))⟩ Q) :
  WL ⟨Tryz.prog, tab, tab_ok, nt, w0, k, H0, ln, hk, hj, sv⟩ ops (o :: rest) ⟨env, objs⟩ Q := by
 have hn0 : l.length = 0 := by rw [hl]; rfl
 refine si Tryz.func10 rfl rfl rfl rfl hop hx hxs rfl rfl hg hd hlt fun tm => ?_
 refine W.get fun hO hE hS hK => W.base ?_
 generalize hN : objs.length = N at *
 refine W.seq (W.region ?_)
 first | refine sn (a_boxB (by first | assumption | (simp only [List.length_set]; assumption)) rfl rfl (.inl rfl)) (rfl : _ = AV.ptr (N + 0) 0 0) rfl rfl rfl rfl ?_ | refine sn (a_boxB (by first | assumption | (simp only [List.length_set]; assumption)) rfl rfl (.inr ⟨trivial, rfl⟩)) (rfl : _ = AV.ptr (N + 0) 0 0) rfl rfl rfl rfl ?_
 refine z_p ?_
 refine WL.nil ?_
 refine W.seq (W.seq (W.region ?_))
 refine z_p ?_
 refine sp (v_isnil_ptr rfl rfl (get_old hb) rfl rfl) rfl rfl rfl ?_
 refine WL.nil ?_
 refine W.cond_false rfl (W.skip ?_)
 refine W.seq (W.seq (W.region ?_))
 first | refine sq (v_load rfl rfl (get_new (by first | assumption | (simp only [List.length_set]; assumption)) rfl) rfl rfl) (rfl : _ = AV.agg [_, _, _, _, _, _]) rfl rfl rfl ?_ | refine sq (v_load rfl rfl (get_old hb) rfl rfl) (rfl : _ = AV.agg [_, _, _, _, _, _]) rfl rfl rfl ?_ | refine sq (v_load_radr rfl rfl rfl rfl) (rfl : _ = AV.agg [_, _, _, _, _, _]) rfl rfl rfl ?_
 refine z_c (chartCheck_spec e.y e.m e.d e.db e.cr e.am hs) ?_
 refine z_p ?_
 refine WL.nil ?_
 refine W.seq (W.region ?_)
 refine z_p ?_
 refine sp (v_is false rfl rfl rfl rfl (show (chartF e.y e.m e.d e.db e.cr e.am != 0) = false by simpa [En.chart] using he)) rfl rfl rfl ?_
 refine WL.nil ?_
 refine W.cond_false rfl (W.skip ?_)
 refine W.seq (W.seq (W.region ?_))
 refine z_p ?_
 first | refine z_p ?_ | refine sp (v_nilCheck rfl rfl (get_new (by first | assumption | (simp only [List.length_set]; assumption)) rfl)) rfl rfl rfl ?_ | refine sp (v_nilCheck rfl rfl (get_old hb)) rfl rfl rfl ?_
 first | refine sp (v_fieldAddr rfl rfl (get_new (by first | assumption | (simp only [List.length_set]; assumption)) rfl) rfl rfl rfl rfl (by decide)) rfl rfl rfl ?_ | refine sp (v_fieldAddr rfl rfl (get_old hb) rfl rfl rfl rfl (by decide)) rfl rfl rfl ?_ | refine z_g ?_
 refine sp (VStep.sub (v_load rfl rfl (get_old hb) rfl rfl) (Sub.clip_row _ _)) rfl rfl rfl ?_
 refine sp (v_len (n := l.length) rfl rfl rfl rfl ⟨_, rfl⟩ trivial) rfl rfl rfl ?_
 refine z_p ?_
 refine WL.nil ?_
 refine W.seq (W.drawnR mixed [19, 20, 21, 22, 23, 24, 25, 26, 27, 28, 29, 30, 31, 32] (by kernel_rfl) ?_)
 apply DrawFrom.stepR
 ·intro more
  refine z_p ?_
  exact z_e
 apply DrawFrom.stepR
 ·intro more
  refine z_F (show ¬ ((l.length : Nat) : Int) > 0 by omega) ?_
  exact z_e
 apply DrawFrom.stepR
 ·intro more
  refine z_p ?_
  exact z_e
 apply DrawFrom.stepR
 ·intro more
  refine z_o ?_
  exact z_e
 apply DrawFrom.stepR
 ·intro more
  refine z_o ?_
  exact z_e
 apply DrawFrom.stepR
 ·intro more
  refine z_o ?_
  exact z_e
 apply DrawFrom.stepR
 ·intro more
  refine z_o ?_
  exact z_e
 apply DrawFrom.stepR
 ·intro more
  refine z_o ?_
  exact z_e
 apply DrawFrom.stepR
 ·intro more
  refine z_o ?_
  exact z_e
 apply DrawFrom.stepR
 ·intro more
  refine z_o ?_
  exact z_e
 apply DrawFrom.stepR
 ·intro more
  refine z_o ?_
  exact z_e
 apply DrawFrom.stepR
 ·intro more
  refine z_o ?_
  exact z_e
 apply DrawFrom.stepR
 ·intro more
  refine z_o ?_
  exact z_e
 apply DrawFrom.stepR
 ·intro more
  refine z_o ?_
  exact z_e
 refine DrawFrom.doneR (rfl : _ = (_, _) :: (_, _) :: (_, _) :: (_, _) :: (_, _) :: (_, _) :: (_, _) :: (_, _) :: (_, _) :: (_, _) :: (_, _) :: (_, _) :: (_, _) :: (_, _) :: _) ?_
 refine z_o ?_
 refine z_o ?_
 refine z_p ?_
 refine WL.nil ?_
 refine W.cond_false rfl ?_
 ·skip
  refine W.skip ?_
  have hb2 : (objs.set j (.cells (ensAV (l ++ [e])) 1 6 true (some 34)))[b]? = some (bkO (.clip (ensAV l) l.length) m) := get_other hb (Ne.symm hbj)
  have hm2 : (objs.set j (.cells (ensAV (l ++ [e])) 1 6 true (some 34)))[m]? = some (.kv .i64 es) := get_other hm (Ne.symm hmj)
  have hj2 : (objs.set j (.cells (ensAV (l ++ [e])) 1 6 true (some 34)))[j]? = some (.cells (ensAV (l ++ [e])) 1 6 true (some 34)) := get_set hj'
  have hb3 : ((objs.set j (.cells (ensAV (l ++ [e])) 1 6 true (some 34))).set b (bkO (.sl j 1 0 (l.length + 1) true) m))[b]? = some (bkO (.sl j 1 0 (l.length + 1) true) m) := get_set hb2
  have hm3 : ((objs.set j (.cells (ensAV (l ++ [e])) 1 6 true (some 34))).set b (bkO (.sl j 1 0 (l.length + 1) true) m))[m]? = some (.kv .i64 es) := get_other hm2 hbm
  have hz := amZ_le e.am (good_amZ he).1
  have hL1 : Lim (amZ e.am).natAbs := Lim.small (N := 1) (by omega) (by omega)
  have hL2 : ∀ a, Lim (bal l a).natAbs := fun a => Lim.small (N := l.length) (bal_le hgl a) (by omega)
  have hL3 : Lim (turn (bal l) e.db (bal l e.db + amZ e.am) e.cr).natAbs := by
   refine Lim.small (N := l.length + 1) ?_ (by omega)
   have q1 := bal_le hgl e.db
   have q2 := bal_le hgl e.cr
   rw [Nat.add_mul, Nat.one_mul]
   simp only [turn]
   split <;> omega
  refine W.seq (W.middle mixed [36, 37, 38, 39, 40, 41, 42] [0] [1, 2, 3, 4, 5, 6] 1 rfl rfl rfl rfl rfl rfl ?_)
  apply MidV.step
  ·intro more
   refine z_p ?_
   exact z_e
  apply MidV.step
  ·intro more
   first | refine z_p ?_ | refine sp (v_nilCheck rfl rfl (get_new (by first | assumption | (simp only [List.length_set]; assumption)) rfl)) rfl rfl rfl ?_ | refine sp (v_nilCheck rfl rfl (get_old hb)) rfl rfl rfl ?_ | refine sp (v_nilCheck rfl rfl (get_old hb2)) rfl rfl rfl ?_ | refine sp (v_nilCheck rfl rfl (get_old hb3)) rfl rfl rfl ?_
   exact z_e
  apply MidV.step
  ·intro more
   first | refine sp (v_fieldAddr rfl rfl (get_new (by first | assumption | (simp only [List.length_set]; assumption)) rfl) rfl rfl rfl rfl (by decide)) rfl rfl rfl ?_ | refine sp (v_fieldAddr rfl rfl (get_old hb) rfl rfl rfl rfl (by decide)) rfl rfl rfl ?_ | refine sp (v_fieldAddr rfl rfl (get_old hb2) rfl rfl rfl rfl (by decide)) rfl rfl rfl ?_ | refine sp (v_fieldAddr rfl rfl (get_old hb3) rfl rfl rfl rfl (by decide)) rfl rfl rfl ?_ | refine z_g ?_
   exact z_e
  apply MidV.step
  ·intro more
   first | refine sp (v_load rfl rfl (get_new (by first | assumption | (simp only [List.length_set]; assumption)) rfl) rfl rfl) rfl rfl rfl ?_ | refine sp (v_load rfl rfl (get_old hb) rfl rfl) rfl rfl rfl ?_ | refine sp (v_load rfl rfl (get_old hb2) rfl rfl) rfl rfl rfl ?_ | refine sp (v_load rfl rfl (get_old hb3) rfl rfl) rfl rfl rfl ?_ | refine z_r ?_
   exact z_e
  apply MidV.step
  ·intro more
   first | refine sq (v_load rfl rfl (get_new (by first | assumption | (simp only [List.length_set]; assumption)) rfl) rfl rfl) (rfl : _ = AV.agg [_, _, _, _, _, _]) rfl rfl rfl ?_ | refine sq (v_load rfl rfl (get_old hb) rfl rfl) (rfl : _ = AV.agg [_, _, _, _, _, _]) rfl rfl rfl ?_ | refine sq (v_load rfl rfl (get_old hb2) rfl rfl) (rfl : _ = AV.agg [_, _, _, _, _, _]) rfl rfl rfl ?_ | refine sq (v_load rfl rfl (get_old hb3) rfl rfl) (rfl : _ = AV.agg [_, _, _, _, _, _]) rfl rfl rfl ?_ | refine sq (v_load_radr rfl rfl rfl rfl) (rfl : _ = AV.agg [_, _, _, _, _, _]) rfl rfl rfl ?_
   exact z_e
  apply MidV.step
  ·intro more
   refine sq (v_buildRow rfl rfl rfl rfl rfl rfl rfl (Nat.le_of_ble_eq_true rfl) (Nat.le_of_ble_eq_true rfl) rfl rfl rfl rfl) (rfl : _ = AV.row [_, _, _, _, _, _] 1) rfl rfl rfl ?_
   exact z_e
  refine MidV.done ?_
  apply MidM.val rfl
  ·intro more
   refine sn (v_append_clipS (get_old hj') hjk rfl rfl (ensAV_length l) rfl rfl rfl rfl rfl rfl (by decide) (.inr (.inl ⟨rfl, rfl⟩)) (by decide) (by simp [AV.oneB]) (by omega) (show (l.length + 1) * 56 ≤ 140737488355328 by omega)) (rfl : _ = AV.sl j 1 0 (l.length + 1) true) ((set_old hj').trans (by rw [ensAV_snoc]; rfl) : _ = objs.set j (.cells (ensAV (l ++ [e])) 1 6 true (some 34)) ++ [AObj.cells e.cells 0 1 false none]) rfl rfl rfl ?_
   exact z_e
  refine MidM.done ?_
  apply MidF.step
  ·refine ⟨fun more => ?_, fun more => ?_, trivial⟩
   refine z_p ?_
   exact z_e
   refine z_p ?_
   exact z_e
  refine MidF.done ?_
  first | refine z_p ?_ | refine sp (v_nilCheck rfl rfl (get_new (by first | assumption | (simp only [List.length_set]; assumption)) rfl)) rfl rfl rfl ?_ | refine sp (v_nilCheck rfl rfl (get_old hb)) rfl rfl rfl ?_ | refine sp (v_nilCheck rfl rfl (get_old hb2)) rfl rfl rfl ?_ | refine sp (v_nilCheck rfl rfl (get_old hb3)) rfl rfl rfl ?_
  first | refine sp (v_fieldAddr rfl rfl (get_new (by first | assumption | (simp only [List.length_set]; assumption)) rfl) rfl rfl rfl rfl (by decide)) rfl rfl rfl ?_ | refine sp (v_fieldAddr rfl rfl (get_old hb) rfl rfl rfl rfl (by decide)) rfl rfl rfl ?_ | refine sp (v_fieldAddr rfl rfl (get_old hb2) rfl rfl rfl rfl (by decide)) rfl rfl rfl ?_ | refine sp (v_fieldAddr rfl rfl (get_old hb3) rfl rfl rfl rfl (by decide)) rfl rfl rfl ?_ | refine z_g ?_
  refine ss (a_store1 rfl rfl (get_old hb2) rfl ⟨_, _, _, _, get_old hj2⟩ (fun h => by cases h) rfl rfl (Nat.le_of_ble_eq_true rfl)) (show _ = (objs.set j (.cells (ensAV (l ++ [e])) 1 6 true (some 34))).set b (bkO (.sl j 1 0 (l.length + 1) true) m) ++ _ from set_old hb2) rfl rfl ?_
  refine WL.nil ?_
  refine W.seq (W.drawnR mixed [46, 47, 48, 49] (by kernel_rfl) ?_)
  apply DrawFrom.stepR
  ·intro more
   refine z_p ?_
   exact z_e
  apply DrawFrom.stepR
  ·intro more
   first | refine sq (v_load rfl rfl (get_new (by first | assumption | (simp only [List.length_set]; assumption)) rfl) rfl rfl) (rfl : _ = AV.agg [_, _, _, _, _, _]) rfl rfl rfl ?_ | refine sq (v_load rfl rfl (get_old hb) rfl rfl) (rfl : _ = AV.agg [_, _, _, _, _, _]) rfl rfl rfl ?_ | refine sq (v_load rfl rfl (get_old hb2) rfl rfl) (rfl : _ = AV.agg [_, _, _, _, _, _]) rfl rfl rfl ?_ | refine sq (v_load rfl rfl (get_old hb3) rfl rfl) (rfl : _ = AV.agg [_, _, _, _, _, _]) rfl rfl rfl ?_ | refine sq (v_load_radr rfl rfl rfl rfl) (rfl : _ = AV.agg [_, _, _, _, _, _]) rfl rfl rfl ?_
   exact z_e
  apply DrawFrom.stepR
  ·intro more
   first | refine sq (v_load rfl rfl (get_new (by first | assumption | (simp only [List.length_set]; assumption)) rfl) rfl rfl) (rfl : _ = AV.agg [_, _, _, _, _, _]) rfl rfl rfl ?_ | refine sq (v_load rfl rfl (get_old hb) rfl rfl) (rfl : _ = AV.agg [_, _, _, _, _, _]) rfl rfl rfl ?_ | refine sq (v_load rfl rfl (get_old hb2) rfl rfl) (rfl : _ = AV.agg [_, _, _, _, _, _]) rfl rfl rfl ?_ | refine sq (v_load rfl rfl (get_old hb3) rfl rfl) (rfl : _ = AV.agg [_, _, _, _, _, _]) rfl rfl rfl ?_ | refine sq (v_load_radr rfl rfl rfl rfl) (rfl : _ = AV.agg [_, _, _, _, _, _]) rfl rfl rfl ?_
   exact z_e
  apply DrawFrom.stepR
  ·intro more
   refine z_c (bookAmount_spec e hs) ?_
   exact z_e
  refine DrawFrom.doneR (rfl : _ = (_, _) :: (_, _) :: (_, _) :: (_, _) :: _) ?_
  refine count_si e (amZ e.am) rfl rfl rfl (get_old hb3) (get_old hm3) hes hbm hmk hL1 (hL2 _) hL3 rfl rfl rfl ?_
  rw [set_old hm3]
  refine WL.nil ?_
  refine W.seq (W.region ?_)
  refine z_p ?_
  refine WL.nil ?_
  have hjN : j < N := by rw [← hN]; exact (List.getElem?_eq_some_iff.1 hj').1
  have hmN : m < N := by rw [← hN]; exact (List.getElem?_eq_some_iff.1 hm).1
  refine W.ret ⟨.inl rfl, _, rfl, sd h2 (((hO.own j _ _ _ _).set (fun cs _ _ _ h => ?_)).kv m _ _) (by simp only [List.length_set]; exact hN) hS rfl rfl hK⟩
  simp only [bkO, AObj.cells.injEq] at h
  rw [← h.1, List.length_set]
  simp [scopedL, AV.inside, hN, hjN, hmN]
/-- the row of entries has no room -/
theorem post_clip {es : List (Int × AV)} {l : List En} (e p : En) (hl : l ≠ []) (hop : o.op = .call { callee := .value x, args := xs, argTypes := ts }) (hx : ev ⟨env, objs⟩ x = some (.func (.func 10) [] [])) (hxs : evL ⟨env, objs⟩ xs.toList = some [.ptr b 0 0, e.av])
  (hb : objs[b]? = some (bkO (.clip (ensAV l) l.length) m)) (hm : objs[m]? = some (.kv .i64 es)) (hj' : objs[j]? = some .slot) (hjk : k ≤ j) (hes : KV es (bal l)) (hbm : b ≠ m) (hbj : b ≠ j) (hmj : m ≠ j) (hmk : k ≤ m) (hll : l.length ≤ 1000000) (hgl : GoodL l)
  (hp : l.getLast? = some p) (hs : e.am.length ≤ 9223372036854775807) (he : e.chart = 0) (hg : gd ops ⟨env, objs⟩ o = some true) (hd : o.dst = some d) (hlt : Nat.blt d nt = true)
  (h1 : cmpD e.y e.m e.d p.y p.m p.d < 0 → WL ⟨Tryz.prog, tab, tab_ok, nt, w0, k, H0, ln, hk, hj, sv⟩ ops rest ⟨(d, .int .i64 12) :: env, objs⟩ Q)
  (h2 : ¬ cmpD e.y e.m e.d p.y p.m p.d < 0 → WL ⟨Tryz.prog, tab, tab_ok, nt, w0, k, H0, ln, hk, hj, sv⟩ ops rest ⟨(d, .int .i64 0) :: env, ((objs.set j (.cells (ensAV (l ++ [e])) 1 6 true (some 34))).set b (bkO (.sl j 1 0 (l.length + 1) true) m)).set m (.kv .i64 (cntE es (bal l) e.db e.cr (amZ e.am)))⟩ Q) :
  WL ⟨Tryz.prog, tab, tab_ok, nt, w0, k, H0, ln, hk, hj, sv⟩ ops (o :: rest) ⟨env, objs⟩ Q := by
 have hn0 : 0 < l.length := List.length_pos_iff.2 hl
 have hlast : (ensAV l).drop ((l.length - 1) * 6) = p.cells := by
  obtain ⟨l0, rfl⟩ : ∃ l0, l = l0 ++ [p] := by
   have := List.getLast?_eq_some_iff.1 hp
   exact this
  rw [ensAV_snoc, List.length_append, List.length_singleton, Nat.add_sub_cancel, ← ensAV_length, List.drop_left]
 have hne : ensAV l ≠ [] := fun e => by have := ensAV_length l; rw [e] at this; simp at this; omega
 refine si Tryz.func10 rfl rfl rfl rfl hop hx hxs rfl rfl hg hd hlt fun tm => ?_
 refine W.get fun hO hE hS hK => W.base ?_
 generalize hN : objs.length = N at *
 refine W.seq (W.region ?_)
 first | refine sn (a_boxB (by first | assumption | (simp only [List.length_set]; assumption)) rfl rfl (.inl rfl)) (rfl : _ = AV.ptr (N + 0) 0 0) rfl rfl rfl rfl ?_ | refine sn (a_boxB (by first | assumption | (simp only [List.length_set]; assumption)) rfl rfl (.inr ⟨trivial, rfl⟩)) (rfl : _ = AV.ptr (N + 0) 0 0) rfl rfl rfl rfl ?_
 refine z_p ?_
 refine WL.nil ?_
 refine W.seq (W.seq (W.region ?_))
 refine z_p ?_
 refine sp (v_isnil_ptr rfl rfl (get_old hb) rfl rfl) rfl rfl rfl ?_
 refine WL.nil ?_
 refine W.cond_false rfl (W.skip ?_)
 refine W.seq (W.seq (W.region ?_))
 first | refine sq (v_load rfl rfl (get_new (by first | assumption | (simp only [List.length_set]; assumption)) rfl) rfl rfl) (rfl : _ = AV.agg [_, _, _, _, _, _]) rfl rfl rfl ?_ | refine sq (v_load rfl rfl (get_old hb) rfl rfl) (rfl : _ = AV.agg [_, _, _, _, _, _]) rfl rfl rfl ?_ | refine sq (v_load_radr rfl rfl rfl rfl) (rfl : _ = AV.agg [_, _, _, _, _, _]) rfl rfl rfl ?_
 refine z_c (chartCheck_spec e.y e.m e.d e.db e.cr e.am hs) ?_
 refine z_p ?_
 refine WL.nil ?_
 refine W.seq (W.region ?_)
 refine z_p ?_
 refine sp (v_is false rfl rfl rfl rfl (show (chartF e.y e.m e.d e.db e.cr e.am != 0) = false by simpa [En.chart] using he)) rfl rfl rfl ?_
 refine WL.nil ?_
 refine W.cond_false rfl (W.skip ?_)
 refine W.seq (W.seq (W.region ?_))
 refine z_p ?_
 first | refine z_p ?_ | refine sp (v_nilCheck rfl rfl (get_new (by first | assumption | (simp only [List.length_set]; assumption)) rfl)) rfl rfl rfl ?_ | refine sp (v_nilCheck rfl rfl (get_old hb)) rfl rfl rfl ?_
 first | refine sp (v_fieldAddr rfl rfl (get_new (by first | assumption | (simp only [List.length_set]; assumption)) rfl) rfl rfl rfl rfl (by decide)) rfl rfl rfl ?_ | refine sp (v_fieldAddr rfl rfl (get_old hb) rfl rfl rfl rfl (by decide)) rfl rfl rfl ?_ | refine z_g ?_
 refine sp (VStep.sub (v_load rfl rfl (get_old hb) rfl rfl) (Sub.clip_row _ _)) rfl rfl rfl ?_
 refine sp (v_len (n := l.length) rfl rfl rfl rfl ⟨_, rfl⟩ trivial) rfl rfl rfl ?_
 refine z_p ?_
 refine WL.nil ?_
 refine W.seq (W.drawnR mixed [19, 20, 21, 22, 23, 24, 25, 26, 27, 28, 29, 30, 31, 32] (by kernel_rfl) ?_)
 apply DrawFrom.stepR
 ·intro more
  refine z_p ?_
  exact z_e
 apply DrawFrom.stepR
 ·intro more
  refine z_T (show ((l.length : Nat) : Int) > 0 by omega) ?_
  exact z_e
 apply DrawFrom.stepR
 ·intro more
  refine z_p ?_
  exact z_e
 apply DrawFrom.stepR
 ·intro more
  first | refine sp (v_fieldAddr rfl rfl (get_new (by first | assumption | (simp only [List.length_set]; assumption)) rfl) rfl rfl rfl rfl (by decide)) rfl rfl rfl ?_ | refine sp (v_fieldAddr rfl rfl (get_old hb) rfl rfl rfl rfl (by decide)) rfl rfl rfl ?_ | refine z_g ?_
  exact z_e
 apply DrawFrom.stepR
 ·intro more
  first | refine sq (v_load rfl rfl (get_new (by first | assumption | (simp only [List.length_set]; assumption)) rfl) rfl rfl) (rfl : _ = AV.agg [_, _, _]) rfl rfl rfl ?_ | refine sq (v_load rfl rfl (get_old hb) rfl rfl) (rfl : _ = AV.agg [_, _, _]) rfl rfl rfl ?_ | refine z_r3 ?_
  exact z_e
 apply DrawFrom.stepR
 ·intro more
  refine z_p ?_
  exact z_e
 apply DrawFrom.stepR
 ·intro more
  first | refine z_p ?_ | refine sp (v_nilCheck rfl rfl (get_new (by first | assumption | (simp only [List.length_set]; assumption)) rfl)) rfl rfl rfl ?_ | refine sp (v_nilCheck rfl rfl (get_old hb)) rfl rfl rfl ?_
  exact z_e
 apply DrawFrom.stepR
 ·intro more
  first | refine sp (v_fieldAddr rfl rfl (get_new (by first | assumption | (simp only [List.length_set]; assumption)) rfl) rfl rfl rfl rfl (by decide)) rfl rfl rfl ?_ | refine sp (v_fieldAddr rfl rfl (get_old hb) rfl rfl rfl rfl (by decide)) rfl rfl rfl ?_ | refine z_g ?_
  exact z_e
 apply DrawFrom.stepR
 ·intro more
  refine sp (VStep.sub (v_load rfl rfl (get_old hb) rfl rfl) (Sub.clip_row _ _)) rfl rfl rfl ?_
  exact z_e
 apply DrawFrom.stepR
 ·intro more
  refine z_p ?_
  exact z_e
 apply DrawFrom.stepR
 ·intro more
  refine z_i ?_
  exact z_e
 apply DrawFrom.stepR
 ·intro more
  refine sq (v_indexAddr_row rfl rfl rfl rfl rfl rfl (by omega) (by omega) hne) (show _ = AV.radr p.cells from congrArg AV.radr (show (ensAV l).drop ((((l.length : Nat) : Int) - 1).toNat * 6) = p.cells by rw [show (((l.length : Nat) : Int) - 1).toNat * 6 = (l.length - 1) * 6 by omega]; exact hlast)) rfl rfl rfl ?_
  exact z_e
 apply DrawFrom.stepR
 ·intro more
  first | refine sp (v_fieldAddr rfl rfl (get_new (by first | assumption | (simp only [List.length_set]; assumption)) rfl) rfl rfl rfl rfl (by decide)) rfl rfl rfl ?_ | refine sp (v_fieldAddr rfl rfl (get_old hb) rfl rfl rfl rfl (by decide)) rfl rfl rfl ?_ | refine z_g ?_
  exact z_e
 apply DrawFrom.stepR
 ·intro more
  first | refine sq (v_load rfl rfl (get_new (by first | assumption | (simp only [List.length_set]; assumption)) rfl) rfl rfl) (rfl : _ = AV.agg [_, _, _]) rfl rfl rfl ?_ | refine sq (v_load rfl rfl (get_old hb) rfl rfl) (rfl : _ = AV.agg [_, _, _]) rfl rfl rfl ?_ | refine z_r3 ?_
  exact z_e
 refine DrawFrom.doneR (rfl : _ = (_, _) :: (_, _) :: (_, _) :: (_, _) :: (_, _) :: (_, _) :: (_, _) :: (_, _) :: (_, _) :: (_, _) :: (_, _) :: (_, _) :: (_, _) :: (_, _) :: _) ?_
 refine z_c (dateCmp_spec e.y e.m e.d p.y p.m p.d) ?_
 refine z_p ?_
 refine z_p ?_
 refine WL.nil ?_
 refine W.cond rfl (fun hc => ?_) (fun hc => ?_)
 ·have hc0 : cmpD e.y e.m e.d p.y p.m p.d < 0 := by simpa using hc
  refine W.seq (W.region ?_)
  refine z_p ?_
  refine WL.nil ?_
  exact W.ret ⟨.inl rfl, _, rfl, sd (h1 hc0) hO hN hS rfl rfl hK⟩
 ·have hc0 : ¬ cmpD e.y e.m e.d p.y p.m p.d < 0 := by simpa using hc
  refine W.skip ?_
  have hb2 : (objs.set j (.cells (ensAV (l ++ [e])) 1 6 true (some 34)))[b]? = some (bkO (.clip (ensAV l) l.length) m) := get_other hb (Ne.symm hbj)
  have hm2 : (objs.set j (.cells (ensAV (l ++ [e])) 1 6 true (some 34)))[m]? = some (.kv .i64 es) := get_other hm (Ne.symm hmj)
  have hj2 : (objs.set j (.cells (ensAV (l ++ [e])) 1 6 true (some 34)))[j]? = some (.cells (ensAV (l ++ [e])) 1 6 true (some 34)) := get_set hj'
  have hb3 : ((objs.set j (.cells (ensAV (l ++ [e])) 1 6 true (some 34))).set b (bkO (.sl j 1 0 (l.length + 1) true) m))[b]? = some (bkO (.sl j 1 0 (l.length + 1) true) m) := get_set hb2
  have hm3 : ((objs.set j (.cells (ensAV (l ++ [e])) 1 6 true (some 34))).set b (bkO (.sl j 1 0 (l.length + 1) true) m))[m]? = some (.kv .i64 es) := get_other hm2 hbm
  have hz := amZ_le e.am (good_amZ he).1
  have hL1 : Lim (amZ e.am).natAbs := Lim.small (N := 1) (by omega) (by omega)
  have hL2 : ∀ a, Lim (bal l a).natAbs := fun a => Lim.small (N := l.length) (bal_le hgl a) (by omega)
  have hL3 : Lim (turn (bal l) e.db (bal l e.db + amZ e.am) e.cr).natAbs := by
   refine Lim.small (N := l.length + 1) ?_ (by omega)
   have q1 := bal_le hgl e.db
   have q2 := bal_le hgl e.cr
   rw [Nat.add_mul, Nat.one_mul]
   simp only [turn]
   split <;> omega
  refine W.seq (W.middle mixed [36, 37, 38, 39, 40, 41, 42] [0] [1, 2, 3, 4, 5, 6] 1 rfl rfl rfl rfl rfl rfl ?_)
  apply MidV.step
  ·intro more
   refine z_p ?_
   exact z_e
  apply MidV.step
  ·intro more
   first | refine z_p ?_ | refine sp (v_nilCheck rfl rfl (get_new (by first | assumption | (simp only [List.length_set]; assumption)) rfl)) rfl rfl rfl ?_ | refine sp (v_nilCheck rfl rfl (get_old hb)) rfl rfl rfl ?_ | refine sp (v_nilCheck rfl rfl (get_old hb2)) rfl rfl rfl ?_ | refine sp (v_nilCheck rfl rfl (get_old hb3)) rfl rfl rfl ?_
   exact z_e
  apply MidV.step
  ·intro more
   first | refine sp (v_fieldAddr rfl rfl (get_new (by first | assumption | (simp only [List.length_set]; assumption)) rfl) rfl rfl rfl rfl (by decide)) rfl rfl rfl ?_ | refine sp (v_fieldAddr rfl rfl (get_old hb) rfl rfl rfl rfl (by decide)) rfl rfl rfl ?_ | refine sp (v_fieldAddr rfl rfl (get_old hb2) rfl rfl rfl rfl (by decide)) rfl rfl rfl ?_ | refine sp (v_fieldAddr rfl rfl (get_old hb3) rfl rfl rfl rfl (by decide)) rfl rfl rfl ?_ | refine z_g ?_
   exact z_e
  apply MidV.step
  ·intro more
   first | refine sp (v_load rfl rfl (get_new (by first | assumption | (simp only [List.length_set]; assumption)) rfl) rfl rfl) rfl rfl rfl ?_ | refine sp (v_load rfl rfl (get_old hb) rfl rfl) rfl rfl rfl ?_ | refine sp (v_load rfl rfl (get_old hb2) rfl rfl) rfl rfl rfl ?_ | refine sp (v_load rfl rfl (get_old hb3) rfl rfl) rfl rfl rfl ?_ | refine z_r ?_
   exact z_e
  apply MidV.step
  ·intro more
   first | refine sq (v_load rfl rfl (get_new (by first | assumption | (simp only [List.length_set]; assumption)) rfl) rfl rfl) (rfl : _ = AV.agg [_, _, _, _, _, _]) rfl rfl rfl ?_ | refine sq (v_load rfl rfl (get_old hb) rfl rfl) (rfl : _ = AV.agg [_, _, _, _, _, _]) rfl rfl rfl ?_ | refine sq (v_load rfl rfl (get_old hb2) rfl rfl) (rfl : _ = AV.agg [_, _, _, _, _, _]) rfl rfl rfl ?_ | refine sq (v_load rfl rfl (get_old hb3) rfl rfl) (rfl : _ = AV.agg [_, _, _, _, _, _]) rfl rfl rfl ?_ | refine sq (v_load_radr rfl rfl rfl rfl) (rfl : _ = AV.agg [_, _, _, _, _, _]) rfl rfl rfl ?_
   exact z_e
  apply MidV.step
  ·intro more
   refine sq (v_buildRow rfl rfl rfl rfl rfl rfl rfl (Nat.le_of_ble_eq_true rfl) (Nat.le_of_ble_eq_true rfl) rfl rfl rfl rfl) (rfl : _ = AV.row [_, _, _, _, _, _] 1) rfl rfl rfl ?_
   exact z_e
  refine MidV.done ?_
  apply MidM.val rfl
  ·intro more
   refine sn (v_append_clipS (get_old hj') hjk rfl rfl (ensAV_length l) rfl rfl rfl rfl rfl rfl (by decide) (.inr (.inl ⟨rfl, rfl⟩)) (by decide) (by simp [AV.oneB]) (by omega) (show (l.length + 1) * 56 ≤ 140737488355328 by omega)) (rfl : _ = AV.sl j 1 0 (l.length + 1) true) ((set_old hj').trans (by rw [ensAV_snoc]; rfl) : _ = objs.set j (.cells (ensAV (l ++ [e])) 1 6 true (some 34)) ++ [AObj.cells e.cells 0 1 false none]) rfl rfl rfl ?_
   exact z_e
  refine MidM.done ?_
  apply MidF.step
  ·refine ⟨fun more => ?_, fun more => ?_, trivial⟩
   refine z_p ?_
   exact z_e
   refine z_p ?_
   exact z_e
  refine MidF.done ?_
  first | refine z_p ?_ | refine sp (v_nilCheck rfl rfl (get_new (by first | assumption | (simp only [List.length_set]; assumption)) rfl)) rfl rfl rfl ?_ | refine sp (v_nilCheck rfl rfl (get_old hb)) rfl rfl rfl ?_ | refine sp (v_nilCheck rfl rfl (get_old hb2)) rfl rfl rfl ?_ | refine sp (v_nilCheck rfl rfl (get_old hb3)) rfl rfl rfl ?_
  first | refine sp (v_fieldAddr rfl rfl (get_new (by first | assumption | (simp only [List.length_set]; assumption)) rfl) rfl rfl rfl rfl (by decide)) rfl rfl rfl ?_ | refine sp (v_fieldAddr rfl rfl (get_old hb) rfl rfl rfl rfl (by decide)) rfl rfl rfl ?_ | refine sp (v_fieldAddr rfl rfl (get_old hb2) rfl rfl rfl rfl (by decide)) rfl rfl rfl ?_ | refine sp (v_fieldAddr rfl rfl (get_old hb3) rfl rfl rfl rfl (by decide)) rfl rfl rfl ?_ | refine z_g ?_
  refine ss (a_store1 rfl rfl (get_old hb2) rfl ⟨_, _, _, _, get_old hj2⟩ (fun h => by cases h) rfl rfl (Nat.le_of_ble_eq_true rfl)) (show _ = (objs.set j (.cells (ensAV (l ++ [e])) 1 6 true (some 34))).set b (bkO (.sl j 1 0 (l.length + 1) true) m) ++ _ from set_old hb2) rfl rfl ?_
  refine WL.nil ?_
  refine W.seq (W.drawnR mixed [46, 47, 48, 49] (by kernel_rfl) ?_)
  apply DrawFrom.stepR
  ·intro more
   refine z_p ?_
   exact z_e
  apply DrawFrom.stepR
  ·intro more
   first | refine sq (v_load rfl rfl (get_new (by first | assumption | (simp only [List.length_set]; assumption)) rfl) rfl rfl) (rfl : _ = AV.agg [_, _, _, _, _, _]) rfl rfl rfl ?_ | refine sq (v_load rfl rfl (get_old hb) rfl rfl) (rfl : _ = AV.agg [_, _, _, _, _, _]) rfl rfl rfl ?_ | refine sq (v_load rfl rfl (get_old hb2) rfl rfl) (rfl : _ = AV.agg [_, _, _, _, _, _]) rfl rfl rfl ?_ | refine sq (v_load rfl rfl (get_old hb3) rfl rfl) (rfl : _ = AV.agg [_, _, _, _, _, _]) rfl rfl rfl ?_ | refine sq (v_load_radr rfl rfl rfl rfl) (rfl : _ = AV.agg [_, _, _, _, _, _]) rfl rfl rfl ?_
   exact z_e
  apply DrawFrom.stepR
  ·intro more
   first | refine sq (v_load rfl rfl (get_new (by first | assumption | (simp only [List.length_set]; assumption)) rfl) rfl rfl) (rfl : _ = AV.agg [_, _, _, _, _, _]) rfl rfl rfl ?_ | refine sq (v_load rfl rfl (get_old hb) rfl rfl) (rfl : _ = AV.agg [_, _, _, _, _, _]) rfl rfl rfl ?_ | refine sq (v_load rfl rfl (get_old hb2) rfl rfl) (rfl : _ = AV.agg [_, _, _, _, _, _]) rfl rfl rfl ?_ | refine sq (v_load rfl rfl (get_old hb3) rfl rfl) (rfl : _ = AV.agg [_, _, _, _, _, _]) rfl rfl rfl ?_ | refine sq (v_load_radr rfl rfl rfl rfl) (rfl : _ = AV.agg [_, _, _, _, _, _]) rfl rfl rfl ?_
   exact z_e
  apply DrawFrom.stepR
  ·intro more
   refine z_c (bookAmount_spec e hs) ?_
   exact z_e
  refine DrawFrom.doneR (rfl : _ = (_, _) :: (_, _) :: (_, _) :: (_, _) :: _) ?_
  refine count_si e (amZ e.am) rfl rfl rfl (get_old hb3) (get_old hm3) hes hbm hmk hL1 (hL2 _) hL3 rfl rfl rfl ?_
  rw [set_old hm3]
  refine WL.nil ?_
  refine W.seq (W.region ?_)
  refine z_p ?_
  refine WL.nil ?_
  have hjN : j < N := by rw [← hN]; exact (List.getElem?_eq_some_iff.1 hj').1
  have hmN : m < N := by rw [← hN]; exact (List.getElem?_eq_some_iff.1 hm).1
  refine W.ret ⟨.inl rfl, _, rfl, sd (h2 hc0) (((hO.own j _ _ _ _).set (fun cs _ _ _ h => ?_)).kv m _ _) (by simp only [List.length_set]; exact hN) hS rfl rfl hK⟩
  simp only [bkO, AObj.cells.injEq] at h
  rw [← h.1, List.length_set]
  simp [scopedL, AV.inside, hN, hjN, hmN]
end
end Go.Proofs.YtehoobhbginahaaGreatDoor

set_option linter.unusedVariables false
set_option linter.unusedSimpArgs false
namespace Go.Proofs.YtehoobhbginahaaGreatDoor
open Go Go.Lens
theorem postE_bad {l : List En} {x : En} (h : x.chart ≠ 0) : postE l x = x.chart := by rw [postE, if_pos h]
theorem postE_nil {x : En} (h : x.chart = 0) : postE [] x = 0 := by rw [postE, if_neg (by simpa using h)]; rfl
theorem postE_last {l : List En} {x p : En} (h : x.chart = 0) (hp : l.getLast? = some p) : postE l x = if cmpD x.y x.m x.d p.y p.m p.d < 0 then 12 else 0 := by
 rw [postE, if_neg (by simpa using h), hp]
theorem GoodL.snoc {l : List En} {x : En} (h : GoodL l) (hx : x.chart = 0) : GoodL (l ++ [x]) := by
 intro y hy
 rcases List.mem_append.1 hy with hy | hy
 ·exact h y hy
 ·rw [List.mem_singleton.1 hy]; exact hx
theorem Bk.bk {m j : Nat} {l : List En} {X Y Z : AObj} (h : Bk m j l X Y Z) : ∃ cv es, X = bkO cv m ∧ Y = .kv .i64 es ∧ KV es (bal l) := by
 cases h with
 | clip es hes hg => exact ⟨_, es, rfl, rfl, hes⟩
 | own es ver hes hg hl => exact ⟨_, es, rfl, rfl, hes⟩
theorem Bk.good {m j : Nat} {l : List En} {X Y Z : AObj} (h : Bk m j l X Y Z) : GoodL l := by cases h <;> assumption
theorem Bk.new (m j : Nat) : Bk m j [] (bkO (.clip [] 0) m) (.kv .i64 []) .slot := Bk.clip [] KV.nil (fun x h => by cases h)
section
variable {nt : Nat} {w0 : World} {k : Nat} {H0 : View} {ln : Nat → Nat} {hk : ∀ o, o < k → H0.blk o < w0.heap.size} {hj : ∀ x o, x < k → o < k → H0.blk x = H0.blk o → x = o} {sv : List (Array Value × List (Nat × AV))}
  {ops : Array Oper} {o : Oper} {rest : List Oper} {env : List (Nat × AV)} {objs : List AObj} {Q : Exit → St → Prop} {x : Operand} {xs : Array Operand} {ts : Array TypeId} {d b m j : Nat}
theorem post_si {l : List En} {X Y Z : AObj} (e : En) (hB : Bk m j l X Y Z) (hop : o.op = .call { callee := .value x, args := xs, argTypes := ts }) (hx : ev ⟨env, objs⟩ x = some (.func (.func 10) [] [])) (hxs : evL ⟨env, objs⟩ xs.toList = some [.ptr b 0 0, e.av])
  (hb : objs[b]? = some X) (hm : objs[m]? = some Y) (hj' : objs[j]? = some Z) (hbm : b ≠ m) (hbj : b ≠ j) (hmj : m ≠ j) (hmk : k ≤ m) (hjk : k ≤ j) (hll : l.length ≤ 1000000) (hs : e.am.length ≤ 9223372036854775807)
  (hg : gd ops ⟨env, objs⟩ o = some true) (hd : o.dst = some d) (hlt : Nat.blt d nt = true)
  (h1 : postE l e ≠ 0 → WL ⟨Tryz.prog, tab, tab_ok, nt, w0, k, H0, ln, hk, hj, sv⟩ ops rest ⟨(d, .int .i64 (postE l e)) :: env, objs⟩ Q)
  (h2 : postE l e = 0 → ∀ X' Y' Z', Bk m j (l ++ [e]) X' Y' Z' → WL ⟨Tryz.prog, tab, tab_ok, nt, w0, k, H0, ln, hk, hj, sv⟩ ops rest ⟨(d, .int .i64 0) :: env, ((objs.set j Z').set b X').set m Y'⟩ Q) :
  WL ⟨Tryz.prog, tab, tab_ok, nt, w0, k, H0, ln, hk, hj, sv⟩ ops (o :: rest) ⟨env, objs⟩ Q := by
 by_cases he : e.chart = 0
 ·cases hB with
  | clip es hes hgl =>
   have key : Bk m j (l ++ [e]) (bkO (.sl j 1 0 (l.length + 1) true) m) (.kv .i64 (cntE es (bal l) e.db e.cr (amZ e.am))) (.cells (ensAV (l ++ [e])) 1 6 true (some 34)) := by
    have := Bk.own (m := m) (j := j) (l := l ++ [e]) _ 1 (bal_snoc l e ▸ hes.cnt e.db e.cr (amZ e.am)) (hgl.snoc he) (by simp)
    rw [List.length_append] at this
    exact this
   by_cases hl : l = []
   ·subst hl
    exact post_clip0 e hop hx hxs hb hm hj' hjk hes hbm hbj hmj hmk hll hgl rfl hs he hg hd hlt (h2 (postE_nil he) _ _ _ key)
   ·obtain ⟨p, hp⟩ : ∃ p, l.getLast? = some p := ⟨l.getLast hl, List.getLast?_eq_some_getLast hl⟩
    refine post_clip e p hl hop hx hxs hb hm hj' hjk hes hbm hbj hmj hmk hll hgl hp hs he hg hd hlt (fun hc => ?_) (fun hc => h2 (by rw [postE_last he hp, if_neg hc]) _ _ _ key)
    have e1 : postE l e = 12 := by rw [postE_last he hp, if_pos hc]
    have := h1 (by rw [e1]; decide)
    rw [e1] at this; exact this
  | own es ver hes hgl hl =>
   have key : Bk m j (l ++ [e]) (bkO (.sl j (ver + 1) 0 (l.length + 1) true) m) (.kv .i64 (cntE es (bal l) e.db e.cr (amZ e.am))) (.cells (ensAV (l ++ [e])) (ver + 1) 6 true (some 34)) := by
    have := Bk.own (m := m) (j := j) (l := l ++ [e]) _ (ver + 1) (bal_snoc l e ▸ hes.cnt e.db e.cr (amZ e.am)) (hgl.snoc he) (by simp)
    rw [List.length_append] at this
    exact this
   obtain ⟨p, hp⟩ : ∃ p, l.getLast? = some p := ⟨l.getLast hl, List.getLast?_eq_some_getLast hl⟩
   refine post_own e p hl hop hx hxs hb hm hj' hes hbm hbj hmj hmk hll hgl hp hs he hg hd hlt (fun hc => ?_) (fun hc => h2 (by rw [postE_last he hp, if_neg hc]) _ _ _ key)
   have e1 : postE l e = 12 := by rw [postE_last he hp, if_pos hc]
   have := h1 (by rw [e1]; decide)
   rw [e1] at this; exact this
 ·obtain ⟨cv, es, rfl, rfl, _⟩ := hB.bk
  have := h1 (by rw [postE_bad he]; exact he)
  rw [postE_bad he] at this
  exact post_bad e hop hx hxs hb hs he hg hd hlt this
end
end Go.Proofs.YtehoobhbginahaaGreatDoor

set_option linter.unusedVariables false
set_option linter.unusedSimpArgs false
namespace Go.Lens
open Go Go.RowKit
theorem v_eqnil_sl {C : Ctx} {o : Oper} {st : St} {t t' e : TypeId} {x : Operand} {y : Ty} {ob ver off n esz : Nat} {full flat : Bool} {cs : List AV} {own : Option TypeId} (hop : o.op = .binOp .eql t x (.const (.slice none 0 0)) t')
  (hx : ev st x = some (.sl ob ver off n full)) (hob : st.objs[ob]? = some (.cells cs ver esz flat own)) (hy : C.T.at t = some y) (hk : y.k = .slice e) : VStep C o st (.bool false) st.objs := by
 refine VStep.of_pure fun H a w hi => ?_
 obtain ⟨d, i, hdd, _, hkd, _⟩ := C.ty hy
 rw [hk] at hkd
 obtain rfl := kOf_slice hkd
 obtain ⟨hv, _⟩ := hi.objs.rel ob _ hob
 obtain ⟨_, _, h3⟩ := ev_rel hi hx
 obtain ⟨ad, c, h1, _⟩ := h3 hv
 refine ⟨.bool false, ?_, rfl⟩
 have hc0 : a.eval (.const (.slice none 0 0)) = .slice none 0 0 := rfl
 simp only [execOp, hop, h1, hc0, Sem.run_bind, eqGuard_at_slice, Sem.run_pure, Result.andThen_ok, binOp, run_equal_slice_nil w t e (some ad) n c hdd]
 rfl
theorem v_lastB {C : Ctx} {o : Oper} {env : List (Nat × AV)} {O l : List AObj} {N n : Nat} {X : AObj} (hN : O.length = N) (h : VStep C o ⟨env, O ++ l⟩ (.sl (O ++ l).length 0 0 n true) ((O ++ l) ++ [X])) :
  VStep C o ⟨env, O ++ l⟩ (.sl (N + l.length) 0 0 n true) (O ++ (l ++ [X])) := by
 rw [List.length_append, hN, List.append_assoc] at h
 exact h
theorem WL.get {C : Ctx} {ops : Array Oper} {r : List Oper} {st : St} {Q : Exit → St → Prop} (h : ScO st.objs → ScE st.objs.length st.env → ScS st.objs.length C.sv → C.k ≤ st.objs.length → WL C ops r st Q) : WL C ops r st Q := by
 rintro a w ⟨H, hi⟩
 have hn := hi.objs.n
 refine h (fun o cs ver esz own ho => ?_) (fun t av ht => ?_) (fun p hp t av ht => ?_) hi.klen a w ⟨H, hi⟩
 ·obtain ⟨_, _, vs, c, e, _, h4, _⟩ := hi.objs.rel o _ ho
  rw [← hn]; exact RelL.scoped cs h4
 ·rw [← hn]; exact RelV.scoped av (hi.env t av ht)
 ·rw [← hn]; exact RelV.scoped av (hi.saved p hp t av ht)
/-- an own slice at the end of the objects is from now on only read -/
theorem WL.settle {C : Ctx} {ops : Array Oper} {r : List Oper} {env : List (Nat × AV)} {objs : List AObj} {Q : Exit → St → Prop} {d n esz ver : Nat} {full : Bool} {cs : List AV} {e : TypeId} (hlen : cs.length = n * esz) (hO : ScO objs) (hE : ScE objs.length env) (hS : ScS objs.length C.sv) (hK : C.k ≤ objs.length)
  (h : WL C ops r ⟨(d, .row cs n) :: env, objs⟩ Q) : WL C ops r ⟨(d, .sl objs.length ver 0 n full) :: env, objs ++ [.cells cs ver esz true (some e)]⟩ Q := by
 have e1 : look ((d, AV.sl objs.length ver 0 n full) :: env) d = some (.sl objs.length ver 0 n full) := by simp [look]
 have e2 : (objs ++ [AObj.cells cs ver esz true (some e)])[objs.length]? = some (AObj.cells cs ver esz true (some e)) := by
  rw [List.getElem?_append_right (Nat.le_refl _)]; simp
 refine WL.seal d e1 e2 (by rw [Nat.zero_add, hlen]; exact Nat.le_refl _) ?_
 rw [List.drop_zero, List.take_of_length_le (by rw [hlen]; exact Nat.le_refl _), List.set_append_right _ _ (Nat.le_refl _), Nat.sub_self]
 refine WL.drop h (fun t v hl => ?_) hO (hE.cons rfl) hS hK
 simp only [look] at hl ⊢
 split
 ·rename_i q; rw [if_pos q] at hl; exact hl
 ·rename_i q; rw [if_neg q] at hl; exact hl
/-- of the newest value less is known -/
theorem WL.resub {C : Ctx} {ops : Array Oper} {r : List Oper} {env : List (Nat × AV)} {objs : List AObj} {Q : Exit → St → Prop} {d : Nat} {c c' : AV} (hs : Sub c c') (h : WL C ops r ⟨(d, c') :: env, objs⟩ Q) : WL C ops r ⟨(d, c) :: env, objs⟩ Q := by
 have e1 : look ((d, c) :: env) d = some c := by simp [look]
 refine WL.sub d e1 hs ?_
 refine fun a w hr => h a w (hr.env fun t v hl => ?_)
 simp only [look] at hl ⊢
 split
 ·rename_i q; rw [if_pos q] at hl; exact hl
 ·rename_i q; rw [if_neg q] at hl; exact hl
mutual
theorem AV.inside_mono {k k' : Nat} (h : k ≤ k') : ∀ (c : AV), c.inside k = true → c.inside k' = true
  | .any, _ => rfl
  | .int .., _ => rfl
  | .bool .., _ => rfl
  | .str .., _ => rfl
  | .nilp, _ => rfl
  | .nils, _ => rfl
  | .nilFunc, _ => rfl
  | .nilm, _ => rfl
  | .row .., _ => rfl
  | .clip .., _ => rfl
  | .radr .., _ => rfl
  | .ptr .., hp => by simp only [AV.inside, decide_eq_true_eq] at *; omega
  | .sl .., hp => by simp only [AV.inside, decide_eq_true_eq] at *; omega
  | .mp .., hp => by simp only [AV.inside, decide_eq_true_eq] at *; omega
  | .agg cs, hp => scopedL_mono h cs hp
  | .tup cs, hp => scopedL_mono h cs hp
  | .func _ x y, hp => by
    simp only [AV.inside, Bool.and_eq_true] at *
    exact ⟨scopedL_mono h x hp.1, scopedL_mono h y hp.2⟩
theorem scopedL_mono {k k' : Nat} (h : k ≤ k') : ∀ (cs : List AV), scopedL k cs = true → scopedL k' cs = true
  | [], _ => rfl
  | c :: cs, hp => by
    simp only [scopedL, Bool.and_eq_true] at *
    exact ⟨AV.inside_mono h c hp.1, scopedL_mono h cs hp.2⟩
end
theorem ScE.mono {n n' : Nat} {env : List (Nat × AV)} (h : ScE n env) (hn : n ≤ n') : ScE n' env := fun t av hl => AV.inside_mono hn av (h t av hl)
theorem ScS.mono {n n' : Nat} {sv : List (Array Value × List (Nat × AV))} (h : ScS n sv) (hn : n ≤ n') : ScS n' sv := fun p hp => (h p hp).mono hn
theorem ScO.app {O l : List AObj} (h : ScO O) (hl : ∀ (o : Nat) (cs : List AV) (ver esz : Nat) (own : Option TypeId), l[o]? = some (AObj.cells cs ver esz false own) → scopedL (O.length + l.length) cs = true) : ScO (O ++ l) := by
 intro o cs ver esz own ho
 rw [List.length_append]
 rcases Nat.lt_or_ge o O.length with h1 | h1
 ·rw [List.getElem?_append_left h1] at ho
  exact scopedL_mono (by omega) cs (h o cs ver esz own ho)
 ·rw [List.getElem?_append_right h1] at ho
  exact hl _ cs ver esz own ho
end Go.Lens

set_option linter.unusedVariables false
set_option linter.unusedSimpArgs false
namespace Go.Proofs.YtehoobhbginahaaGreatDoor
open Go Go.Lens
theorem ensAV_one (l : List En) : ∀ d ∈ ensAV l, d.oneB = true := by
 intro d hd
 simp only [ensAV, List.mem_flatMap, En.cells] at hd
 obtain ⟨x, _, hx⟩ := hd
 simp at hx
 rcases hx with rfl | rfl | rfl | rfl | rfl | rfl <;> rfl
section
variable {nt : Nat} {w0 : World} {k : Nat} {H0 : View} {ln : Nat → Nat} {hk : ∀ o, o < k → H0.blk o < w0.heap.size} {hj : ∀ x o, x < k → o < k → H0.blk x = H0.blk o → x = o} {sv : List (Array Value × List (Nat × AV))}
  {ops : Array Oper} {o : Oper} {rest : List Oper} {env : List (Nat × AV)} {objs : List AObj} {Q : Exit → St → Prop} {x : Operand} {xs : Array Operand} {ts : Array TypeId} {d b m j : Nat}
theorem clone_own {l : List En} {ver : Nat} {full : Bool} (hop : o.op = .call { callee := .value x, args := xs, argTypes := ts }) (hx : ev ⟨env, objs⟩ x = some (.func (.func 42) [] [])) (hxs : evL ⟨env, objs⟩ xs.toList = some [.sl j ver 0 l.length full])
  (hj' : objs[j]? = some (.cells (ensAV l) ver 6 true (some 34))) (hll : l.length ≤ 1000000) (hg : gd ops ⟨env, objs⟩ o = some true) (hd : o.dst = some d) (hlt : Nat.blt d nt = true)
  (h2 : WL ⟨Tryz.prog, tab, tab_ok, nt, w0, k, H0, ln, hk, hj, sv⟩ ops rest ⟨(d, .sl objs.length 1 0 l.length true) :: env, objs ++ [.cells (ensAV l) 1 6 true (some 34)]⟩ Q) :
  WL ⟨Tryz.prog, tab, tab_ok, nt, w0, k, H0, ln, hk, hj, sv⟩ ops (o :: rest) ⟨env, objs⟩ Q := by
 refine si Tryz.func42 rfl rfl rfl rfl hop hx hxs rfl rfl hg hd hlt fun tm => W.base ?_
 generalize hN : objs.length = N at *
 refine W.seq (W.region ?_)
 refine z_p ?_
 refine WL.nil ?_
 refine W.seq (W.seq (W.region ?_))
 refine z_p ?_
 refine sp (v_eqnil_sl rfl rfl (get_old hj') rfl rfl) rfl rfl rfl ?_
 refine WL.nil ?_
 refine W.cond_false rfl (W.skip ?_)
 refine W.seq (W.region ?_)
 refine sn (v_lastB hN (v_buildSlice rfl rfl rfl rfl rfl rfl rfl (Nat.le_of_ble_eq_true rfl) (Nat.le_of_ble_eq_true rfl) rfl rfl rfl rfl)) (rfl : _ = AV.sl (N + 0) 0 0 0 true) rfl rfl rfl rfl ?_
 refine z_p ?_
 refine sn (v_append_own (n := 0) (m := l.length) (ds := ensAV l) rfl rfl (get_new hN rfl) rfl rfl rfl rfl rfl rfl rfl (by decide) (.inr (.inr ⟨j, ver, 0, full, ensAV l, _, rfl, get_old hj', by rw [List.drop_zero, List.take_of_length_le (by rw [ensAV_length]; exact Nat.le_refl _)], by rw [ensAV_length]; exact Nat.le_of_eq (Nat.zero_add _)⟩)) (ensAV_one l) (by omega) (show (0 + l.length) * 56 ≤ 140737488355328 by omega)) (show AV.sl (N + 0) 1 0 (0 + l.length) true = AV.sl N 1 0 l.length true by rw [Nat.zero_add]; rfl) (set_new hN) rfl rfl rfl ?_
 refine z_p ?_
 refine WL.nil ?_
 exact W.ret ⟨.inl rfl, _, rfl, h2⟩
theorem clone_row {l : List En} (hop : o.op = .call { callee := .value x, args := xs, argTypes := ts }) (hx : ev ⟨env, objs⟩ x = some (.func (.func 42) [] [])) (hxs : evL ⟨env, objs⟩ xs.toList = some [.row (ensAV l) l.length])
  (hll : l.length ≤ 1000000) (hg : gd ops ⟨env, objs⟩ o = some true) (hd : o.dst = some d) (hlt : Nat.blt d nt = true)
  (h1 : l = [] → WL ⟨Tryz.prog, tab, tab_ok, nt, w0, k, H0, ln, hk, hj, sv⟩ ops rest ⟨(d, .nils) :: env, objs⟩ Q)
  (h2 : WL ⟨Tryz.prog, tab, tab_ok, nt, w0, k, H0, ln, hk, hj, sv⟩ ops rest ⟨(d, .sl objs.length 1 0 l.length true) :: env, objs ++ [.cells (ensAV l) 1 6 true (some 34)]⟩ Q) :
  WL ⟨Tryz.prog, tab, tab_ok, nt, w0, k, H0, ln, hk, hj, sv⟩ ops (o :: rest) ⟨env, objs⟩ Q := by
 refine si Tryz.func42 rfl rfl rfl rfl hop hx hxs rfl rfl hg hd hlt fun tm => W.base ?_
 generalize hN : objs.length = N at *
 refine W.seq (W.region ?_)
 refine z_p ?_
 refine WL.nil ?_
 refine W.seq (W.seq (W.region ?_))
 refine z_p ?_
 refine snil rfl rfl rfl rfl rfl rfl rfl fun bb hbb => ?_
 refine WL.nil ?_
 refine W.cond rfl (fun hc => ?_) (fun hc => ?_)
 ·skip
  refine W.seq (W.region ?_)
  refine z_p ?_
  refine WL.nil ?_
  refine W.ret ⟨.inl rfl, _, rfl, ?_⟩
  show WL _ _ _ ⟨(d, AV.nils) :: env, objs ++ []⟩ Q
  rw [List.append_nil]
  exact h1 (by
   have := hbb hc
   cases l with
   | nil => rfl
   | cons x r => simp [ensAV, En.cells] at this)
 ·refine W.skip ?_
  refine W.seq (W.region ?_)
  refine sn (v_lastB hN (v_buildSlice rfl rfl rfl rfl rfl rfl rfl (Nat.le_of_ble_eq_true rfl) (Nat.le_of_ble_eq_true rfl) rfl rfl rfl rfl)) (rfl : _ = AV.sl (N + 0) 0 0 0 true) rfl rfl rfl rfl ?_
  refine z_p ?_
  refine sn (v_append_own (n := 0) (m := l.length) (ds := ensAV l) rfl rfl (get_new hN rfl) rfl rfl rfl rfl rfl rfl rfl (by decide) (.inr (.inl ⟨rfl, ensAV_length l⟩)) (ensAV_one l) (by omega) (show (0 + l.length) * 56 ≤ 140737488355328 by omega)) (show AV.sl (N + 0) 1 0 (0 + l.length) true = AV.sl N 1 0 l.length true by rw [Nat.zero_add]; rfl) (set_new hN) rfl rfl rfl ?_
  refine z_p ?_
  refine WL.nil ?_
  exact W.ret ⟨.inl rfl, _, rfl, h2⟩
theorem entries_si {l : List En} {X Y Z : AObj} (hB : Bk m j l X Y Z) (hop : o.op = .call { callee := .value x, args := xs, argTypes := ts }) (hx : ev ⟨env, objs⟩ x = some (.func (.func 17) [] [])) (hxs : evL ⟨env, objs⟩ xs.toList = some [.ptr b 0 0])
  (hb : objs[b]? = some X) (hj' : objs[j]? = some Z) (hll : l.length ≤ 1000000) (hg : gd ops ⟨env, objs⟩ o = some true) (hd : o.dst = some d) (hlt : Nat.blt d nt = true)
  (h1 : l = [] → WL ⟨Tryz.prog, tab, tab_ok, nt, w0, k, H0, ln, hk, hj, sv⟩ ops rest ⟨(d, .nils) :: env, objs⟩ Q)
  (h2 : WL ⟨Tryz.prog, tab, tab_ok, nt, w0, k, H0, ln, hk, hj, sv⟩ ops rest ⟨(d, .sl objs.length 1 0 l.length true) :: env, objs ++ [.cells (ensAV l) 1 6 true (some 34)]⟩ Q) :
  WL ⟨Tryz.prog, tab, tab_ok, nt, w0, k, H0, ln, hk, hj, sv⟩ ops (o :: rest) ⟨env, objs⟩ Q := by
 refine si Tryz.func17 rfl rfl rfl rfl hop hx hxs rfl rfl hg hd hlt fun tm => W.base ?_
 generalize hN : objs.length = N at *
 cases hB with
 | clip es hes hgl =>
  refine W.seq (W.region ?_)
  refine z_p ?_
  refine WL.nil ?_
  refine W.seq (W.seq (W.region ?_))
  refine z_p ?_
  refine sp (v_isnil_ptr rfl rfl (get_old hb) rfl rfl) rfl rfl rfl ?_
  refine WL.nil ?_
  refine W.cond_false rfl (W.skip ?_)
  refine W.seq (W.region ?_)
  refine z_p ?_
  first | refine z_p ?_ | refine sp (v_nilCheck rfl rfl (get_new (by first | assumption | (simp only [List.length_set]; assumption)) rfl)) rfl rfl rfl ?_ | refine sp (v_nilCheck rfl rfl (get_old hb)) rfl rfl rfl ?_
  first | refine sp (v_fieldAddr rfl rfl (get_new (by first | assumption | (simp only [List.length_set]; assumption)) rfl) rfl rfl rfl rfl (by decide)) rfl rfl rfl ?_ | refine sp (v_fieldAddr rfl rfl (get_old hb) rfl rfl rfl rfl (by decide)) rfl rfl rfl ?_ | refine z_g ?_
  refine sp (VStep.sub (v_load rfl rfl (get_old hb) rfl rfl) (Sub.clip_row _ _)) rfl rfl rfl ?_
  refine clone_row rfl rfl rfl hll rfl rfl rfl (fun hl => ?_) ?_
  ·refine z_p ?_
   refine WL.nil (W.ret ⟨.inl rfl, _, rfl, ?_⟩)
   show WL ⟨Tryz.prog, tab, tab_ok, nt, w0, k, H0, ln, hk, hj, sv⟩ ops rest ⟨(d, AV.nils) :: env, objs ++ []⟩ Q
   rw [List.append_nil]
   exact h1 hl
  rw [List.append_nil, hN]
  refine z_p ?_
  refine WL.nil ?_
  exact W.ret ⟨.inl rfl, _, rfl, h2⟩
 | own es ver hes hgl hl =>
  refine W.seq (W.region ?_)
  refine z_p ?_
  refine WL.nil ?_
  refine W.seq (W.seq (W.region ?_))
  refine z_p ?_
  refine sp (v_isnil_ptr rfl rfl (get_old hb) rfl rfl) rfl rfl rfl ?_
  refine WL.nil ?_
  refine W.cond_false rfl (W.skip ?_)
  refine W.seq (W.region ?_)
  refine z_p ?_
  first | refine z_p ?_ | refine sp (v_nilCheck rfl rfl (get_new (by first | assumption | (simp only [List.length_set]; assumption)) rfl)) rfl rfl rfl ?_ | refine sp (v_nilCheck rfl rfl (get_old hb)) rfl rfl rfl ?_
  first | refine sp (v_fieldAddr rfl rfl (get_new (by first | assumption | (simp only [List.length_set]; assumption)) rfl) rfl rfl rfl rfl (by decide)) rfl rfl rfl ?_ | refine sp (v_fieldAddr rfl rfl (get_old hb) rfl rfl rfl rfl (by decide)) rfl rfl rfl ?_ | refine z_g ?_
  first | refine sp (v_load rfl rfl (get_new (by first | assumption | (simp only [List.length_set]; assumption)) rfl) rfl rfl) rfl rfl rfl ?_ | refine sp (v_load rfl rfl (get_old hb) rfl rfl) rfl rfl rfl ?_ | refine z_r ?_
  refine clone_own rfl rfl rfl (get_old hj') hll rfl rfl rfl ?_
  rw [List.append_nil, hN]
  refine z_p ?_
  refine WL.nil ?_
  exact W.ret ⟨.inl rfl, _, rfl, h2⟩
/-- the entries, to be read only -/
theorem entriesR_si {l : List En} {X Y Z : AObj} (hB : Bk m j l X Y Z) (hop : o.op = .call { callee := .value x, args := xs, argTypes := ts }) (hx : ev ⟨env, objs⟩ x = some (.func (.func 17) [] [])) (hxs : evL ⟨env, objs⟩ xs.toList = some [.ptr b 0 0])
  (hb : objs[b]? = some X) (hj' : objs[j]? = some Z) (hll : l.length ≤ 1000000) (hg : gd ops ⟨env, objs⟩ o = some true) (hd : o.dst = some d) (hlt : Nat.blt d nt = true)
  (h : WL ⟨Tryz.prog, tab, tab_ok, nt, w0, k, H0, ln, hk, hj, sv⟩ ops rest ⟨(d, .row (ensAV l) l.length) :: env, objs⟩ Q) : WL ⟨Tryz.prog, tab, tab_ok, nt, w0, k, H0, ln, hk, hj, sv⟩ ops (o :: rest) ⟨env, objs⟩ Q := by
 refine WL.get fun hO hE hS hK => ?_
 refine entries_si hB hop hx hxs hb hj' hll hg hd hlt (fun hl => ?_) ?_
 ·subst hl
  exact WL.resub Sub.nils h
 ·exact WL.settle (ensAV_length l) hO hE hS hK h
theorem len_si {l : List En} {X Y Z : AObj} (hB : Bk m j l X Y Z) (hop : o.op = .call { callee := .value x, args := xs, argTypes := ts }) (hx : ev ⟨env, objs⟩ x = some (.func (.func 21) [] [])) (hxs : evL ⟨env, objs⟩ xs.toList = some [.ptr b 0 0])
  (hb : objs[b]? = some X) (hj' : objs[j]? = some Z) (hll : l.length ≤ 1000000) (hg : gd ops ⟨env, objs⟩ o = some true) (hd : o.dst = some d) (hlt : Nat.blt d nt = true)
  (h : WL ⟨Tryz.prog, tab, tab_ok, nt, w0, k, H0, ln, hk, hj, sv⟩ ops rest ⟨(d, .int .i64 l.length) :: env, objs⟩ Q) : WL ⟨Tryz.prog, tab, tab_ok, nt, w0, k, H0, ln, hk, hj, sv⟩ ops (o :: rest) ⟨env, objs⟩ Q := by
 refine si Tryz.func21 rfl rfl rfl rfl hop hx hxs rfl rfl hg hd hlt fun tm => ?_
 refine W.seq (W.region ?_)
 refine z_p ?_
 refine WL.nil ?_
 refine W.seq (W.region ?_)
 refine z_p ?_
 refine entriesR_si hB rfl rfl rfl hb hj' hll rfl rfl rfl ?_
 first | refine z_n ?_ | refine z_m ?_ | refine z_k ?_
 refine z_p ?_
 refine WL.nil ?_
 exact W.ret ⟨.inl rfl, _, rfl, h⟩
end
end Go.Proofs.YtehoobhbginahaaGreatDoor

set_option linter.unusedVariables false
set_option linter.unusedSimpArgs false
namespace Go.Proofs.YtehoobhbginahaaGreatDoor
open Go Go.Lens
/-- the entries up to a day, posted one behind the other -/
def uptoS (y m d : Int) (acc : List En) (x : En) : List En := if cmpD x.y x.m x.d y m d ≤ 0 then (if postE acc x = 0 then acc ++ [x] else acc) else acc
def uptoF (y m d : Int) (l : List En) : List En := l.foldl (uptoS y m d) []
theorem uptoF_snoc (y m d : Int) (l : List En) (x : En) : uptoF y m d (l ++ [x]) = uptoS y m d (uptoF y m d l) x := by simp [uptoF]
theorem Bk.scoped {m j n : Nat} {l : List En} {cs : List AV} {ver esz : Nat} {own : Option TypeId} {Y Z : AObj} (h : Bk m j l (.cells cs ver esz false own) Y Z) (hm : m < n) (hj : j < n) : scopedL n cs = true := by
 generalize hX : AObj.cells cs ver esz false own = X at h
 cases h <;> (simp only [bkO, AObj.cells.injEq] at hX; rw [hX.1]; simp [scopedL, AV.inside, hm, hj])
theorem uptoF_len (y m d : Int) : ∀ (l acc : List En), (l.foldl (uptoS y m d) acc).length ≤ acc.length + l.length
 | [], acc => Nat.le_refl _
 | x :: r, acc => by
  have h := uptoF_len y m d r (uptoS y m d acc x)
  have h2 : (uptoS y m d acc x).length ≤ acc.length + 1 := by
   simp only [uptoS]
   split
   ·split <;> simp
   ·simp
  simp only [List.foldl_cons, List.length_cons] at *
  omega
theorem ensAV_at {l : List En} {i : Nat} (h : i < l.length) : ∃ r, (ensAV l).drop (i * 6) = l[i].cells ++ r := by
 refine ⟨ensAV (l.drop (i + 1)), ?_⟩
 have e1 : l = l.take i ++ l.drop i := (List.take_append_drop i l).symm
 have e2 : ensAV l = ensAV (l.take i) ++ ensAV (l.drop i) := by
  conv => lhs; rw [e1]
  simp only [ensAV, List.flatMap_append]
 have e3 : (ensAV (l.take i)).length = i * 6 := by rw [ensAV_length, List.length_take, Nat.min_eq_left (Nat.le_of_lt h)]
 rw [e2, ← e3, List.drop_left, List.drop_eq_getElem_cons h]
 simp only [ensAV, List.flatMap_cons]
theorem loadc_en {cs : List AV} {r : List AV} {e : En} {i : Nat} {y : Ty} (h : cs.drop i = e.cells ++ r) (hk : y.k.agg = true) (hs : y.size = 6) : loadc y cs i = some e.av := by
 have hl : cs.length - i = 6 + r.length := by rw [← List.length_drop, h]; simp [En.cells]; omega
 rw [loadc, hk, if_pos rfl, h, hs, if_pos (by omega)]
 rfl
theorem loadc_enr {cs : List AV} {r : List AV} {e : En} {i : Nat} {y : Ty} (h : cs.drop i = e.cells ++ r) (hk : y.k.agg = true) (hs : y.size = 6) : loadc y (cs.drop i) 0 = some e.av :=
 loadc_en (r := r) (by rw [List.drop_zero]; exact h) hk hs
section
variable {nt : Nat} {w0 : World} {k : Nat} {H0 : View} {ln : Nat → Nat} {hk : ∀ o, o < k → H0.blk o < w0.heap.size} {hj : ∀ x o, x < k → o < k → H0.blk x = H0.blk o → x = o} {sv : List (Array Value × List (Nat × AV))}
  {ops : Array Oper} {o : Oper} {rest : List Oper} {env : List (Nat × AV)} {objs : List AObj} {Q : Exit → St → Prop} {x : Operand} {xs : Array Operand} {ts : Array TypeId} {d b m j : Nat}
theorem new_siB {O l : List AObj} {N i0 : Nat} (hN : O.length = N) (hi : l.length = i0) (hop : o.op = .call { callee := .value x, args := xs, argTypes := ts }) (hx : ev ⟨env, O ++ l⟩ x = some (.func (.func 7) [] [])) (hxs : evL ⟨env, O ++ l⟩ xs.toList = some [])
  (hg : gd ops ⟨env, O ++ l⟩ o = some true) (hd : o.dst = some d) (hlt : Nat.blt d nt = true)
  (h : WL ⟨Tryz.prog, tab, tab_ok, nt, w0, k, H0, ln, hk, hj, sv⟩ ops rest ⟨(d, .ptr (N + (i0 + 1)) 0 0) :: env, O ++ (l ++ [.kv .i64 [], bkO (.clip [] 0) (N + i0), .slot])⟩ Q) :
  WL ⟨Tryz.prog, tab, tab_ok, nt, w0, k, H0, ln, hk, hj, sv⟩ ops (o :: rest) ⟨env, O ++ l⟩ Q := by
 refine new_si hop hx hxs hg hd hlt ?_
 rw [List.length_append, hN, hi, List.append_assoc]
 exact h
theorem post_any {l : List En} {X Y Z : AObj} (e : En) (hB : Bk m j l X Y Z) (hop : o.op = .call { callee := .value x, args := xs, argTypes := ts }) (hx : ev ⟨env, objs⟩ x = some (.func (.func 10) [] [])) (hxs : evL ⟨env, objs⟩ xs.toList = some [.ptr b 0 0, e.av])
  (hb : objs[b]? = some X) (hm : objs[m]? = some Y) (hj' : objs[j]? = some Z) (hbm : b ≠ m) (hbj : b ≠ j) (hmj : m ≠ j) (hmk : k ≤ m) (hjk : k ≤ j) (hll : l.length ≤ 1000000) (hs : e.am.length ≤ 9223372036854775807)
  (hg : gd ops ⟨env, objs⟩ o = some true) (hd : o.dst = some d) (hlt : Nat.blt d nt = true)
  (h : ∀ X' Y' Z', Bk m j (if postE l e = 0 then l ++ [e] else l) X' Y' Z' → WL ⟨Tryz.prog, tab, tab_ok, nt, w0, k, H0, ln, hk, hj, sv⟩ ops rest ⟨(d, .int .i64 (postE l e)) :: env, ((objs.set j Z').set b X').set m Y'⟩ Q) :
  WL ⟨Tryz.prog, tab, tab_ok, nt, w0, k, H0, ln, hk, hj, sv⟩ ops (o :: rest) ⟨env, objs⟩ Q := by
 refine post_si e hB hop hx hxs hb hm hj' hbm hbj hmj hmk hjk hll hs hg hd hlt (fun hp => ?_) (fun hp X' Y' Z' hB' => ?_)
 ·have := h X Y Z (by rw [if_neg hp]; exact hB)
  rw [← set_self hj', ← set_self hb, ← set_self hm] at this
  exact this
 ·have := h X' Y' Z' (by rw [if_pos hp]; exact hB')
  rw [hp] at this
  exact this
theorem upto_si {l : List En} {X Y Z : AObj} (y mo da : Int) (hB : Bk m j l X Y Z) (hop : o.op = .call { callee := .value x, args := xs, argTypes := ts }) (hx : ev ⟨env, objs⟩ x = some (.func (.func 18) [] [])) (hxs : evL ⟨env, objs⟩ xs.toList = some [.ptr b 0 0, dateAV y mo da])
  (hb : objs[b]? = some X) (hj0 : objs[j]? = some Z) (hll : l.length ≤ 1000000) (hsz : ∀ e ∈ l, e.am.length ≤ 9223372036854775807) (hg : gd ops ⟨env, objs⟩ o = some true) (hd : o.dst = some d) (hlt : Nat.blt d nt = true)
  (h : ∀ X' Y' Z', Bk (objs.length + 1) (objs.length + 3) (uptoF y mo da l) X' Y' Z' → WL ⟨Tryz.prog, tab, tab_ok, nt, w0, k, H0, ln, hk, hj, sv⟩ ops rest ⟨(d, .ptr (objs.length + 2) 0 0) :: env, objs ++ [.cells [.int .i64 y, .int .i64 mo, .int .i64 da] 0 1 false none, Y', X', Z']⟩ Q) :
  WL ⟨Tryz.prog, tab, tab_ok, nt, w0, k, H0, ln, hk, hj, sv⟩ ops (o :: rest) ⟨env, objs⟩ Q := by
 refine si Tryz.func18 rfl rfl rfl rfl hop hx hxs rfl rfl hg hd hlt fun tm => ?_
 refine W.get fun hO hE hS hK => W.base ?_
 have hjN := (List.getElem?_eq_some_iff.1 hj0).1
 generalize hN : objs.length = N at *
 cases hB with
 | clip es hes hgl =>
  refine W.seq (W.region ?_)
  first | refine sn (a_boxB (by first | assumption | (simp only [List.length_set]; assumption)) rfl rfl (.inl rfl)) (rfl : _ = AV.ptr (N + 0) 0 0) rfl rfl rfl rfl ?_ | refine sn (a_boxB (by first | assumption | (simp only [List.length_set]; assumption)) rfl rfl (.inr ⟨trivial, rfl⟩)) (rfl : _ = AV.ptr (N + 0) 0 0) rfl rfl rfl rfl ?_
  refine z_p ?_
  refine WL.nil ?_
  refine W.seq (W.seq (W.region ?_))
  refine z_p ?_
  refine sp (v_isnil_ptr rfl rfl (get_old hb) rfl rfl) rfl rfl rfl ?_
  refine WL.nil ?_
  refine W.cond_false rfl (W.skip ?_)
  refine W.seq (W.region ?_)
  refine new_siB (i0 := 1) hN rfl rfl rfl rfl rfl rfl rfl ?_
  refine z_p ?_
  refine WL.nil ?_
  refine W.seq (W.seq (W.region ?_))
  refine z_p ?_
  first | refine z_p ?_ | refine sp (v_nilCheck rfl rfl (get_new (by first | assumption | (simp only [List.length_set]; assumption)) rfl)) rfl rfl rfl ?_ | refine sp (v_nilCheck rfl rfl (get_old hb)) rfl rfl rfl ?_
  first | refine sp (v_fieldAddr rfl rfl (get_new (by first | assumption | (simp only [List.length_set]; assumption)) rfl) rfl rfl rfl rfl (by decide)) rfl rfl rfl ?_ | refine sp (v_fieldAddr rfl rfl (get_old hb) rfl rfl rfl rfl (by decide)) rfl rfl rfl ?_ | refine z_g ?_
  refine sp (VStep.sub (v_load rfl rfl (get_old hb) rfl rfl) (Sub.clip_row _ _)) rfl rfl rfl ?_
  refine sp (v_len (n := l.length) rfl rfl rfl rfl ⟨_, rfl⟩ trivial) rfl rfl rfl ?_
  refine z_p ?_
  refine WL.nil ?_
  let S : Nat → AObj → AObj → AObj → St := fun i X' Y' Z' => ⟨[(3, .ptr (N + 0) 0 0), (5, .ptr (N + 2) 0 0), (14, .row (ensAV l) l.length), (15, .int .i64 l.length), (16, .int .i64 i)], objs ++ [.cells [.int .i64 y, .int .i64 mo, .int .i64 da] 0 1 false none, Y', X', Z']⟩
  have fit : ∀ i X' Y' Z', Bk (N + 1) (N + 3) (uptoF y mo da (l.take i)) X' Y' Z' → ScO (S i X' Y' Z').objs ∧ ScE (S i X' Y' Z').objs.length (S i X' Y' Z').env ∧ ScS (S i X' Y' Z').objs.length ((tm, env) :: sv) ∧ k ≤ (S i X' Y' Z').objs.length := by
   intro i X' Y' Z' hB'
   refine ⟨hO.app (fun o cs ver esz own ho => ?_), ScE.of ?_, hS.mono ?_, ?_⟩
   ·match o, ho with
    | 0, ho => simp at ho; obtain ⟨rfl, _⟩ := ho; rfl
    | 1, ho => cases hB' <;> simp at ho
    | 2, ho => simp at ho; subst ho; exact hB'.scoped (by simp; omega) (by simp; omega)
    | 3, ho => cases hB' <;> simp at ho
    | o + 4, ho => simp at ho
   ·simp only [S, List.length_append, List.length_cons, List.length_nil, envScoped, AV.inside, scopedL, Bool.and_true, Bool.true_and, Bool.and_eq_true, decide_eq_true_eq, hN]
    omega
   ·simp only [S, List.length_append, hN]; omega
   ·simp only [S, List.length_append, hN]; exact Nat.le_trans hK (Nat.le_add_right _ _)
  refine W.block (W.loopS (fun n st => ∃ i X' Y' Z', i ≤ l.length ∧ n = l.length - i ∧ Bk (N + 1) (N + 3) (uptoF y mo da (l.take i)) X' Y' Z' ∧ st = S i X' Y' Z') l.length ⟨0, _, _, _, Nat.zero_le _, rfl, Bk.new (N + 1) (N + 3), rfl⟩
   ⟨⟨[], (List.append_nil _).symm⟩, ⟨rfl, rfl, rfl, rfl, rfl, trivial⟩, fit 0 _ _ _ (Bk.new (N + 1) (N + 3))⟩ ?_)
  rintro _ _ ⟨i, X', Y', Z', hi, rfl, hB', rfl⟩
  by_cases hil : i < l.length
  ·obtain ⟨r, hei⟩ := ensAV_at hil
   have hne : ensAV l ≠ [] := fun e => by have := ensAV_length l; rw [e] at this; simp at this; omega
   have hts : l.take (i + 1) = l.take i ++ [l[i]] := List.take_succ_eq_append_getElem hil
   have hul : (uptoF y mo da (l.take i)).length ≤ 1000000 := by
    have := uptoF_len y mo da (l.take i) []
    simp only [List.length_nil, List.length_take] at this
    simp only [uptoF]; omega
   refine W.seq (W.region ?_)
   refine z_T (show (i : Int) < l.length by omega) ?_
   refine WL.nil ?_
   refine W.seq (W.cond_true rfl (W.skip ?_))
   refine W.seq (W.block ?_)
   refine W.seq (W.region ?_)
   refine sp (v_indexAddr_row rfl rfl rfl rfl rfl rfl (by omega) (by omega) hne) rfl rfl rfl ?_
   refine sq (v_load_radr rfl rfl rfl (loadc_enr (i := i * 6) hei rfl rfl)) (show _ = l[i].av from rfl) rfl rfl rfl ?_
   refine sn (a_allocB (by first | assumption | (simp only [List.length_set]; assumption)) rfl rfl rfl rfl) (rfl : _ = AV.ptr (N + 4) 0 0) rfl rfl rfl rfl ?_
   refine ss (a_storeA rfl rfl (get_new (by first | assumption | (simp only [List.length_set]; assumption)) rfl) rfl rfl (fun h => by cases h) rfl rfl rfl (Nat.le_of_ble_eq_true rfl)) (set_new (by first | assumption | (simp only [List.length_set]; assumption))) rfl rfl ?_
   refine WL.nil ?_
   refine W.seq (W.region ?_)
   first | refine sp (v_fieldAddr rfl rfl (get_new (by first | assumption | (simp only [List.length_set]; assumption)) rfl) rfl rfl rfl rfl (by decide)) rfl rfl rfl ?_ | refine sp (v_fieldAddr rfl rfl (get_old hb) rfl rfl rfl rfl (by decide)) rfl rfl rfl ?_ | refine z_g ?_
   first | refine sq (v_load rfl rfl (get_new (by first | assumption | (simp only [List.length_set]; assumption)) rfl) rfl rfl) (rfl : _ = AV.agg [_, _, _]) rfl rfl rfl ?_ | refine sq (v_load rfl rfl (get_old hb) rfl rfl) (rfl : _ = AV.agg [_, _, _]) rfl rfl rfl ?_ | refine z_r3 ?_
   first | refine sq (v_load rfl rfl (get_new (by first | assumption | (simp only [List.length_set]; assumption)) rfl) rfl rfl) (rfl : _ = AV.agg [_, _, _]) rfl rfl rfl ?_ | refine sq (v_load rfl rfl (get_old hb) rfl rfl) (rfl : _ = AV.agg [_, _, _]) rfl rfl rfl ?_ | refine z_r3 ?_
   refine z_c (dateCmp_spec l[i].y l[i].m l[i].d y mo da) ?_
   refine z_p ?_
   refine WL.nil ?_
   refine W.cond rfl (fun hc => ?_) (fun hc => ?_)
   ·have hc0 : cmpD l[i].y l[i].m l[i].d y mo da ≤ 0 := by simpa using hc
    refine W.region ?_
    refine z_p ?_
    first | refine sq (v_load rfl rfl (get_new (by first | assumption | (simp only [List.length_set]; assumption)) rfl) rfl rfl) (rfl : _ = AV.agg [_, _, _, _, _, _]) rfl rfl rfl ?_ | refine sq (v_load rfl rfl (get_old hb) rfl rfl) (rfl : _ = AV.agg [_, _, _, _, _, _]) rfl rfl rfl ?_ | refine sq (v_load_radr rfl rfl rfl rfl) (rfl : _ = AV.agg [_, _, _, _, _, _]) rfl rfl rfl ?_
    refine post_any (m := N + 1) (j := N + 3) l[i] hB' rfl rfl rfl (get_new hN rfl) (get_new hN rfl) (get_new hN rfl) (by omega) (by omega) (by omega) (Nat.le_trans hK (Nat.le_add_right _ _)) (Nat.le_trans hK (Nat.le_add_right _ _)) hul (hsz _ (List.getElem_mem hil)) rfl rfl rfl (fun X2 Y2 Z2 hB2 => ?_)
    rw [set_new hN, set_new hN, set_new hN]
    refine WL.nil ?_
    refine W.region ?_
    refine sq (v_i64 rfl rfl rfl rfl (by omega) (by omega)) (show _ = AV.int .i64 ((i + 1 : Nat) : Int) from rfl) rfl rfl rfl ?_
    refine z_p ?_
    refine WL.nil ?_
    have hB3 : Bk (N + 1) (N + 3) (uptoF y mo da (l.take (i + 1))) X2 Y2 Z2 := by
     rw [hts, uptoF_snoc, uptoS, if_pos hc0]; exact hB2
    exact ⟨l.length - (i + 1), _, _, by omega, ⟨i + 1, X2, Y2, Z2, by omega, rfl, hB3, rfl⟩, ⟨[_], (List.append_assoc _ [_, _, _, _] [_]).symm⟩, ⟨rfl, rfl, rfl, rfl, rfl, trivial⟩, fit (i + 1) _ _ _ hB3⟩
   ·have hc0 : ¬ cmpD l[i].y l[i].m l[i].d y mo da ≤ 0 := by simpa using hc
    refine W.skip ?_
    refine W.region ?_
    refine sq (v_i64 rfl rfl rfl rfl (by omega) (by omega)) (show _ = AV.int .i64 ((i + 1 : Nat) : Int) from rfl) rfl rfl rfl ?_
    refine z_p ?_
    refine WL.nil ?_
    have hB3 : Bk (N + 1) (N + 3) (uptoF y mo da (l.take (i + 1))) X' Y' Z' := by
     rw [hts, uptoF_snoc, uptoS, if_neg hc0]; exact hB'
    exact ⟨l.length - (i + 1), _, _, by omega, ⟨i + 1, X', Y', Z', by omega, rfl, hB3, rfl⟩, ⟨[_], (List.append_assoc _ [_, _, _, _] [_]).symm⟩, ⟨rfl, rfl, rfl, rfl, rfl, trivial⟩, fit (i + 1) _ _ _ hB3⟩
  ·have hie : i = l.length := by omega
   subst hie
   refine W.seq (W.region ?_)
   refine z_F (show ¬ ((l.length : Nat) : Int) < l.length by omega) ?_
   refine WL.nil ?_
   refine W.seq (W.cond_false rfl (W.exit ?_))
   refine W.seq (W.region ?_)
   refine z_p ?_
   refine z_p ?_
   refine WL.nil ?_
   rw [List.take_length] at hB'
   exact W.ret ⟨.inl rfl, _, rfl, h _ _ _ hB'⟩
 | own es ver hes hgl hl =>
  refine W.seq (W.region ?_)
  first | refine sn (a_boxB (by first | assumption | (simp only [List.length_set]; assumption)) rfl rfl (.inl rfl)) (rfl : _ = AV.ptr (N + 0) 0 0) rfl rfl rfl rfl ?_ | refine sn (a_boxB (by first | assumption | (simp only [List.length_set]; assumption)) rfl rfl (.inr ⟨trivial, rfl⟩)) (rfl : _ = AV.ptr (N + 0) 0 0) rfl rfl rfl rfl ?_
  refine z_p ?_
  refine WL.nil ?_
  refine W.seq (W.seq (W.region ?_))
  refine z_p ?_
  refine sp (v_isnil_ptr rfl rfl (get_old hb) rfl rfl) rfl rfl rfl ?_
  refine WL.nil ?_
  refine W.cond_false rfl (W.skip ?_)
  refine W.seq (W.region ?_)
  refine new_siB (i0 := 1) hN rfl rfl rfl rfl rfl rfl rfl ?_
  refine z_p ?_
  refine WL.nil ?_
  refine W.seq (W.seq (W.region ?_))
  refine z_p ?_
  first | refine z_p ?_ | refine sp (v_nilCheck rfl rfl (get_new (by first | assumption | (simp only [List.length_set]; assumption)) rfl)) rfl rfl rfl ?_ | refine sp (v_nilCheck rfl rfl (get_old hb)) rfl rfl rfl ?_
  first | refine sp (v_fieldAddr rfl rfl (get_new (by first | assumption | (simp only [List.length_set]; assumption)) rfl) rfl rfl rfl rfl (by decide)) rfl rfl rfl ?_ | refine sp (v_fieldAddr rfl rfl (get_old hb) rfl rfl rfl rfl (by decide)) rfl rfl rfl ?_ | refine z_g ?_
  first | refine sp (v_load rfl rfl (get_new (by first | assumption | (simp only [List.length_set]; assumption)) rfl) rfl rfl) rfl rfl rfl ?_ | refine sp (v_load rfl rfl (get_old hb) rfl rfl) rfl rfl rfl ?_ | refine z_r ?_
  refine sp (v_len rfl rfl rfl rfl ⟨_, rfl⟩ ⟨_, _, _, _, get_old hj0⟩) rfl rfl rfl ?_
  refine z_p ?_
  refine WL.nil ?_
  let S : Nat → AObj → AObj → AObj → St := fun i X' Y' Z' => ⟨[(3, .ptr (N + 0) 0 0), (5, .ptr (N + 2) 0 0), (14, .sl j ver 0 l.length true), (15, .int .i64 l.length), (16, .int .i64 i)], objs ++ [.cells [.int .i64 y, .int .i64 mo, .int .i64 da] 0 1 false none, Y', X', Z']⟩
  have fit : ∀ i X' Y' Z', Bk (N + 1) (N + 3) (uptoF y mo da (l.take i)) X' Y' Z' → ScO (S i X' Y' Z').objs ∧ ScE (S i X' Y' Z').objs.length (S i X' Y' Z').env ∧ ScS (S i X' Y' Z').objs.length ((tm, env) :: sv) ∧ k ≤ (S i X' Y' Z').objs.length := by
   intro i X' Y' Z' hB'
   refine ⟨hO.app (fun o cs ver esz own ho => ?_), ScE.of ?_, hS.mono ?_, ?_⟩
   ·match o, ho with
    | 0, ho => simp at ho; obtain ⟨rfl, _⟩ := ho; rfl
    | 1, ho => cases hB' <;> simp at ho
    | 2, ho => simp at ho; subst ho; exact hB'.scoped (by simp; omega) (by simp; omega)
    | 3, ho => cases hB' <;> simp at ho
    | o + 4, ho => simp at ho
   ·simp only [S, List.length_append, List.length_cons, List.length_nil, envScoped, AV.inside, scopedL, Bool.and_true, Bool.true_and, Bool.and_eq_true, decide_eq_true_eq, hN]
    omega
   ·simp only [S, List.length_append, hN]; omega
   ·simp only [S, List.length_append, hN]; exact Nat.le_trans hK (Nat.le_add_right _ _)
  refine W.block (W.loopS (fun n st => ∃ i X' Y' Z', i ≤ l.length ∧ n = l.length - i ∧ Bk (N + 1) (N + 3) (uptoF y mo da (l.take i)) X' Y' Z' ∧ st = S i X' Y' Z') l.length ⟨0, _, _, _, Nat.zero_le _, rfl, Bk.new (N + 1) (N + 3), rfl⟩
   ⟨⟨[], (List.append_nil _).symm⟩, ⟨rfl, rfl, rfl, rfl, rfl, trivial⟩, fit 0 _ _ _ (Bk.new (N + 1) (N + 3))⟩ ?_)
  rintro _ _ ⟨i, X', Y', Z', hi, rfl, hB', rfl⟩
  by_cases hil : i < l.length
  ·obtain ⟨r, hei⟩ := ensAV_at hil
   have hne : ensAV l ≠ [] := fun e => by have := ensAV_length l; rw [e] at this; simp at this; omega
   have hts : l.take (i + 1) = l.take i ++ [l[i]] := List.take_succ_eq_append_getElem hil
   have hul : (uptoF y mo da (l.take i)).length ≤ 1000000 := by
    have := uptoF_len y mo da (l.take i) []
    simp only [List.length_nil, List.length_take] at this
    simp only [uptoF]; omega
   refine W.seq (W.region ?_)
   refine z_T (show (i : Int) < l.length by omega) ?_
   refine WL.nil ?_
   refine W.seq (W.cond_true rfl (W.skip ?_))
   refine W.seq (W.block ?_)
   refine W.seq (W.region ?_)
   refine sp (v_indexAddr rfl rfl (get_old hj0) rfl rfl rfl rfl (by omega) (by omega)) rfl rfl rfl ?_
   refine sq (v_load rfl rfl (get_old hj0) rfl (loadc_en (i := 0 + i * 6) (by rw [Nat.zero_add]; exact hei) rfl rfl)) (show _ = l[i].av from rfl) rfl rfl rfl ?_
   refine sn (a_allocB (by first | assumption | (simp only [List.length_set]; assumption)) rfl rfl rfl rfl) (rfl : _ = AV.ptr (N + 4) 0 0) rfl rfl rfl rfl ?_
   refine ss (a_storeA rfl rfl (get_new (by first | assumption | (simp only [List.length_set]; assumption)) rfl) rfl rfl (fun h => by cases h) rfl rfl rfl (Nat.le_of_ble_eq_true rfl)) (set_new (by first | assumption | (simp only [List.length_set]; assumption))) rfl rfl ?_
   refine WL.nil ?_
   refine W.seq (W.region ?_)
   first | refine sp (v_fieldAddr rfl rfl (get_new (by first | assumption | (simp only [List.length_set]; assumption)) rfl) rfl rfl rfl rfl (by decide)) rfl rfl rfl ?_ | refine sp (v_fieldAddr rfl rfl (get_old hb) rfl rfl rfl rfl (by decide)) rfl rfl rfl ?_ | refine z_g ?_
   first | refine sq (v_load rfl rfl (get_new (by first | assumption | (simp only [List.length_set]; assumption)) rfl) rfl rfl) (rfl : _ = AV.agg [_, _, _]) rfl rfl rfl ?_ | refine sq (v_load rfl rfl (get_old hb) rfl rfl) (rfl : _ = AV.agg [_, _, _]) rfl rfl rfl ?_ | refine z_r3 ?_
   first | refine sq (v_load rfl rfl (get_new (by first | assumption | (simp only [List.length_set]; assumption)) rfl) rfl rfl) (rfl : _ = AV.agg [_, _, _]) rfl rfl rfl ?_ | refine sq (v_load rfl rfl (get_old hb) rfl rfl) (rfl : _ = AV.agg [_, _, _]) rfl rfl rfl ?_ | refine z_r3 ?_
   refine z_c (dateCmp_spec l[i].y l[i].m l[i].d y mo da) ?_
   refine z_p ?_
   refine WL.nil ?_
   refine W.cond rfl (fun hc => ?_) (fun hc => ?_)
   ·have hc0 : cmpD l[i].y l[i].m l[i].d y mo da ≤ 0 := by simpa using hc
    refine W.region ?_
    refine z_p ?_
    first | refine sq (v_load rfl rfl (get_new (by first | assumption | (simp only [List.length_set]; assumption)) rfl) rfl rfl) (rfl : _ = AV.agg [_, _, _, _, _, _]) rfl rfl rfl ?_ | refine sq (v_load rfl rfl (get_old hb) rfl rfl) (rfl : _ = AV.agg [_, _, _, _, _, _]) rfl rfl rfl ?_ | refine sq (v_load_radr rfl rfl rfl rfl) (rfl : _ = AV.agg [_, _, _, _, _, _]) rfl rfl rfl ?_
    refine post_any (m := N + 1) (j := N + 3) l[i] hB' rfl rfl rfl (get_new hN rfl) (get_new hN rfl) (get_new hN rfl) (by omega) (by omega) (by omega) (Nat.le_trans hK (Nat.le_add_right _ _)) (Nat.le_trans hK (Nat.le_add_right _ _)) hul (hsz _ (List.getElem_mem hil)) rfl rfl rfl (fun X2 Y2 Z2 hB2 => ?_)
    rw [set_new hN, set_new hN, set_new hN]
    refine WL.nil ?_
    refine W.region ?_
    refine sq (v_i64 rfl rfl rfl rfl (by omega) (by omega)) (show _ = AV.int .i64 ((i + 1 : Nat) : Int) from rfl) rfl rfl rfl ?_
    refine z_p ?_
    refine WL.nil ?_
    have hB3 : Bk (N + 1) (N + 3) (uptoF y mo da (l.take (i + 1))) X2 Y2 Z2 := by
     rw [hts, uptoF_snoc, uptoS, if_pos hc0]; exact hB2
    exact ⟨l.length - (i + 1), _, _, by omega, ⟨i + 1, X2, Y2, Z2, by omega, rfl, hB3, rfl⟩, ⟨[_], (List.append_assoc _ [_, _, _, _] [_]).symm⟩, ⟨rfl, rfl, rfl, rfl, rfl, trivial⟩, fit (i + 1) _ _ _ hB3⟩
   ·have hc0 : ¬ cmpD l[i].y l[i].m l[i].d y mo da ≤ 0 := by simpa using hc
    refine W.skip ?_
    refine W.region ?_
    refine sq (v_i64 rfl rfl rfl rfl (by omega) (by omega)) (show _ = AV.int .i64 ((i + 1 : Nat) : Int) from rfl) rfl rfl rfl ?_
    refine z_p ?_
    refine WL.nil ?_
    have hB3 : Bk (N + 1) (N + 3) (uptoF y mo da (l.take (i + 1))) X' Y' Z' := by
     rw [hts, uptoF_snoc, uptoS, if_neg hc0]; exact hB'
    exact ⟨l.length - (i + 1), _, _, by omega, ⟨i + 1, X', Y', Z', by omega, rfl, hB3, rfl⟩, ⟨[_], (List.append_assoc _ [_, _, _, _] [_]).symm⟩, ⟨rfl, rfl, rfl, rfl, rfl, trivial⟩, fit (i + 1) _ _ _ hB3⟩
  ·have hie : i = l.length := by omega
   subst hie
   refine W.seq (W.region ?_)
   refine z_F (show ¬ ((l.length : Nat) : Int) < l.length by omega) ?_
   refine WL.nil ?_
   refine W.seq (W.cond_false rfl (W.exit ?_))
   refine W.seq (W.region ?_)
   refine z_p ?_
   refine z_p ?_
   refine WL.nil ?_
   rw [List.take_length] at hB'
   exact W.ret ⟨.inl rfl, _, rfl, h _ _ _ hB'⟩
end
end Go.Proofs.YtehoobhbginahaaGreatDoor

set_option linter.unusedVariables false
set_option linter.unusedSimpArgs false
namespace Go.Proofs.YtehoobhbginahaaGreatDoor
open Go Go.Lens
section
variable {nt : Nat} {w0 : World} {k : Nat} {H0 : View} {ln : Nat → Nat} {hk : ∀ o, o < k → H0.blk o < w0.heap.size} {hj : ∀ x o, x < k → o < k → H0.blk x = H0.blk o → x = o} {sv : List (Array Value × List (Nat × AV))}
  {ops : Array Oper} {o : Oper} {rest : List Oper} {env : List (Nat × AV)} {objs : List AObj} {Q : Exit → St → Prop} {x : Operand} {xs : Array Operand} {ts : Array TypeId} {d b m j : Nat}
theorem back_err {l : List En} {X Y Z : AObj} (n : Int) (hB : Bk m j l X Y Z) (hop : o.op = .call { callee := .value x, args := xs, argTypes := ts }) (hx : ev ⟨env, objs⟩ x = some (.func (.func 20) [] [])) (hxs : evL ⟨env, objs⟩ xs.toList = some [.ptr b 0 0, .int .i64 n])
  (hb : objs[b]? = some X) (hj0 : objs[j]? = some Z) (hbad : n < 0 ∨ n > l.length) (hg : gd ops ⟨env, objs⟩ o = some true) (hd : o.dst = some d) (hlt : Nat.blt d nt = true)
  (h : WL ⟨Tryz.prog, tab, tab_ok, nt, w0, k, H0, ln, hk, hj, sv⟩ ops rest ⟨(d, .int .i64 2) :: env, objs⟩ Q) : WL ⟨Tryz.prog, tab, tab_ok, nt, w0, k, H0, ln, hk, hj, sv⟩ ops (o :: rest) ⟨env, objs⟩ Q := by
 refine si Tryz.func20 rfl rfl rfl rfl hop hx hxs rfl rfl hg hd hlt fun tm => ?_
 refine W.get fun hO hE hS hK => W.base ?_
 generalize hN : objs.length = N at *
 by_cases hn : n < 0
 ·obtain ⟨cv, es, rfl, rfl, _⟩ := hB.bk
  refine W.seq (W.region ?_)
  refine z_p ?_
  refine WL.nil ?_
  refine W.seq (W.block ?_)
  refine W.seq (W.region ?_)
  refine z_p ?_
  refine sp (v_isnil_ptr rfl rfl (get_old hb) rfl rfl) rfl rfl rfl ?_
  refine z_p ?_
  refine WL.nil ?_
  refine W.cond_false rfl ?_
  refine W.seq (W.region ?_)
  refine z_p ?_
  refine z_T hn ?_
  refine z_p ?_
  refine z_o ?_
  refine z_o ?_
  refine z_o ?_
  refine z_o ?_
  refine z_o ?_
  refine z_o ?_
  refine z_o ?_
  refine z_p ?_
  refine z_p ?_
  refine WL.nil ?_
  refine W.cond_true rfl ?_
  refine W.seq (W.region ?_)
  refine z_p ?_
  refine WL.nil ?_
  exact W.ret ⟨.inl rfl, _, rfl, sd h hO hN hS rfl rfl hK⟩
 ·have h0 : ¬ n < 0 := hn
  clear hn
  have hn : n > l.length := hbad.resolve_left h0
  cases hB with
  | clip es hes hgl =>
   refine W.seq (W.region ?_)
   refine z_p ?_
   refine WL.nil ?_
   refine W.seq (W.block ?_)
   refine W.seq (W.region ?_)
   refine z_p ?_
   refine sp (v_isnil_ptr rfl rfl (get_old hb) rfl rfl) rfl rfl rfl ?_
   refine z_p ?_
   refine WL.nil ?_
   refine W.cond_false rfl ?_
   refine W.seq (W.region ?_)
   refine z_p ?_
   refine z_F h0 ?_
   refine z_p ?_
   refine z_p ?_
   refine z_p ?_
   first | refine z_p ?_ | refine sp (v_nilCheck rfl rfl (get_new (by first | assumption | (simp only [List.length_set]; assumption)) rfl)) rfl rfl rfl ?_ | refine sp (v_nilCheck rfl rfl (get_old hb)) rfl rfl rfl ?_
   first | refine sp (v_fieldAddr rfl rfl (get_new (by first | assumption | (simp only [List.length_set]; assumption)) rfl) rfl rfl rfl rfl (by decide)) rfl rfl rfl ?_ | refine sp (v_fieldAddr rfl rfl (get_old hb) rfl rfl rfl rfl (by decide)) rfl rfl rfl ?_ | refine z_g ?_
   refine sp (VStep.sub (v_load rfl rfl (get_old hb) rfl rfl) (Sub.clip_row _ _)) rfl rfl rfl ?_
   refine sp (v_len (n := l.length) rfl rfl rfl rfl ⟨_, rfl⟩ trivial) rfl rfl rfl ?_
   refine z_T hn ?_
   refine z_p ?_
   refine z_p ?_
   refine WL.nil ?_
   refine W.cond_true rfl ?_
   refine W.seq (W.region ?_)
   refine z_p ?_
   refine WL.nil ?_
   exact W.ret ⟨.inl rfl, _, rfl, sd h hO hN hS rfl rfl hK⟩
  | own es ver hes hgl hl =>
   refine W.seq (W.region ?_)
   refine z_p ?_
   refine WL.nil ?_
   refine W.seq (W.block ?_)
   refine W.seq (W.region ?_)
   refine z_p ?_
   refine sp (v_isnil_ptr rfl rfl (get_old hb) rfl rfl) rfl rfl rfl ?_
   refine z_p ?_
   refine WL.nil ?_
   refine W.cond_false rfl ?_
   refine W.seq (W.region ?_)
   refine z_p ?_
   refine z_F h0 ?_
   refine z_p ?_
   refine z_p ?_
   refine z_p ?_
   first | refine z_p ?_ | refine sp (v_nilCheck rfl rfl (get_new (by first | assumption | (simp only [List.length_set]; assumption)) rfl)) rfl rfl rfl ?_ | refine sp (v_nilCheck rfl rfl (get_old hb)) rfl rfl rfl ?_
   first | refine sp (v_fieldAddr rfl rfl (get_new (by first | assumption | (simp only [List.length_set]; assumption)) rfl) rfl rfl rfl rfl (by decide)) rfl rfl rfl ?_ | refine sp (v_fieldAddr rfl rfl (get_old hb) rfl rfl rfl rfl (by decide)) rfl rfl rfl ?_ | refine z_g ?_
   first | refine sp (v_load rfl rfl (get_new (by first | assumption | (simp only [List.length_set]; assumption)) rfl) rfl rfl) rfl rfl rfl ?_ | refine sp (v_load rfl rfl (get_old hb) rfl rfl) rfl rfl rfl ?_ | refine z_r ?_
   refine sp (v_len (n := l.length) rfl rfl rfl rfl ⟨_, rfl⟩ ⟨_, _, _, _, get_old hj0⟩) rfl rfl rfl ?_
   refine z_T hn ?_
   refine z_p ?_
   refine z_p ?_
   refine WL.nil ?_
   refine W.cond_true rfl ?_
   refine W.seq (W.region ?_)
   refine z_p ?_
   refine WL.nil ?_
   exact W.ret ⟨.inl rfl, _, rfl, sd h hO hN hS rfl rfl hK⟩
end
end Go.Proofs.YtehoobhbginahaaGreatDoor

set_option linter.unusedVariables false
set_option linter.unusedSimpArgs false
namespace Go.Proofs.YtehoobhbginahaaGreatDoor
open Go Go.Lens
def wk1 : En := ⟨2024, 1, 1, 1, 0, [49, 48, 48]⟩
def wk2 : En := ⟨2024, 1, 1, 0, 1, [51, 48]⟩
def wk3 : En := ⟨2023, 1, 1, 0, 1, [51, 48]⟩
theorem wE_num {s : List UInt8} (hl : s.length ≤ 4096) (h1 : signP s = false) (h2 : plainP s = s) (h3 : numText s = true) : wE s = 0 := wE_ok (by rw [h2]; omega) (by rw [h2]; exact h3) (fun _ => h1)
theorem wk_e1 : wE [49, 48, 48] = 0 := wE_num (by decide) (by decide) (by decide) (by decide)
theorem wk_e2 : wE [51, 48] = 0 := wE_num (by decide) (by decide) (by decide) (by decide)
theorem wk_a1 : amZ [49, 48, 48] = 100 := by rw [amZ, if_pos wk_e1]; decide
theorem wk_a2 : amZ [51, 48] = 30 := by rw [amZ, if_pos wk_e2]; decide
theorem wk_l (s : List UInt8) (h : wE s = 0) (hs : signP s = false) (hd : decF (plainP s) ≠ 0) : wL s ≠ [] ∧ wB s = false := by
 have h1 : wL s = digs LB (decF (plainP s)) := by simp [wL, h]
 have h2 : wB s = (signP s && !(digs LB (decF (plainP s)) == [])) := by simp [wB, h]
 exact ⟨by rw [h1]; exact fun e => hd ((digs_eq_nil (by decide) _).1 e), by rw [h2, hs]; rfl⟩
theorem wk_good {x : En} (hr : rightF x.y x.m x.d = true) (h1 : isF x.db = true) (h2 : isF x.cr = true) (h3 : x.db ≠ x.cr) (hE : wE x.am = 0) (hs : signP x.am = false) (hd : decF (plainP x.am) ≠ 0) : x.chart = 0 := by
 obtain ⟨q1, q2⟩ := wk_l x.am hE hs hd
 simp [En.chart, chartF, hr, h1, h2, h3, hE, q1, q2]
theorem wk_c1 : wk1.chart = 0 := wk_good (by decide) (by decide) (by decide) (by decide) wk_e1 (by decide) (by decide)
theorem wk_c2 : wk2.chart = 0 := wk_good (by decide) (by decide) (by decide) (by decide) wk_e2 (by decide) (by decide)
theorem wk_c3 : wk3.chart = 0 := wk_good (by decide) (by decide) (by decide) (by decide) wk_e2 (by decide) (by decide)
theorem wk_p1 : postE [] wk1 = 0 := postE_nil wk_c1
theorem wk_p2 : postE [wk1] wk2 = 0 := by rw [postE_last wk_c2 (p := wk1) rfl]; decide
theorem wk_p3 : postE [wk1, wk2] wk3 = 12 := by rw [postE_last wk_c3 (p := wk2) rfl]; decide
theorem wk_b1 : bal [wk1, wk2] 1 = 70 := by simp [bal, En.part, wk1, wk2, wk_a1, wk_a2]
theorem wk_b0 : bal [wk1, wk2] 0 = -70 := by simp [bal, En.part, wk1, wk2, wk_a1, wk_a2]
theorem wk_t1 : wText 70 = [55, 48] := by rw [wText, if_neg (by decide)]; exact decText_lit (by decide) (by decide)
theorem wk_t0 : wText (-70) = [45, 55, 48] := by rw [wText, if_pos (by decide), show decText (-70 : Int).natAbs = [55, 48] from decText_lit (by decide) (by decide)]
theorem wakes20_spec : Does Tryz.prog 16 [] (.bool true) := by
 have q1 := wPrint 70 (Lim.num (x := (70 : Int).natAbs) (by decide))
 have q0 := wPrint (-70) (Lim.num (x := (-70 : Int).natAbs) (by decide))
 rw [wk_t1] at q1
 rw [wk_t0] at q0
 refine does tab_ok Tryz.func16 rfl rfl rfl rfl rfl fun w0 H0 hk hj => ?_
 refine W.seq (W.region ?_)
 refine z_p ?_
 refine WL.nil ?_
 refine W.seq (W.region ?_)
 refine new_si rfl rfl rfl rfl rfl rfl ?_
 refine z_p ?_
 refine WL.nil ?_
 refine W.seq (W.region ?_)
 refine sq (v_build rfl rfl rfl rfl rfl rfl rfl) (rfl : _ = AV.agg [_, _, _]) rfl rfl rfl ?_
 refine z_a 3 [_, _, _, _] ?_
 refine z_s [_, _, _, _] ?_
 refine WL.nil ?_
 refine W.seq (W.region ?_)
 refine z_p ?_
 first | refine z_l3 ?_ | refine z_r3 ?_
 refine sq (v_build rfl rfl rfl rfl rfl rfl rfl) (rfl : _ = AV.agg [_, _, _, _, _, _]) rfl rfl rfl ?_
 refine post_any (m := 0) (j := 2) wk1 (Bk.new 0 2) rfl rfl rfl rfl rfl rfl (by decide) (by decide) (by decide) (Nat.zero_le _) (Nat.zero_le _) (by decide) (by decide) rfl rfl rfl (fun X1 Y1 Z1 hB1 => ?_)
 rw [if_pos wk_p1] at hB1
 rw [wk_p1]
 replace hB1 : Bk 0 2 [wk1] X1 Y1 Z1 := hB1
 refine z_p ?_
 refine WL.nil ?_
 refine W.seq (W.region ?_)
 refine z_p ?_
 first | refine z_l3 ?_ | refine z_r3 ?_
 refine sq (v_build rfl rfl rfl rfl rfl rfl rfl) (rfl : _ = AV.agg [_, _, _, _, _, _]) rfl rfl rfl ?_
 refine post_any (m := 0) (j := 2) wk2 hB1 rfl rfl rfl rfl rfl rfl (by decide) (by decide) (by decide) (Nat.zero_le _) (Nat.zero_le _) (by decide) (by decide) rfl rfl rfl (fun X2 Y2 Z2 hB2 => ?_)
 rw [if_pos wk_p2] at hB2
 rw [wk_p2]
 replace hB2 : Bk 0 2 [wk1, wk2] X2 Y2 Z2 := hB2
 refine z_p ?_
 refine WL.nil ?_
 refine W.seq (W.region ?_)
 refine z_p ?_
 refine sq (v_build rfl rfl rfl rfl rfl rfl rfl) (rfl : _ = AV.agg [_, _, _]) rfl rfl rfl ?_
 refine sq (v_build rfl rfl rfl rfl rfl rfl rfl) (rfl : _ = AV.agg [_, _, _, _, _, _]) rfl rfl rfl ?_
 refine post_any (m := 0) (j := 2) wk3 hB2 rfl rfl rfl rfl rfl rfl (by decide) (by decide) (by decide) (Nat.zero_le _) (Nat.zero_le _) (by decide) (by decide) rfl rfl rfl (fun X3 Y3 Z3 hB3 => ?_)
 have hB4 : Bk 0 2 [wk1, wk2] X3 Y3 Z3 := by rw [if_neg (by rw [wk_p3]; decide)] at hB3; exact hB3
 rw [wk_p3]
 obtain ⟨cv, es, rfl, rfl, hes⟩ := hB4.bk
 refine z_p ?_
 refine WL.nil ?_
 refine W.seq (W.region ?_)
 refine z_p ?_
 refine sq (v_pure rfl) (show _ = AV.bool true from rfl) rfl rfl rfl ?_
 refine z_p ?_
 refine z_p ?_
 refine sq (v_pure rfl) (show _ = AV.bool true from rfl) rfl rfl rfl ?_
 refine z_p ?_
 refine z_p ?_
 refine z_p ?_
 refine sq (v_pure rfl) (show _ = AV.bool true from rfl) rfl rfl rfl ?_
 refine z_p ?_
 refine z_p ?_
 refine z_p ?_
 refine len_si hB4 rfl rfl rfl rfl rfl (by decide) rfl rfl rfl ?_
 refine sq (v_pure rfl) (show _ = AV.bool true from rfl) rfl rfl rfl ?_
 refine z_p ?_
 refine z_p ?_
 refine z_p ?_
 refine balance_si 1 rfl rfl rfl rfl rfl hes rfl rfl rfl ?_
 rw [wk_b1]
 refine z_c (q1) ?_
 refine sq (v_pure rfl) (show _ = AV.bool true from rfl) rfl rfl rfl ?_
 refine z_p ?_
 refine z_p ?_
 refine z_p ?_
 refine balance_si 0 rfl rfl rfl rfl rfl hes rfl rfl rfl ?_
 rw [wk_b0]
 refine z_c (q0) ?_
 refine sq (v_pure rfl) (show _ = AV.bool true from rfl) rfl rfl rfl ?_
 refine z_p ?_
 refine z_p ?_
 refine z_p ?_
 refine back_err 3 hB4 rfl rfl rfl rfl rfl (.inr (by decide)) rfl rfl rfl ?_
 refine sq (v_pure rfl) (show _ = AV.bool true from rfl) rfl rfl rfl ?_
 refine z_p ?_
 refine z_p ?_
 refine WL.nil ?_
 exact W.ret (fin rfl (.shut (.plain rfl) .nil) rfl)
end Go.Proofs.YtehoobhbginahaaGreatDoor

set_option linter.unusedVariables false
set_option linter.unusedSimpArgs false
namespace Go.Lens
open Go Go.RowKit
/-- an object is told otherwise -/
theorem Inv.reob {C : Ctx} {H : View} {env : List (Nat × AV)} {objs : List AObj} {a : Act} {w : World} (h : Inv C H ⟨env, objs⟩ a w) {b : Nat} {ob ob' : AObj} (hb : objs[b]? = some ob) (hl : ob'.live = true → ob.live = true)
  (hm : ob'.mine = true → ob.mine = true) (hr : RelO w H b ob') (hlen : ∀ cs ver esz flat own, ob' = .cells cs ver esz flat own → b < C.k → cs.length = C.ln b) : Inv C H ⟨env, objs.set b ob'⟩ a w := by
 have hbl := (List.getElem?_eq_some_iff.1 hb).1
 have hget : ∀ i o, (objs.set b ob')[i]? = some o → (i = b ∧ o = ob') ∨ (i ≠ b ∧ objs[i]? = some o) := by
  intro i o ho
  by_cases e : i = b
  ·subst e
   rw [List.getElem?_set_self hbl] at ho
   injection ho with ho
   exact .inl ⟨rfl, ho.symm⟩
  ·rw [List.getElem?_set_ne (Ne.symm e)] at ho
   exact .inr ⟨e, ho⟩
 refine h.move (objs' := objs.set b ob') (Keeps.refl w H) ⟨by simpa using h.objs.n, fun i o ho => ?_, fun i i' o o' h1 h2 l1 l2 he => ?_, h.objs.lt⟩ (fun _ _ => Iff.rfl) (by simpa using h.klen) (fun _ _ => ⟨rfl, rfl, rfl⟩)
  (fun x cs ver esz flat own hx ho => ?_) (fun x _ => Outside.of_eq rfl _ _) (fun i o ho hlv => ?_) (fun _ _ _ => rfl) (Nat.le_refl _) rfl rfl rfl
 ·rcases hget i o ho with ⟨rfl, rfl⟩ | ⟨_, ho⟩
  ·exact hr
  ·exact h.objs.rel i o ho
 ·rcases hget i o h1 with ⟨rfl, rfl⟩ | ⟨_, g1⟩ <;> rcases hget i' o' h2 with ⟨rfl, rfl⟩ | ⟨_, g2⟩
  ·rfl
  ·exact h.objs.inj _ _ _ _ hb g2 (hl l1) l2 he
  ·exact h.objs.inj _ _ _ _ g1 hb l1 (hl l2) he
  ·exact h.objs.inj _ _ _ _ g1 g2 l1 l2 he
 ·rcases hget x _ ho with ⟨rfl, e⟩ | ⟨_, ho⟩
  ·exact hlen cs ver esz flat own e.symm hx
  ·exact h.lens x cs ver esz flat own hx ho
 ·rcases hget i o ho with ⟨rfl, rfl⟩ | ⟨_, ho⟩
  ·rcases h.own i ob hb (hl hlv) with ⟨h1, h2⟩ | h1
   ·refine .inl ⟨h1, ?_⟩
    cases hq : o.mine
    ·rfl
    ·rw [hm hq] at h2; cases h2
   ·exact .inr h1
  ·exact h.own i o ho hlv
theorem RelL.set_same {w : World} {H : View} {cs : List AV} {vs : List Value} (h : RelL w cs H vs) {i : Nat} {c c' : AV} (hi : cs[i]? = some c) (hc : ∀ v, RelV w c H v → RelV w c' H v) : RelL w (cs.set i c') H vs := by
 obtain ⟨v, hv, hr⟩ := h.get i c hi
 have h2 := h.set (hc v hr) i
 have : vs.set i v = vs := by
  refine List.ext_getElem? fun j => ?_
  rw [List.getElem?_set]
  split
  ·rename_i e; subst e; rw [if_pos (List.getElem?_eq_some_iff.1 hv).1, hv]
  ·rfl
 rw [this] at h2; exact h2
/-- of a cell less is known -/
theorem Rel.recell {C : Ctx} {env : List (Nat × AV)} {objs : List AObj} {a : Act} {w : World} {b ver esz i : Nat} {own : Option TypeId} {bs : List AV} {c c' : AV} (h : Rel C ⟨env, objs⟩ a w) (hb : objs[b]? = some (.cells bs ver esz false own)) (hi : bs[i]? = some c) (hc : Sub c c') :
  Rel C ⟨env, objs.set b (.cells (bs.set i c') ver esz false own)⟩ a w := by
 obtain ⟨H, h⟩ := h
 refine ⟨H, h.reob hb (fun _ => rfl) (fun hm => by cases own <;> exact hm) ?_ (fun cs v e f o he hk => ?_)⟩
 ·obtain ⟨g1, g2, vs, c0, e, g3, g4, g5, g6⟩ := h.objs.rel b _ hb
  exact ⟨g1, g2, vs, c0, e, g3, g4.set_same hi (hc w _), g5, g6⟩
 ·simp only [AObj.cells.injEq] at he
  rw [← he.1, List.length_set]
  exact h.lens b _ _ _ _ _ hk hb
theorem Rel.die {C : Ctx} {env : List (Nat × AV)} {objs : List AObj} {a : Act} {w : World} {b : Nat} (h : Rel C ⟨env, objs⟩ a w) (hb : b < objs.length) : Rel C ⟨env, objs.set b .dead⟩ a w := by
 obtain ⟨H, h⟩ := h
 exact ⟨H, h.reob (ob := objs[b]) (List.getElem?_eq_getElem hb) (fun h => by cases h) (fun h => by cases h) trivial (fun _ _ _ _ _ he _ => by cases he)⟩
/-- a slice of the call's own that stands in a cell is given up: it is only read from now on -/
theorem Rel.sealO {C : Ctx} {env : List (Nat × AV)} {objs : List AObj} {a : Act} {w : World} {b bver besz i o ver off n esz : Nat} {full : Bool} {bs cs : List AV} {bown : Option TypeId} {e : TypeId} (h : Rel C ⟨env, objs⟩ a w)
  (hb : objs[b]? = some (.cells bs bver besz false bown)) (hi0 : bs[i]? = some (.sl o ver off n full))
  (hob : objs[o]? = some (.cells cs ver esz true (some e))) (hle : off + n * esz ≤ cs.length) (hbo : b ≠ o) : Rel C ⟨env, (objs.set o .dead).set b (.cells (bs.set i (.row ((cs.drop off).take (n * esz)) n)) bver besz false bown)⟩ a w := by
 obtain ⟨H, hi⟩ := h
 let H' : View := { H with wr := fun b => H.wr b ∧ b ≠ H.blk o }
 have hK : Keeps w H w H' := ⟨fun _ _ h _ => h, fun b _ h => h.1, Nat.le_refl _, fun _ _ => Nat.le_refl _, fun _ _ _ => ⟨rfl, rfl, rfl⟩⟩
 have hol : o < objs.length := (List.getElem?_eq_some_iff.1 hob).1
 have hblk : C.w0.heap.size ≤ H.blk o := by
  rcases hi.own o _ hob rfl with ⟨_, h⟩ | h
  ·cases h
  ·exact h
 have hget : ∀ i ob, (objs.set o .dead)[i]? = some ob → ob = .dead ∨ (i ≠ o ∧ objs[i]? = some ob) := by
  intro i ob hob'
  by_cases e : i = o
  ·subst e
   rw [List.getElem?_set_self hol] at hob'
   injection hob' with hob'
   exact .inl hob'.symm
  ·rw [List.getElem?_set_ne (Ne.symm e)] at hob'
   exact .inr ⟨e, hob'⟩
 have hm := hi.move (objs' := objs.set o .dead) hK ⟨by simpa using hi.objs.n, fun i ob h => by
   rcases hget i ob h with rfl | ⟨hne, h⟩
   ·trivial
   ·by_cases hl : ob.live = true
    ·exact (hi.objs.rel i ob h).keeps hK rfl rfl rfl rfl (fun hw => ⟨hw, fun e => hne (hi.objs.inj _ _ _ _ h hob hl rfl e)⟩) rfl
    ·cases ob <;> first | trivial | (simp [AObj.live] at hl; done) | exact hi.objs.rel i _ h, fun i i' ob ob' h1 h2 l1 l2 hb => by
   rcases hget i ob h1 with rfl | ⟨_, g1⟩
   ·cases l1
   rcases hget i' ob' h2 with rfl | ⟨_, g2⟩
   ·cases l2
   exact hi.objs.inj _ _ _ _ g1 g2 l1 l2 hb, fun b h => hi.objs.lt b h.1⟩
  (fun b hb => ⟨fun h => h.1, fun h => ⟨h, by omega⟩⟩) (by have := hi.klen; simpa using this) (fun _ _ => ⟨rfl, rfl, rfl⟩) (fun x cs ver esz flat own hx h => by
   rcases hget x _ h with h | ⟨_, h⟩
   ·cases h
   ·exact hi.lens x cs ver esz flat own hx h) (fun x _ => Outside.of_eq rfl _ _) (fun i ob h hl => by
   rcases hget i ob h with rfl | ⟨_, h⟩
   ·cases hl
   ·exact hi.own i ob h hl) (fun _ _ _ => rfl) (Nat.le_refl _) rfl rfl rfl
 have hb' : (objs.set o .dead)[b]? = some (.cells bs bver besz false bown) := by rw [List.getElem?_set_ne (Ne.symm hbo)]; exact hb
 refine ⟨H', Inv.reob (ob := .cells bs bver besz false bown) hm hb' (fun _ => rfl) (fun hm => by cases bown <;> exact hm) ?_ (fun cs v e f o he hk => ?_)⟩
 ·obtain ⟨g1, g2, vs, c0, e, g3, g4, g5, g6⟩ := hi.objs.rel b _ hb
  obtain ⟨q1, q2, vs', c1, e1, q3, q4, q5, q6⟩ := hm.objs.rel b _ hb'
  obtain ⟨v, hv, hr⟩ := g4.get i _ hi0
  refine ⟨q1, q2, vs, c0, e, g3, ?_, g5, g6⟩
  have g4' : RelL w bs (H'.flatIf false) vs := g4.keeps bs (hK.flatIf false)
  have hrow : RelV w (.row ((cs.drop off).take (n * esz)) n) H' v := sl_row (H' := H') hi.objs hob hle (fun h => h.2 rfl) (fun b _ h => h.1) hr
  have h2 := g4'.set (k := i) (c := .row ((cs.drop off).take (n * esz)) n) (v := v) hrow
  have : vs.set i v = vs := by
   refine List.ext_getElem? fun j => ?_
   rw [List.getElem?_set]
   split
   ·rename_i e; subst e; rw [if_pos (List.getElem?_eq_some_iff.1 hv).1, hv]
   ·rfl
  rw [this] at h2; exact h2
 ·simp only [AObj.cells.injEq] at he
  rw [← he.1, List.length_set]
  exact hi.lens b _ _ _ _ _ hk hb
theorem W.recell {C : Ctx} {code : Code} {env : List (Nat × AV)} {objs : List AObj} {Q : Exit → St → Prop} {b ver esz : Nat} {own : Option TypeId} {bs : List AV} {c : AV} (i : Nat) (c' : AV) (hb : objs[b]? = some (.cells bs ver esz false own)) (hi : bs[i]? = some c) (hc : Sub c c')
  (h : W C code ⟨env, objs.set b (.cells (bs.set i c') ver esz false own)⟩ Q) : W C code ⟨env, objs⟩ Q := fun a w hr => h a w (hr.recell hb hi hc)
theorem W.die {C : Ctx} {code : Code} {env : List (Nat × AV)} {objs : List AObj} {Q : Exit → St → Prop} (b : Nat) (hb : b < objs.length) (h : W C code ⟨env, objs.set b .dead⟩ Q) : W C code ⟨env, objs⟩ Q := fun a w hr => h a w (hr.die hb)
theorem W.sealO {C : Ctx} {code : Code} {env : List (Nat × AV)} {objs : List AObj} {Q : Exit → St → Prop} {b bver besz o ver off n esz : Nat} {full : Bool} {bs cs : List AV} {bown : Option TypeId} {e : TypeId} (i : Nat)
  (hb : objs[b]? = some (.cells bs bver besz false bown)) (hi0 : bs[i]? = some (.sl o ver off n full))
  (hob : objs[o]? = some (.cells cs ver esz true (some e))) (hle : off + n * esz ≤ cs.length) (hbo : b ≠ o) (h : W C code ⟨env, (objs.set o .dead).set b (.cells (bs.set i (.row ((cs.drop off).take (n * esz)) n)) bver besz false bown)⟩ Q) : W C code ⟨env, objs⟩ Q :=
 fun a w hr => h a w (hr.sealO hb hi0 hob hle hbo)
/-- a place at which ways meet again: what is known there -/
theorem W.cutS {C : Ctx} {c : Code} {st : St} {Q : Exit → St → Prop} (env1 : List (Nat × AV)) (objs1 : List AObj) (h : W C c st (fun e s => e = .normal ∧ FitS C env1 objs1 s)) (h2 : Q .normal ⟨env1, objs1⟩) : W C c st Q := by
 intro a w hr
 refine wp_mono (h a w hr) fun e a' w' hp => ?_
 obtain ⟨s, ⟨he, hf⟩, hr'⟩ := hp
 subst he
 exact ⟨_, h2, hf.rel hr'⟩
end Go.Lens
