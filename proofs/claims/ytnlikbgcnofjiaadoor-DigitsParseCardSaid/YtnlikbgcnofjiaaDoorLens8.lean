/- Lens, part 8: the call of a function of which a Spec is known. -/
import Derived.Test.YtnlikbgcnofjiaaDoorLens7
set_option linter.unusedVariables false
set_option linter.unusedSimpArgs false
namespace Go.Lens
open Go Go.RowKit

/-! ### what is handed over -/
inductive PassL (objs : List AObj) : Nat → List AV → List AV → List Nat → List (Nat × Nat) → List AObj → Prop
  | nil {j : Nat} : PassL objs j [] [] [] [] []
  | plain {j : Nat} {c : AV} {cs cs' : List AV} {L : List Nat} {B : List (Nat × Nat)} {O : List AObj} : c.plain = true → PassL objs j cs cs' L B O → PassL objs j (c :: cs) (c :: cs') L B O
  | lend {j o ver off n esz : Nat} {full : Bool} {ds : List AV} {own : Option TypeId} {cs cs' : List AV} {L : List Nat} {B : List (Nat × Nat)} {O : List AObj} : objs[o]? = some (.cells ds ver esz true own) → off + n * esz ≤ ds.length →
      PassL objs j cs cs' L B O → PassL objs j (.sl o ver off n full :: cs) (.row ((ds.drop off).take (n * esz)) n :: cs') (o :: L) B O
  | refS {j o ver off n esz : Nat} {full : Bool} {ds : List AV} {own : Option TypeId} {cs cs' : List AV} {L : List Nat} {B : List (Nat × Nat)} {O : List AObj} : objs[o]? = some (.cells ds ver esz true own) → off + n * esz ≤ ds.length →
      PassL objs (j + 1) cs cs' L B O → PassL objs j (.sl o ver off n full :: cs) (.sl j 0 0 n false :: cs') L ((o, off) :: B) (.cells ((ds.drop off).take (n * esz)) 0 esz true none :: O)
  | refP {j o ver i sz esz : Nat} {ds : List AV} {flat : Bool} {own : Option TypeId} {cs cs' : List AV} {L : List Nat} {B : List (Nat × Nat)} {O : List AObj} : objs[o]? = some (.cells ds ver esz flat own) → i + sz ≤ ds.length →
      (flat = false → plainL ((ds.drop i).take sz) = true) → PassL objs (j + 1) cs cs' L B O → PassL objs j (.ptr o ver i :: cs) (.ptr j 0 0 :: cs') L ((o, i) :: B) (.cells ((ds.drop i).take sz) 0 1 flat none :: O)

/-- the callee's view -/
def View.callee (H : View) (L : List Nat) (B : List (Nat × Nat)) : View :=
  { n := B.length, blk := fun j => H.blk (B.getD j (0, 0)).1, off := fun j => H.off (B.getD j (0, 0)).1 + (B.getD j (0, 0)).2, cap := fun _ => 0, ver := fun _ => 0,
    wr := fun b => H.wr b ∧ ∀ o, o ∈ L → b ≠ H.blk o }

theorem PassL.lent {objs : List AObj} : ∀ {j : Nat} {cs cs' : List AV} {L : List Nat} {B : List (Nat × Nat)} {O : List AObj}, PassL objs j cs cs' L B O → ∀ o ∈ L, ∃ (ds : List AV) (ver esz : Nat) (own : Option TypeId), objs[o]? = some (AObj.cells ds ver esz true own)
  | _, _, _, _, _, _, .nil, _, h => by simp at h
  | _, _, _, _, _, _, .plain _ hr, o, h => PassL.lent hr o h
  | _, _, _, _, _, _, .lend hob _ hr, o, h => by
    rcases List.mem_cons.1 h with rfl | h
    · exact ⟨_, _, _, _, hob⟩
    · exact PassL.lent hr o h
  | _, _, _, _, _, _, .refS _ _ hr, o, h => PassL.lent hr o h
  | _, _, _, _, _, _, .refP _ _ _ hr, o, h => PassL.lent hr o h

/-- each object that is handed over to be written -/
theorem PassL.refs {objs : List AObj} : ∀ {j : Nat} {cs cs' : List AV} {L : List Nat} {B : List (Nat × Nat)} {O : List AObj}, PassL objs j cs cs' L B O → B.length = O.length ∧
    ∀ (i o off : Nat), B[i]? = some (o, off) → ∃ (ds : List AV) (ver esz : Nat) (flat : Bool) (own : Option TypeId) (len esz' : Nat), objs[o]? = some (AObj.cells ds ver esz flat own) ∧ off + len ≤ ds.length ∧ O[i]? = some (.cells ((ds.drop off).take len) 0 esz' flat none) ∧ (flat = false → plainL ((ds.drop off).take len) = true)
  | _, _, _, _, _, _, .nil => ⟨rfl, fun i o off h => by simp at h⟩
  | _, _, _, _, _, _, .plain _ hr => PassL.refs hr
  | _, _, _, _, _, _, .lend _ _ hr => PassL.refs hr
  | _, _, _, _, _, _, .refS hob hb hr => by
    obtain ⟨h1, h2⟩ := PassL.refs hr
    refine ⟨by simp [h1], fun i o off h => ?_⟩
    cases i with
    | zero => simp at h; obtain ⟨rfl, rfl⟩ := h; exact ⟨_, _, _, _, _, _, _, hob, hb, rfl, fun h => by cases h⟩
    | succ i => simpa using h2 i o off (by simpa using h)
  | _, _, _, _, _, _, .refP hob hb hp hr => by
    obtain ⟨h1, h2⟩ := PassL.refs hr
    refine ⟨by simp [h1], fun i o off h => ?_⟩
    cases i with
    | zero => simp at h; obtain ⟨rfl, rfl⟩ := h; exact ⟨_, _, _, _, _, _, _, hob, hb, rfl, hp⟩
    | succ i => simpa using h2 i o off (by simpa using h)

theorem PassL.rel {w : World} {H Hc : View} {objs : List AObj} (ho : Objs w H objs) (hsub : ∀ b, b < w.heap.size → Hc.wr b → H.wr b) :
    ∀ {j : Nat} {cs cs' : List AV} {L : List Nat} {B : List (Nat × Nat)} {O : List AObj} (h : PassL objs j cs cs' L B O) (pre : List (Nat × Nat)) (hpre : pre.length = j) (hn : Hc.n = (pre ++ B).length)
      (hL : ∀ o, o ∈ L → ¬ Hc.wr (H.blk o))
      (hblk : ∀ (i o off : Nat), (pre ++ B)[i]? = some (o, off) → Hc.blk i = H.blk o ∧ Hc.off i = H.off o + off ∧ Hc.ver i = 0) {vs : List Value}, RelL w cs H vs → RelL w cs' Hc vs
  | _, _, _, _, _, _, .nil, _, _, _, _, _, _, h => h
  | _, _, _, _, _, _, .plain hc hr, pre, hpre, hn, hL, hblk, _, ⟨v, vs, e, h1, h2⟩ => ⟨v, vs, e, plain_to hsub hc h1, PassL.rel ho hsub hr pre hpre hn hL hblk h2⟩
  | _, _, _, _, _, _, .lend hob hb hr, pre, hpre, hn, hL, hblk, _, ⟨v, vs, e, h1, h2⟩ =>
    ⟨v, vs, e, sl_row ho hob hb (hL _ (by simp)) hsub h1, PassL.rel ho hsub hr pre hpre hn (fun o hm => hL o (by simp [hm])) hblk h2⟩
  | j, _, _, _, _, _, .refS (o := o) (off := off) (B := B) hob hb hr, pre, hpre, hn, hL, hblk, _, ⟨v, vs, e, h1, h2⟩ => by
    refine ⟨v, vs, e, ?_, PassL.rel ho hsub hr (pre ++ [(o, off)]) (by simp [hpre]) (by simpa using hn) hL (fun i x y hi => hblk i x y (by simpa using hi)) h2⟩
    obtain ⟨b1, b2, b3⟩ := hblk j o off (by simp [← hpre])
    obtain ⟨g1, _⟩ := ho.rel o _ hob
    obtain ⟨_, _, hp⟩ := h1
    obtain ⟨ad, c, e1, e2, e3, e4⟩ := hp g1
    refine ⟨by simp at hn; omega, by omega, fun _ => ⟨ad, c, e1, e2, fun hpos => ?_, fun h => by cases h⟩⟩
    rw [b1, b2, e3 hpos]; rfl
  | j, _, _, _, _, _, .refP (o := o) (i := off) (B := B) hob hb hp' hr, pre, hpre, hn, hL, hblk, _, ⟨v, vs, e, h1, h2⟩ => by
    refine ⟨v, vs, e, ?_, PassL.rel ho hsub hr (pre ++ [(o, off)]) (by simp [hpre]) (by simpa using hn) hL (fun i x y hi => hblk i x y (by simpa using hi)) h2⟩
    obtain ⟨b1, b2, b3⟩ := hblk j o off (by simp [← hpre])
    obtain ⟨g1, _⟩ := ho.rel o _ hob
    obtain ⟨_, _, hp⟩ := h1
    have e1 := hp g1
    refine ⟨by simp at hn; omega, by omega, fun _ => ?_⟩
    rw [b1, b2, e1]; rfl

theorem Objs.callee {w : World} {H : View} {objs : List AObj} (ho : Objs w H objs) {cs cs' : List AV} {L : List Nat} {B : List (Nat × Nat)} {O : List AObj} (h : PassL objs 0 cs cs' L B O)
    (hnd : (B.map (·.1)).Nodup) (hdis : ∀ o, o ∈ L → o ∉ B.map (·.1)) : Objs w (H.callee L B) O := by
  obtain ⟨hlen, href⟩ := h.refs
  have hsub : ∀ b, b < w.heap.size → (H.callee L B).wr b → H.wr b := fun b _ hb => hb.1
  have hget : ∀ (i : Nat) (ob : AObj), O[i]? = some ob → ∃ o off : Nat, B[i]? = some (o, off) ∧ B.getD i (0, 0) = (o, off) := by
    intro i ob hi
    have hlt : i < B.length := by rw [hlen]; exact (List.getElem?_eq_some_iff.1 hi).1
    exact ⟨(B[i]).1, (B[i]).2, by simp [hlt], by simp [hlt]⟩
  have hwr : ∀ (i o off : Nat), B[i]? = some (o, off) → (H.callee L B).wr (H.blk o) := by
    intro i o off hi
    obtain ⟨ds, ver, esz, flat, own, len, esz', h1, h2, h3, h4⟩ := href i o off hi
    refine ⟨ho.wr_blk h1 rfl, fun o' ho' he => ?_⟩
    obtain ⟨ds', ver', esz'', own', h1'⟩ := h.lent o' ho'
    have := ho.inj o o' _ _ h1 h1' rfl rfl he
    subst this
    exact hdis o ho' (List.mem_map.2 ⟨(o, off), List.mem_of_getElem? hi, rfl⟩)
  refine ⟨hlen, ?_, ?_, fun b hb => ho.lt b hb.1⟩
  · intro i ob hi
    obtain ⟨o, off, hb, hgd⟩ := hget i ob hi
    obtain ⟨ds, ver, esz, flat, own, len, esz', h1, h2, h3, h4⟩ := href i o off hb
    rw [h3] at hi
    injection hi with hi; subst hi
    obtain ⟨g1, g2, vs, c, e, g3, g4, g5, g6⟩ := ho.rel o _ h1
    refine ⟨rfl, by simp only [View.callee, hgd]; exact hwr i o off hb, (vs.drop off).take len, c, e, by simp only [View.callee, hgd]; exact g3, ?_, ?_, fun t ht => by cases ht⟩
    · cases flat
      · exact plainL_to hsub (h4 rfl) ((RelL.drop off g4).take len)
      · have hbare : Keeps w H.bare w (H.callee L B).bare := ⟨fun _ _ h _ => h, hsub, Nat.le_refl _, fun _ h => absurd h (Nat.not_lt_zero _), fun _ h => absurd h (Nat.not_lt_zero _)⟩
        exact ((RelL.drop off g4).take len).keeps _ hbare
    · intro j u hu
      simp only [View.callee, hgd]
      rw [List.getElem?_take] at hu
      split at hu
      · rw [List.getElem?_drop] at hu
        rw [Nat.add_assoc]
        exact g5 _ _ hu
      · cases hu
  · intro i i' ob ob' h1 h1' l1 l2 hbb
    obtain ⟨o, off, hb, hgd⟩ := hget i ob h1
    obtain ⟨o', off', hb', hgd'⟩ := hget i' ob' h1'
    simp only [View.callee, hgd, hgd'] at hbb
    obtain ⟨ds, ver, esz, flat, own, len, esz', q1, _⟩ := href i o off hb
    obtain ⟨ds', ver', esz'', flat', own', len', esz''', q1', _⟩ := href i' o' off' hb'
    have := ho.inj o o' _ _ q1 q1' rfl rfl hbb
    subst this
    exact nodup_get hnd (by rw [List.getElem?_map, hb]; rfl) (by rw [List.getElem?_map, hb']; rfl)

/-! ### what comes back -/
mutual
def AV.noRow : AV → Bool
  | .row .. | .radr .. => false
  | .agg cs => noRowL cs
  | .tup cs => noRowL cs
  | .func _ x y => noRowL x && noRowL y
  | _ => true
def noRowL : List AV → Bool
  | [] => true
  | c :: cs => c.noRow && noRowL cs
end
mutual
/-- it names no object below k -/
def AV.ge (k : Nat) : AV → Bool
  | .ptr o _ _ => decide (k ≤ o)
  | .sl o _ _ _ _ => decide (k ≤ o)
  | .mp o _ => decide (k ≤ o)
  | .agg cs => geL k cs
  | .tup cs => geL k cs
  | .func _ x y => geL k x && geL k y
  | _ => true
def geL (k : Nat) : List AV → Bool
  | [] => true
  | c :: cs => c.ge k && geL k cs
end
mutual
def AV.up (k m : Nat) : AV → AV
  | .ptr o ver i => .ptr (m + (o - k)) ver i
  | .sl o ver off n full => .sl (m + (o - k)) ver off n full
  | .mp o ver => .mp (m + (o - k)) ver
  | .agg cs => .agg (upL k m cs)
  | .tup cs => .tup (upL k m cs)
  | .func f x y => .func f (upL k m x) (upL k m y)
  | c => c
def upL (k m : Nat) : List AV → List AV
  | [] => []
  | c :: cs => c.up k m :: upL k m cs
end

structure Ups (k m : Nat) (w : World) (H' J : View) : Prop where
  id : ∀ i, k ≤ i → i < H'.n → m + (i - k) < J.n ∧ J.blk (m + (i - k)) = H'.blk i ∧ J.off (m + (i - k)) = H'.off i ∧ J.cap (m + (i - k)) = H'.cap i ∧ J.ver (m + (i - k)) = H'.ver i

mutual
theorem RelV.up {w : World} {k m : Nat} {H' J : View} (hu : Ups k m w H' J) : ∀ (c : AV) {v : Value}, c.ge k = true → (c.noRow = true ∨ ∀ b, b < w.heap.size → J.wr b → H'.wr b) → RelV w c H' v → RelV w (c.up k m) J v
  | .any, _, _, _, _ => trivial
  | .int .., _, _, _, h => h
  | .bool .., _, _, _, h => h
  | .str .., _, _, _, h => h
  | .nilp, _, _, _, h => h
  | .nils, _, _, _, h => h
  | .nilFunc, _, _, _, h => h
  | .nilm, _, _, _, h => h
  | .row .., _, _, hr, h => by
    rcases hr with hr | hr
    · cases hr
    · exact plain_to hr rfl h
  | .radr .., _, _, hr, h => by
    rcases hr with hr | hr
    · cases hr
    · exact plain_to hr rfl h
  | .ptr o ver i, _, hg, _, ⟨h1, h2, h3⟩ => by
    have hg : k ≤ o := by simpa [AV.ge] using hg
    obtain ⟨q1, q2, q3, q4, q5⟩ := hu.id o hg h1
    refine ⟨q1, by rw [q5]; exact h2, fun he => ?_⟩
    rw [q2, q3]; exact h3 (q5 ▸ he)
  | .mp o ver, _, hg, _, ⟨h1, h2, h3⟩ => by
    have hg : k ≤ o := by simpa [AV.ge] using hg
    obtain ⟨q1, q2, q3, q4, q5⟩ := hu.id o hg h1
    refine ⟨q1, by rw [q5]; exact h2, fun he => ?_⟩
    rw [q2]; exact h3 (q5 ▸ he)
  | .sl o ver off n full, _, hg, _, ⟨h1, h2, h3⟩ => by
    have hg : k ≤ o := by simpa [AV.ge] using hg
    obtain ⟨q1, q2, q3, q4, q5⟩ := hu.id o hg h1
    refine ⟨q1, by rw [q5]; exact h2, fun he => ?_⟩
    rw [q2, q3, q4]; exact h3 (q5 ▸ he)
  | .agg cs, _, hg, hr, ⟨vs, e, h⟩ => ⟨vs, e, RelL.up hu cs (by simpa [AV.ge] using hg) (hr.imp_left (by simp [AV.noRow])) h⟩
  | .tup cs, _, hg, hr, ⟨vs, e, h⟩ => ⟨vs, e, RelL.up hu cs (by simpa [AV.ge] using hg) (hr.imp_left (by simp [AV.noRow])) h⟩
  | .func _ x y, _, hg, hr, ⟨xs, ys, e, h, h'⟩ => by
    simp only [AV.ge, Bool.and_eq_true] at hg
    exact ⟨xs, ys, e, RelL.up hu x hg.1 (hr.imp_left fun q => by simp only [AV.noRow, Bool.and_eq_true] at q; exact q.1) h, RelL.up hu y hg.2 (hr.imp_left fun q => by simp only [AV.noRow, Bool.and_eq_true] at q; exact q.2) h'⟩
theorem RelL.up {w : World} {k m : Nat} {H' J : View} (hu : Ups k m w H' J) : ∀ (cs : List AV) {vs : List Value}, geL k cs = true → (noRowL cs = true ∨ ∀ b, b < w.heap.size → J.wr b → H'.wr b) → RelL w cs H' vs → RelL w (upL k m cs) J vs
  | [], _, _, _, h => h
  | c :: cs, _, hg, hr, ⟨v, vs, e, h, h'⟩ => by
    simp only [geL, Bool.and_eq_true] at hg
    exact ⟨v, vs, e, RelV.up hu c hg.1 (hr.imp_left fun q => by simp only [noRowL, Bool.and_eq_true] at q; exact q.1) h, RelL.up hu cs hg.2 (hr.imp_left fun q => by simp only [noRowL, Bool.and_eq_true] at q; exact q.2) h'⟩
end

end Go.Lens
