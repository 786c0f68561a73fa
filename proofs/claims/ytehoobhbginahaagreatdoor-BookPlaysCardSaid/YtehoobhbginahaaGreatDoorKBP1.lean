/- Lens, part 8: the call of a function of which a Spec is known. Lens, part 9: the call of a function, put together. Lens, part 10: the rules for calls. Lens, part 11: builtins, conversions, literals, make, append, ranges over strings. Lens, part 12: regions that draw their order. -/
import Derived.Test.YtehoobhbginahaaGreatDoorKBP0
import Derived.Laws.MakeOwn
import Derived.Laws.OwnMore
import Derived.Laws.RangeString
import Derived.Laws.IdiomStrings
import Derived.Laws.BytesArg
import Derived.Maps.AppendAt

set_option linter.unusedVariables false
set_option linter.unusedSimpArgs false
namespace Go.Lens
open Go Go.RowKit
/-! ### what is handed over -/
inductive PassL (objs : List AObj) : Nat → List AV → List AV → List Nat → List (Nat × Nat) → List AObj → Prop
  | nil {j : Nat} : PassL objs j [] [] [] [] []
  | plain {j : Nat} {c : AV} {cs cs' : List AV} {L : List Nat} {B : List (Nat × Nat)} {O : List AObj} : c.plain = true → PassL objs j cs cs' L B O → PassL objs j (c :: cs) (c :: cs') L B O
  | lend {j o ver off n esz : Nat} {full : Bool} {ds : List AV} {own : Option TypeId} {cs cs' : List AV} {L : List Nat} {B : List (Nat × Nat)} {O : List AObj} : objs[o]? = some (.cells ds ver esz true own) → off + n * esz ≤ ds.length →
      PassL objs j cs cs' L B O → PassL objs j (.sl o ver off n full :: cs) (.row ((ds.drop off).take (n * esz)) n :: cs') (o :: L) B O
  | refS {j o ver off n esz : Nat} {full : Bool} {ds : List AV} {own : Option TypeId} {cs cs' : List AV} {L : List Nat} {B : List (Nat × Nat)} {O : List AObj} : objs[o]? = some (.cells ds ver esz true own) → off + n * esz ≤ ds.length →
      PassL objs (j + 1) cs cs' L B O → PassL objs j (.sl o ver off n full :: cs) (.sl j 0 0 n false :: cs') L ((o, off) :: B) (.cells ((ds.drop off).take (n * esz)) 0 esz true none :: O)
  | refP {j o ver i sz esz : Nat} {ds : List AV} {flat : Bool} {own : Option TypeId} {cs cs' : List AV} {L : List Nat} {B : List (Nat × Nat)} {O : List AObj} : objs[o]? = some (.cells ds ver esz flat own) → i + sz ≤ ds.length →
      (flat = false → plainL ((ds.drop i).take sz) = true) → PassL objs (j + 1) cs cs' L B O → PassL objs j (.ptr o ver i :: cs) (.ptr j 0 0 :: cs') L ((o, i) :: B) (.cells ((ds.drop i).take sz) 0 1 flat none :: O)
/-- the callee's view -/
def View.callee (H : View) (L : List Nat) (B : List (Nat × Nat)) : View :=
  { n := B.length, blk := fun j => H.blk (B.getD j (0, 0)).1, off := fun j => H.off (B.getD j (0, 0)).1 + (B.getD j (0, 0)).2, cap := fun _ => 0, ver := fun _ => 0,
    wr := fun b => H.wr b ∧ ∀ o, o ∈ L → b ≠ H.blk o }
theorem PassL.lent {objs : List AObj} : ∀ {j : Nat} {cs cs' : List AV} {L : List Nat} {B : List (Nat × Nat)} {O : List AObj}, PassL objs j cs cs' L B O → ∀ o ∈ L, ∃ (ds : List AV) (ver esz : Nat) (own : Option TypeId), objs[o]? = some (AObj.cells ds ver esz true own)
 | _, _, _, _, _, _, .nil, _, h => by simp at h
 | _, _, _, _, _, _, .plain _ hr, o, h => PassL.lent hr o h
 | _, _, _, _, _, _, .lend hob _ hr, o, h => by
  rcases List.mem_cons.1 h with rfl | h
  ·exact ⟨_, _, _, _, hob⟩
  ·exact PassL.lent hr o h
 | _, _, _, _, _, _, .refS _ _ hr, o, h => PassL.lent hr o h
 | _, _, _, _, _, _, .refP _ _ _ hr, o, h => PassL.lent hr o h
/-- each object that is handed over to be written -/
theorem PassL.refs {objs : List AObj} : ∀ {j : Nat} {cs cs' : List AV} {L : List Nat} {B : List (Nat × Nat)} {O : List AObj}, PassL objs j cs cs' L B O → B.length = O.length ∧
  ∀ (i o off : Nat), B[i]? = some (o, off) → ∃ (ds : List AV) (ver esz : Nat) (flat : Bool) (own : Option TypeId) (len esz' : Nat), objs[o]? = some (AObj.cells ds ver esz flat own) ∧ off + len ≤ ds.length ∧ O[i]? = some (.cells ((ds.drop off).take len) 0 esz' flat none) ∧ (flat = false → plainL ((ds.drop off).take len) = true)
 | _, _, _, _, _, _, .nil => ⟨rfl, fun i o off h => by simp at h⟩
 | _, _, _, _, _, _, .plain _ hr => PassL.refs hr
 | _, _, _, _, _, _, .lend _ _ hr => PassL.refs hr
 | _, _, _, _, _, _, .refS hob hb hr => by
  obtain ⟨h1, h2⟩ := PassL.refs hr
  refine ⟨by simp [h1], fun i o off h => ?_⟩
  cases i with
  | zero => simp at h; obtain ⟨rfl, rfl⟩ := h; exact ⟨_, _, _, _, _, _, _, hob, hb, rfl, fun h => by cases h⟩
  | succ i => simpa using h2 i o off (by simpa using h)
 | _, _, _, _, _, _, .refP hob hb hp hr => by
  obtain ⟨h1, h2⟩ := PassL.refs hr
  refine ⟨by simp [h1], fun i o off h => ?_⟩
  cases i with
  | zero => simp at h; obtain ⟨rfl, rfl⟩ := h; exact ⟨_, _, _, _, _, _, _, hob, hb, rfl, hp⟩
  | succ i => simpa using h2 i o off (by simpa using h)
theorem PassL.rel {w : World} {H Hc : View} {objs : List AObj} (ho : Objs w H objs) (hsub : ∀ b, b < w.heap.size → Hc.wr b → H.wr b) :
  ∀ {j : Nat} {cs cs' : List AV} {L : List Nat} {B : List (Nat × Nat)} {O : List AObj} (h : PassL objs j cs cs' L B O) (pre : List (Nat × Nat)) (hpre : pre.length = j) (hn : Hc.n = (pre ++ B).length)
   (hL : ∀ o, o ∈ L → ¬ Hc.wr (H.blk o))
   (hblk : ∀ (i o off : Nat), (pre ++ B)[i]? = some (o, off) → Hc.blk i = H.blk o ∧ Hc.off i = H.off o + off ∧ Hc.ver i = 0) {vs : List Value}, RelL w cs H vs → RelL w cs' Hc vs
 | _, _, _, _, _, _, .nil, _, _, _, _, _, _, h => h
 | _, _, _, _, _, _, .plain hc hr, pre, hpre, hn, hL, hblk, _, ⟨v, vs, e, h1, h2⟩ => ⟨v, vs, e, plain_to hsub hc h1, PassL.rel ho hsub hr pre hpre hn hL hblk h2⟩
 | _, _, _, _, _, _, .lend hob hb hr, pre, hpre, hn, hL, hblk, _, ⟨v, vs, e, h1, h2⟩ =>
  ⟨v, vs, e, sl_row ho hob hb (hL _ (by simp)) hsub h1, PassL.rel ho hsub hr pre hpre hn (fun o hm => hL o (by simp [hm])) hblk h2⟩
 | j, _, _, _, _, _, .refS (o := o) (off := off) (B := B) hob hb hr, pre, hpre, hn, hL, hblk, _, ⟨v, vs, e, h1, h2⟩ => by
  refine ⟨v, vs, e, ?_, PassL.rel ho hsub hr (pre ++ [(o, off)]) (by simp [hpre]) (by simpa using hn) hL (fun i x y hi => hblk i x y (by simpa using hi)) h2⟩
  obtain ⟨b1, b2, b3⟩ := hblk j o off (by simp [← hpre])
  obtain ⟨g1, _⟩ := ho.rel o _ hob
  obtain ⟨_, _, hp⟩ := h1
  obtain ⟨ad, c, e1, e2, e3, e4⟩ := hp g1
  refine ⟨by simp at hn; omega, by omega, fun _ => ⟨ad, c, e1, e2, fun hpos => ?_, fun h => by cases h⟩⟩
  rw [b1, b2, e3 hpos]; rfl
 | j, _, _, _, _, _, .refP (o := o) (i := off) (B := B) hob hb hp' hr, pre, hpre, hn, hL, hblk, _, ⟨v, vs, e, h1, h2⟩ => by
  refine ⟨v, vs, e, ?_, PassL.rel ho hsub hr (pre ++ [(o, off)]) (by simp [hpre]) (by simpa using hn) hL (fun i x y hi => hblk i x y (by simpa using hi)) h2⟩
  obtain ⟨b1, b2, b3⟩ := hblk j o off (by simp [← hpre])
  obtain ⟨g1, _⟩ := ho.rel o _ hob
  obtain ⟨_, _, hp⟩ := h1
  have e1 := hp g1
  refine ⟨by simp at hn; omega, by omega, fun _ => ?_⟩
  rw [b1, b2, e1]; rfl
theorem Objs.callee {w : World} {H : View} {objs : List AObj} (ho : Objs w H objs) {cs cs' : List AV} {L : List Nat} {B : List (Nat × Nat)} {O : List AObj} (h : PassL objs 0 cs cs' L B O)
  (hnd : (B.map (·.1)).Nodup) (hdis : ∀ o, o ∈ L → o ∉ B.map (·.1)) : Objs w (H.callee L B) O := by
 obtain ⟨hlen, href⟩ := h.refs
 have hsub : ∀ b, b < w.heap.size → (H.callee L B).wr b → H.wr b := fun b _ hb => hb.1
 have hget : ∀ (i : Nat) (ob : AObj), O[i]? = some ob → ∃ o off : Nat, B[i]? = some (o, off) ∧ B.getD i (0, 0) = (o, off) := by
  intro i ob hi
  have hlt : i < B.length := by rw [hlen]; exact (List.getElem?_eq_some_iff.1 hi).1
  exact ⟨(B[i]).1, (B[i]).2, by simp [hlt], by simp [hlt]⟩
 have hwr : ∀ (i o off : Nat), B[i]? = some (o, off) → (H.callee L B).wr (H.blk o) := by
  intro i o off hi
  obtain ⟨ds, ver, esz, flat, own, len, esz', h1, h2, h3, h4⟩ := href i o off hi
  refine ⟨ho.wr_blk h1 rfl, fun o' ho' he => ?_⟩
  obtain ⟨ds', ver', esz'', own', h1'⟩ := h.lent o' ho'
  have := ho.inj o o' _ _ h1 h1' rfl rfl he
  subst this
  exact hdis o ho' (List.mem_map.2 ⟨(o, off), List.mem_of_getElem? hi, rfl⟩)
 refine ⟨hlen, ?_, ?_, fun b hb => ho.lt b hb.1⟩
 ·intro i ob hi
  obtain ⟨o, off, hb, hgd⟩ := hget i ob hi
  obtain ⟨ds, ver, esz, flat, own, len, esz', h1, h2, h3, h4⟩ := href i o off hb
  rw [h3] at hi
  injection hi with hi; subst hi
  obtain ⟨g1, g2, vs, c, e, g3, g4, g5, g6⟩ := ho.rel o _ h1
  refine ⟨rfl, by simp only [View.callee, hgd]; exact hwr i o off hb, (vs.drop off).take len, c, e, by simp only [View.callee, hgd]; exact g3, ?_, ?_, fun t ht => by cases ht⟩
  ·cases flat
   ·exact plainL_to hsub (h4 rfl) ((RelL.drop off g4).take len)
   ·have hbare : Keeps w H.bare w (H.callee L B).bare := ⟨fun _ _ h _ => h, hsub, Nat.le_refl _, fun _ h => absurd h (Nat.not_lt_zero _), fun _ h => absurd h (Nat.not_lt_zero _)⟩
    exact ((RelL.drop off g4).take len).keeps _ hbare
  ·intro j u hu
   simp only [View.callee, hgd]
   rw [List.getElem?_take] at hu
   split at hu
   ·rw [List.getElem?_drop] at hu
    rw [Nat.add_assoc]
    exact g5 _ _ hu
   ·cases hu
 ·intro i i' ob ob' h1 h1' l1 l2 hbb
  obtain ⟨o, off, hb, hgd⟩ := hget i ob h1
  obtain ⟨o', off', hb', hgd'⟩ := hget i' ob' h1'
  simp only [View.callee, hgd, hgd'] at hbb
  obtain ⟨ds, ver, esz, flat, own, len, esz', q1, _⟩ := href i o off hb
  obtain ⟨ds', ver', esz'', flat', own', len', esz''', q1', _⟩ := href i' o' off' hb'
  have := ho.inj o o' _ _ q1 q1' rfl rfl hbb
  subst this
  exact nodup_get hnd (by rw [List.getElem?_map, hb]; rfl) (by rw [List.getElem?_map, hb']; rfl)
/-! ### what comes back -/
mutual
def AV.noRow : AV → Bool
  | .row .. | .clip .. | .radr .. => false
  | .agg cs => noRowL cs
  | .tup cs => noRowL cs
  | .func _ x y => noRowL x && noRowL y
  | _ => true
def noRowL : List AV → Bool
  | [] => true
  | c :: cs => c.noRow && noRowL cs
end
mutual
/-- it names no object below k -/
def AV.ge (k : Nat) : AV → Bool
  | .ptr o _ _ => decide (k ≤ o)
  | .sl o _ _ _ _ => decide (k ≤ o)
  | .mp o _ => decide (k ≤ o)
  | .agg cs => geL k cs
  | .tup cs => geL k cs
  | .func _ x y => geL k x && geL k y
  | _ => true
def geL (k : Nat) : List AV → Bool
  | [] => true
  | c :: cs => c.ge k && geL k cs
end
mutual
def AV.up (k m : Nat) : AV → AV
  | .ptr o ver i => .ptr (m + (o - k)) ver i
  | .sl o ver off n full => .sl (m + (o - k)) ver off n full
  | .mp o ver => .mp (m + (o - k)) ver
  | .agg cs => .agg (upL k m cs)
  | .tup cs => .tup (upL k m cs)
  | .func f x y => .func f (upL k m x) (upL k m y)
  | c => c
def upL (k m : Nat) : List AV → List AV
  | [] => []
  | c :: cs => c.up k m :: upL k m cs
end
structure Ups (k m : Nat) (w : World) (H' J : View) : Prop where
  id : ∀ i, k ≤ i → i < H'.n → m + (i - k) < J.n ∧ J.blk (m + (i - k)) = H'.blk i ∧ J.off (m + (i - k)) = H'.off i ∧ J.cap (m + (i - k)) = H'.cap i ∧ J.ver (m + (i - k)) = H'.ver i
mutual
theorem RelV.up {w : World} {k m : Nat} {H' J : View} (hu : Ups k m w H' J) : ∀ (c : AV) {v : Value}, c.ge k = true → (c.noRow = true ∨ ∀ b, b < w.heap.size → J.wr b → H'.wr b) → RelV w c H' v → RelV w (c.up k m) J v
  | .any, _, _, _, _ => trivial
  | .int .., _, _, _, h => h
  | .bool .., _, _, _, h => h
  | .str .., _, _, _, h => h
  | .nilp, _, _, _, h => h
  | .nils, _, _, _, h => h
  | .nilFunc, _, _, _, h => h
  | .nilm, _, _, _, h => h
  | .row .., _, _, hr, h => by
    rcases hr with hr | hr
    · cases hr
    · exact plain_to hr rfl h
  | .clip .., _, _, hr, h => by
    rcases hr with hr | hr
    · cases hr
    · exact plain_to hr rfl h
  | .radr .., _, _, hr, h => by
    rcases hr with hr | hr
    · cases hr
    · exact plain_to hr rfl h
  | .ptr o ver i, _, hg, _, ⟨h1, h2, h3⟩ => by
    have hg : k ≤ o := by simpa [AV.ge] using hg
    obtain ⟨q1, q2, q3, q4, q5⟩ := hu.id o hg h1
    refine ⟨q1, by rw [q5]; exact h2, fun he => ?_⟩
    rw [q2, q3]; exact h3 (q5 ▸ he)
  | .mp o ver, _, hg, _, ⟨h1, h2, h3⟩ => by
    have hg : k ≤ o := by simpa [AV.ge] using hg
    obtain ⟨q1, q2, q3, q4, q5⟩ := hu.id o hg h1
    refine ⟨q1, by rw [q5]; exact h2, fun he => ?_⟩
    rw [q2]; exact h3 (q5 ▸ he)
  | .sl o ver off n full, _, hg, _, ⟨h1, h2, h3⟩ => by
    have hg : k ≤ o := by simpa [AV.ge] using hg
    obtain ⟨q1, q2, q3, q4, q5⟩ := hu.id o hg h1
    refine ⟨q1, by rw [q5]; exact h2, fun he => ?_⟩
    rw [q2, q3, q4]; exact h3 (q5 ▸ he)
  | .agg cs, _, hg, hr, ⟨vs, e, h⟩ => ⟨vs, e, RelL.up hu cs (by simpa [AV.ge] using hg) (hr.imp_left (by simp [AV.noRow])) h⟩
  | .tup cs, _, hg, hr, ⟨vs, e, h⟩ => ⟨vs, e, RelL.up hu cs (by simpa [AV.ge] using hg) (hr.imp_left (by simp [AV.noRow])) h⟩
  | .func _ x y, _, hg, hr, ⟨xs, ys, e, h, h'⟩ => by
    simp only [AV.ge, Bool.and_eq_true] at hg
    exact ⟨xs, ys, e, RelL.up hu x hg.1 (hr.imp_left fun q => by simp only [AV.noRow, Bool.and_eq_true] at q; exact q.1) h, RelL.up hu y hg.2 (hr.imp_left fun q => by simp only [AV.noRow, Bool.and_eq_true] at q; exact q.2) h'⟩
theorem RelL.up {w : World} {k m : Nat} {H' J : View} (hu : Ups k m w H' J) : ∀ (cs : List AV) {vs : List Value}, geL k cs = true → (noRowL cs = true ∨ ∀ b, b < w.heap.size → J.wr b → H'.wr b) → RelL w cs H' vs → RelL w (upL k m cs) J vs
  | [], _, _, _, h => h
  | c :: cs, _, hg, hr, ⟨v, vs, e, h, h'⟩ => by
    simp only [geL, Bool.and_eq_true] at hg
    exact ⟨v, vs, e, RelV.up hu c hg.1 (hr.imp_left fun q => by simp only [noRowL, Bool.and_eq_true] at q; exact q.1) h, RelL.up hu cs hg.2 (hr.imp_left fun q => by simp only [noRowL, Bool.and_eq_true] at q; exact q.2) h'⟩
end
end Go.Lens

set_option linter.unusedVariables false
set_option linter.unusedSimpArgs false
namespace Go.Lens
open Go Go.RowKit
def mergeO : AObj → Nat → AObj → AObj
  | .cells ds ver esz flat own, off, .cells ds' _ _ _ _ => .cells (splice ds off ds') ver esz flat own
  | o, _, _ => o
def wb (objs : List AObj) : List (Nat × Nat) → List AObj → List AObj
  | (o, off) :: B, o' :: O => wb (objs.set o (mergeO (objs.getD o .dead) off o')) B O
  | _, _ => objs
def killL (objs : List AObj) : List Nat → List AObj
  | [] => objs
  | o :: L => killL (objs.set o .dead) L
theorem wb_length : ∀ (B : List (Nat × Nat)) (O : List AObj) (objs : List AObj), (wb objs B O).length = objs.length
 | [], _, _ => by simp [wb]
 | _ :: _, [], _ => by simp [wb]
 | (o, off) :: B, o' :: O, objs => by simp [wb, wb_length B O]
theorem killL_length : ∀ (L : List Nat) (objs : List AObj), (killL objs L).length = objs.length
 | [], _ => rfl
 | o :: L, objs => by simp [killL, killL_length L]
theorem killL_get : ∀ (L : List Nat) (objs : List AObj) (x : Nat), (killL objs L)[x]? = if x ∈ L ∧ x < objs.length then some .dead else objs[x]?
 | [], objs, x => by simp [killL]
 | o :: L, objs, x => by
  rw [killL, killL_get L]
  by_cases hx : x ∈ L ∧ x < objs.length
  ·rw [if_pos (by simpa using hx), if_pos ⟨List.mem_cons_of_mem _ hx.1, hx.2⟩]
  ·rw [if_neg (by simpa using hx)]
   by_cases e : x = o
   ·subst e
    by_cases hl : x < objs.length
    ·rw [if_pos ⟨by simp, hl⟩, List.getElem?_set_self hl]
    ·rw [if_neg (fun h => hl h.2), List.getElem?_eq_none (by simpa using hl), List.getElem?_eq_none (by simpa using hl)]
   ·rw [List.getElem?_set_ne (fun h => e h.symm), if_neg]
    rintro ⟨h1, h2⟩
    rcases List.mem_cons.1 h1 with h1 | h1
    ·exact e h1
    ·exact hx ⟨h1, h2⟩
theorem wb_ne : ∀ (B : List (Nat × Nat)) (O objs : List AObj) (x : Nat), x ∉ B.map (·.1) → (wb objs B O)[x]? = objs[x]?
 | [], _, _, _, _ => by simp [wb]
 | _ :: _, [], _, _, _ => by simp [wb]
 | (o, off) :: B, o' :: O, objs, x, h => by
  simp only [List.map_cons, List.mem_cons, not_or] at h
  rw [wb, wb_ne B O _ x h.2, List.getElem?_set_ne (fun e => h.1 e.symm)]
theorem wb_eq : ∀ (B : List (Nat × Nat)) (O objs : List AObj), (B.map (·.1)).Nodup → ∀ (i o off : Nat) (o' ob : AObj), B[i]? = some (o, off) → O[i]? = some o' → objs[o]? = some ob → (wb objs B O)[o]? = some (mergeO ob off o')
 | (x, off') :: B, y :: O, objs, hnd, 0, o, off, o', ob, hB, hO, hob => by
  simp at hB hO
  obtain ⟨rfl, rfl⟩ := hB
  subst hO
  simp only [List.map_cons, List.nodup_cons] at hnd
  have hlt := (List.getElem?_eq_some_iff.1 hob).1
  rw [wb, wb_ne B O _ x hnd.1, List.getElem?_set_self hlt]
  simp [hob]
 | (x, off') :: B, y :: O, objs, hnd, i + 1, o, off, o', ob, hB, hO, hob => by
  simp only [List.map_cons, List.nodup_cons] at hnd
  have hB' : B[i]? = some (o, off) := by simpa using hB
  have hne : o ≠ x := by
   rintro rfl
   exact hnd.1 (List.mem_map.2 ⟨(o, off), List.mem_of_getElem? hB', rfl⟩)
  rw [wb]
  refine wb_eq B O _ hnd.2 i o off o' ob hB' (by simpa using hO) ?_
  rw [List.getElem?_set_ne (fun e => hne e.symm)]; exact hob
 | [], _, _, _, _, _, _, _, _, hB, _, _ => by simp at hB
 | _ :: _, [], _, _, _, _, _, _, _, _, hO, _ => by simp at hO
theorem Outside.mono {w w' : World} {b off n off' n' : Nat} (h : Outside w w' b off n) (h1 : off' ≤ off) (h2 : off + n ≤ off' + n') : Outside w w' b off' n' := by
 intro c e hc
 obtain ⟨c0, g1, g2, g3⟩ := h c e hc
 exact ⟨c0, g1, g2, fun j hj => g3 j (by omega)⟩
def AObj.noRow : AObj → Bool
  | .cells cs _ _ _ _ => noRowL cs
  | .kv _ es => noRowL (es.map (·.2))
  | _ => true
def AObj.ge (k : Nat) : AObj → Bool
  | .cells cs _ _ false _ => geL k cs
  | _ => true
def AObj.up (k m : Nat) : AObj → AObj
  | .cells cs ver esz false own => .cells (upL k m cs) ver esz false own
  | o => o
/-- what came back of what was handed over to be written -/
def Same (O O' : List AObj) : Prop := ∀ (i : Nat) (ds : List AV) (ver esz : Nat) (flat : Bool) (own : Option TypeId), O[i]? = some (AObj.cells ds ver esz flat own) →
  ∃ (ds' : List AV) (ver' esz' : Nat) (own' : Option TypeId), O'[i]? = some (AObj.cells ds' ver' esz' flat own') ∧ (flat = false → plainL ds' = true)
mutual
theorem RelV.bb {w : World} {H J : View} : ∀ (c : AV) {v : Value}, (c.noRow = true ∨ ∀ b, b < w.heap.size → J.wr b → H.wr b) → RelV w c H.bare v → RelV w c J.bare v
  | .any, _, _, _ => trivial
  | .int .., _, _, h => h
  | .bool .., _, _, h => h
  | .str .., _, _, h => h
  | .nilp, _, _, h => h
  | .nils, _, _, h => h
  | .nilFunc, _, _, h => h
  | .nilm, _, _, h => h
  | .row .., _, hr, h => by
    rcases hr with hr | hr
    · cases hr
    · exact plain_to (H' := J.bare) hr rfl h
  | .clip .., _, hr, h => by
    rcases hr with hr | hr
    · cases hr
    · exact plain_to (H' := J.bare) hr rfl h
  | .radr .., _, hr, h => by
    rcases hr with hr | hr
    · cases hr
    · exact plain_to (H' := J.bare) hr rfl h
  | .ptr .., _, _, ⟨h, _⟩ => absurd h (Nat.not_lt_zero _)
  | .mp .., _, _, ⟨h, _⟩ => absurd h (Nat.not_lt_zero _)
  | .sl .., _, _, ⟨h, _⟩ => absurd h (Nat.not_lt_zero _)
  | .agg cs, _, hr, ⟨vs, e, h⟩ => ⟨vs, e, RelL.bb cs (hr.imp_left (by simp [AV.noRow])) h⟩
  | .tup cs, _, hr, ⟨vs, e, h⟩ => ⟨vs, e, RelL.bb cs (hr.imp_left (by simp [AV.noRow])) h⟩
  | .func _ x y, _, hr, ⟨xs, ys, e, h, h'⟩ =>
    ⟨xs, ys, e, RelL.bb x (hr.imp_left fun q => by simp only [AV.noRow, Bool.and_eq_true] at q; exact q.1) h, RelL.bb y (hr.imp_left fun q => by simp only [AV.noRow, Bool.and_eq_true] at q; exact q.2) h'⟩
theorem RelL.bb {w : World} {H J : View} : ∀ (cs : List AV) {vs : List Value}, (noRowL cs = true ∨ ∀ b, b < w.heap.size → J.wr b → H.wr b) → RelL w cs H.bare vs → RelL w cs J.bare vs
  | [], _, _, h => h
  | c :: cs, _, hr, ⟨v, vs, e, h, h'⟩ =>
    ⟨v, vs, e, RelV.bb c (hr.imp_left fun q => by simp only [noRowL, Bool.and_eq_true] at q; exact q.1) h, RelL.bb cs (hr.imp_left fun q => by simp only [noRowL, Bool.and_eq_true] at q; exact q.2) h'⟩
end
def View.after (H H' : View) (m k n : Nat) (kl : Bool) : View :=
  { n := m + (n - k), blk := fun o => if o < m then H.blk o else H'.blk (o - m + k), off := fun o => if o < m then H.off o else H'.off (o - m + k),
    cap := fun o => if o < m then H.cap o else H'.cap (o - m + k), ver := fun o => if o < m then H.ver o else H'.ver (o - m + k), wr := fun b => if kl then H'.wr b else H.wr b ∨ H'.wr b }
theorem after_call {C : Ctx} {H H' : View} {st : St} {a : Act} {w w' : World} {avs args : List AV} {L : List Nat} {B : List (Nat × Nat)} {O O' : List AObj} {r : AV} {v : Value} {kl : Bool}
  (hi : Inv C H st a w) (hp : PassL st.objs 0 avs args L B O) (hnd : (B.map (·.1)).Nodup) (hdis : ∀ o, o ∈ L → o ∉ B.map (·.1))
  (hmine : kl = true → ∀ o, o ∈ L → ∃ (ds : List AV) (ver esz : Nat) (e : TypeId), st.objs[o]? = some (AObj.cells ds ver esz true (some e)))
  (hl : Left w (H.callee L B) O w' H' O') (hsame : Same O O') (hr : RelV w' r H' v) (hge : r.ge B.length = true) (hgeO : ∀ i ob, B.length ≤ i → O'[i]? = some ob → ob.ge B.length = true)
  (hkl : kl = true ∨ (r.noRow = true ∧ ∀ ob ∈ O', ob.noRow = true)) :
  ∃ J, Inv C J ⟨st.env, wb (if kl then killL st.objs L else st.objs) B O' ++ (O'.drop B.length).map (AObj.up B.length st.objs.length)⟩ a w' ∧ RelV w' (r.up B.length st.objs.length) J v := by
 generalize hm : st.objs.length = m
 generalize hk : B.length = k at *
 obtain ⟨hBO, href⟩ := hp.refs
 have hnm : H.n = m := hi.objs.n.trans hm
 have hOO := hl.len
 let J := H.after H' m k O'.length kl
 have hc := hi.objs.callee hp hnd hdis
 have hsz := hl.size
 have hwc : ∀ b, b < w.heap.size → (H'.wr b ↔ (H.wr b ∧ ∀ o, o ∈ L → b ≠ H.blk o)) := hl.wr
 have hJold : ∀ b, b < w.heap.size → J.wr b → H.wr b := by
  intro b hb hw
  simp only [J, View.after] at hw
  split at hw
  ·exact ((hwc b hb).1 hw).1
  ·rcases hw with hw | hw
   ·exact hw
   ·exact ((hwc b hb).1 hw).1
 have hJH' : kl = true → ∀ b, b < w'.heap.size → J.wr b → H'.wr b := by
  intro he b _ hw
  simpa [J, View.after, he] using hw
 have hH'J : ∀ b, H'.wr b → J.wr b := by
  intro b hw
  simp only [J, View.after]
  split
  ·exact hw
  ·exact .inr hw
 have hOlive : ∀ (i : Nat) (ob : AObj), O[i]? = some ob → ∃ (o off : Nat) (ds : List AV) (ver esz : Nat) (flat : Bool) (own : Option TypeId), B[i]? = some (o, off) ∧ st.objs[o]? = some (AObj.cells ds ver esz flat own) ∧ (H.callee L B).blk i = H.blk o := by
  intro i ob hob
  have hlt : i < B.length := by rw [hBO]; exact (List.getElem?_eq_some_iff.1 hob).1
  have hB : B[i]? = some ((B[i]).1, (B[i]).2) := by simp [hlt]
  obtain ⟨ds, ver, esz, flat, own, len, esz', h1, _⟩ := href i _ _ hB
  exact ⟨_, _, ds, ver, esz, flat, own, hB, h1, by simp [View.callee, hlt]⟩
 have hkept : ∀ b, b < w.heap.size → (∀ o ob, o ∈ B.map (·.1) → st.objs[o]? = some ob → ob.live = true → b ≠ H.blk o) → w'.heap[b]? = w.heap[b]? := by
  intro b hb hne
  refine hl.frame b hb fun i ob hob hlv => ?_
  obtain ⟨o, off, ds, ver, esz, flat, own, h1, h2, h3⟩ := hOlive i ob hob
  rw [h3]
  exact hne o _ (List.mem_map.2 ⟨(o, off), List.mem_of_getElem? h1, rfl⟩) h2 rfl
 have hK : Keeps w H w' J := by
  refine ⟨fun ad u hcell hx => ?_, hJold, ?_, fun o ho => ?_, fun o ho hv => ?_⟩
  ·rw [World.cell?_of_block (w := w) (hkept _ (World.block_lt_of_cell? w ad hcell) fun o ob ho hob hlv e => hx (e ▸ hi.objs.wr_blk hob hlv))]
   exact hcell
  ·show H.n ≤ m + (O'.length - k); omega
  ·have : o < m := by omega
   simp [J, View.after, this]
  ·have : o < m := by omega
   simp [J, View.after, this]
 have hups : Ups k m w' H' J := by
  refine ⟨fun i h1 h2 => ?_⟩
  have hn' := hl.ok.n
  have e1 : ¬ (m + (i - k) < m) := by omega
  have e2 : m + (i - k) - m + k = i := by omega
  refine ⟨?_, ?_⟩
  ·show m + (i - k) < m + (O'.length - k); omega
  ·simp only [J, View.after, if_neg e1, e2, and_self]
 have hrow : r.noRow = true ∨ ∀ b, b < w'.heap.size → J.wr b → H'.wr b := by
  rcases hkl with h | h
  ·exact .inr (hJH' h)
  ·exact .inl h.1
 refine ⟨J, ?_, hr.up hups r hge hrow⟩
 let X := if kl then killL st.objs L else st.objs
 have hXlen : X.length = m := by simp only [X]; split <;> simp [killL_length, hm]
 have hX : ∀ o ob, X[o]? = some ob → ob = .dead ∨ (st.objs[o]? = some ob ∧ (kl = true → o ∉ L)) := by
  intro o ob hob
  simp only [X] at hob
  split at hob
  ·rw [killL_get] at hob
   split at hob
   ·injection hob with hob; exact .inl hob.symm
   ·rename_i hno
    refine .inr ⟨hob, fun _ hoL => hno ⟨hoL, (List.getElem?_eq_some_iff.1 hob).1⟩⟩
  ·rename_i hkf
   exact .inr ⟨hob, fun h => absurd h hkf⟩
 have hXB : ∀ o ob, o ∈ B.map (·.1) → st.objs[o]? = some ob → X[o]? = some ob := by
  intro o ob hoB hob
  simp only [X]
  split
  ·rw [killL_get, if_neg]
   ·exact hob
   ·exact fun h => hdis o h.1 hoB
  ·exact hob
 have hget : ∀ (o : Nat) (ob : AObj), (wb X B O' ++ (O'.drop k).map (AObj.up k m))[o]? = some ob → ob = .dead ∨
   (o < m ∧ o ∉ B.map (·.1) ∧ st.objs[o]? = some ob ∧ (kl = true → o ∉ L)) ∨
   (o < m ∧ ∃ (i off : Nat) (ds : List AV) (ver esz : Nat) (flat : Bool) (own : Option TypeId) (len esz0 : Nat) (ds' : List AV) (ver' esz' : Nat) (own' : Option TypeId), B[i]? = some (o, off) ∧ st.objs[o]? = some (AObj.cells ds ver esz flat own) ∧ off + len ≤ ds.length ∧ ds'.length = len ∧
    O[i]? = some (AObj.cells ((ds.drop off).take len) 0 esz0 flat none) ∧ O'[i]? = some (AObj.cells ds' ver' esz' flat own') ∧ (flat = false → plainL ds' = true) ∧ ob = .cells (splice ds off ds') ver esz flat own) ∨
   (m ≤ o ∧ ∃ ob', O'[o - m + k]? = some ob' ∧ ob = ob'.up k m) := by
  intro o ob hob
  rw [List.getElem?_append] at hob
  rw [wb_length, hXlen] at hob
  split at hob
  ·rename_i hlt
   by_cases hoB : o ∈ B.map (·.1)
   ·obtain ⟨p, hpB, hpo⟩ := List.mem_map.1 hoB
    obtain ⟨i, hiB⟩ := List.getElem?_of_mem hpB
    obtain ⟨x, off⟩ := p
    simp only at hpo
    subst hpo
    obtain ⟨ds, ver, esz, flat, own, len, esz0, q1, q2, q3, q4⟩ := href i x off hiB
    obtain ⟨ds', ver', esz', own', q5, q6⟩ := hsame i _ _ _ _ _ q3
    have hlen := hl.lens i _ _ _ _ _ q3 _ _ _ _ _ q5
    have := wb_eq B O' X hnd i x off _ _ hiB q5 (hXB x _ hoB q1)
    rw [this] at hob
    injection hob with hob
    refine .inr (.inr (.inl ⟨hlt, i, off, ds, ver, esz, flat, own, len, esz0, ds', ver', esz', own', hiB, q1, q2, ?_, q3, q5, q6, hob.symm⟩))
    rw [hlen]; simp; omega
   ·rw [wb_ne B O' X o hoB] at hob
    rcases hX o ob hob with h | ⟨h1, h2⟩
    ·exact .inl h
    ·exact .inr (.inl ⟨hlt, hoB, h1, h2⟩)
  ·rename_i hge'
   rw [List.getElem?_map] at hob
   obtain ⟨ob', h1, h2⟩ := Option.map_eq_some_iff.1 hob
   rw [List.getElem?_drop] at h1
   exact .inr (.inr (.inr ⟨by omega, ob', by rw [Nat.add_comm]; exact h1, h2.symm⟩))
 have hJo : ∀ o, o < m → J.blk o = H.blk o ∧ J.off o = H.off o ∧ J.cap o = H.cap o ∧ J.ver o = H.ver o := by
  intro o ho
  simp [J, View.after, ho]
 have hJn : ∀ o, m ≤ o → J.blk o = H'.blk (o - m + k) ∧ J.off o = H'.off (o - m + k) ∧ J.cap o = H'.cap (o - m + k) ∧ J.ver o = H'.ver (o - m + k) := by
  intro o ho
  simp [J, View.after, show ¬ o < m by omega]
 have hup : ∀ (ob : AObj), (ob.up k m).live = ob.live := by
  intro ob
  cases ob with
  | dead => rfl
  | iter => rfl
  | kv => rfl
  | slot => rfl
  | cells cs ver esz flat own => cases flat <;> rfl
 have hwhere : ∀ o ob, (wb X B O' ++ (O'.drop k).map (AObj.up k m))[o]? = some ob → ob.live = true →
   (o < m ∧ J.blk o = H.blk o ∧ J.blk o < w.heap.size ∧ ∃ ob0, st.objs[o]? = some ob0 ∧ ob0.live = true ∧ (ob.mine = true → ob0.mine = true)) ∨
   (m ≤ o ∧ w.heap.size ≤ J.blk o ∧ ∃ ob', O'[o - m + k]? = some ob' ∧ ob'.live = true ∧ J.blk o = H'.blk (o - m + k)) := by
  intro o ob hob hlv
  rcases hget o ob hob with rfl | ⟨h1, _, h3, _⟩ | ⟨h1, i, off, ds, ver, esz, flat, own, len, esz0, ds', ver', esz', own', q1, q2, q3, q4, q5, q6, q7, rfl⟩ | ⟨h1, ob', h2, rfl⟩
  ·cases hlv
  ·refine .inl ⟨h1, (hJo o h1).1, ?_, ob, h3, hlv, id⟩
   rw [(hJo o h1).1]; exact hi.objs.lt _ (hi.objs.wr_blk h3 hlv)
  ·refine .inl ⟨h1, (hJo o h1).1, ?_, _, q2, rfl, ?_⟩
   ·rw [(hJo o h1).1]; exact hi.objs.lt _ (hi.objs.wr_blk q2 rfl)
   ·cases own <;> simp [AObj.mine]
  ·rw [hup] at hlv
   refine .inr ⟨h1, ?_, ob', h2, hlv, (hJn o h1).1⟩
   rw [(hJn o h1).1]
   exact hl.new _ ob' (by omega) h2 hlv
 have hkm : C.k ≤ m := by have := hi.klen; omega
 refine ⟨hi.size, hi.defers, fun t av ht => (hi.env t av ht).keeps av hK, ⟨?_, ?_, ?_, ?_⟩, ?_, ?_, ?_, ?_, ?_, ?_, ?_, Nat.le_trans hi.le hsz, hl.os.trans hi.os, hl.tape.trans hi.tape, hl.output.trans hi.output, fun p hp t av ht => (hi.saved p hp t av ht).keeps av hK⟩
 ·show m + (O'.length - k) = (wb X B O' ++ (O'.drop k).map (AObj.up k m)).length
  simp [wb_length, hXlen]
 ·-- what each says of the world
  intro o ob hob
  rcases hget o ob hob with rfl | ⟨h1, h2, h3, h4⟩ | ⟨h1, i, off, ds, ver, esz, flat, own, len, esz0, ds', ver', esz', own', q1, q2, q3, q4, q5, q6, q7, rfl⟩ | ⟨h1, ob', h2, rfl⟩
  ·trivial
  ·by_cases hlv : ob.live = true
   ·obtain ⟨b1, b2, b3, b4⟩ := hJo o h1
    have hblt := hi.objs.lt _ (hi.objs.wr_blk h3 hlv)
    refine (hi.objs.rel o ob h3).keeps hK b1 b2 b3 b4 (fun hw => ?_) (hkept _ hblt fun o' ob' ho' hob' hlv' e => ?_)
    ·cases hq : kl with
     | false => simp only [J, View.after, hq]; exact .inl hw
     | true =>
      simp only [J, View.after, hq, if_true]
      refine (hwc _ hblt).2 ⟨hw, fun o' ho' e => ?_⟩
      obtain ⟨ds', ver', esz', own', hob'⟩ := hp.lent o' ho'
      have := hi.objs.inj o o' _ _ h3 hob' hlv rfl e
      subst this
      exact h4 hq ho'
    ·have := hi.objs.inj o o' _ _ h3 hob' hlv hlv' e
     subst this
     exact h2 ho'
   ·cases ob <;> first | trivial | (simp [AObj.live] at hlv; done) | (have := hi.objs.rel o _ h3; simp only [RelO] at this ⊢; rw [(hJo o h1).2.2.2]; exact this)
  ·obtain ⟨b1, b2, b3, b4⟩ := hJo o h1
   obtain ⟨g1, g2, vs, c, e, g3, g4, g5, g6⟩ := hi.objs.rel o _ q2
   obtain ⟨f1, f2, us, c', e', f3, f4, f5, f6⟩ := hl.ok.rel i _ q6
   have hilt : i < B.length := (List.getElem?_eq_some_iff.1 q1).1
   have hgd : B.getD i (0, 0) = (o, off) := by simp [q1]
   obtain ⟨d1, d2, d3⟩ := hl.old i _ q5 rfl
   have hb1 : H'.blk i = H.blk o := by rw [d1]; simp only [View.callee, hgd]
   have hb2 : H'.off i = H.off o + off := by rw [d2]; simp only [View.callee, hgd]
   rw [hb1] at f3
   have hout := hl.out i _ _ _ _ _ q5
   have hcb : (H.callee L B).blk i = H.blk o := by simp only [View.callee, hgd]
   have hco : (H.callee L B).off i = H.off o + off := by simp only [View.callee, hgd]
   rw [hcb, hco] at hout
   obtain ⟨c0, o1, o2, o3⟩ := hout c' e' f3
   rw [g3] at o1
   injection o1 with o1
   injection o1 with o1 o1e
   subst o1; subst o1e
   have hlen := f4.length
   have hlenv := g4.length
   have hdl : ((ds.drop off).take len).length = len := by simp; omega
   have hwo : J.wr (H.blk o) := hH'J _ (hb1 ▸ f2)
   refine ⟨b4.trans g1, by rw [b1]; exact hwo, splice vs off us, c', e, by rw [b1]; exact f3, ?_, ?_, ?_⟩
   ·-- the cells
    have k1 : RelL w' ds (J.flatIf flat) vs := g4.keeps _ (hK.flatIf flat)
    have k2 : RelL w' ds' (J.flatIf flat) us := by
     have hrw : noRowL ds' = true ∨ ∀ b, b < w'.heap.size → J.wr b → H'.wr b := by
      rcases hkl with h | h
      ·exact .inr (hJH' h)
      ·exact .inl (h.2 _ (List.mem_of_getElem? q6))
     have hb : RelL w' ds' H'.bare us := by
      cases flat
      ·exact f4.bare ds' (q7 rfl)
      ·exact f4
     exact RelL.keeps ds' ⟨fun _ _ h _ => h, fun _ _ h => by cases flat <;> exact h, by cases flat <;> simp [View.flatIf], fun _ h => absurd h (Nat.not_lt_zero _), fun _ h => absurd h (Nat.not_lt_zero _)⟩ (RelL.bb ds' (J := J) hrw hb)
    exact k1.splice k2 off
   ·intro j u hu
    rw [b2]
    rw [get_splice (by omega)] at hu
    split at hu
    ·rename_i hj
     have := f5 (j - off) u hu
     rw [hb2] at this
     rw [show H.off o + j = H.off o + off + (j - off) by omega]; exact this
    ·rename_i hj
     rw [o3 _ (by rw [hdl]; omega)]
     exact g5 j u hu
   ·intro t ht
    rw [b2, b3]
    obtain ⟨p1, p2, p3, p4, N, p5, p6⟩ := g6 t ht
    refine ⟨p1, p2, by rw [o2]; exact p3, p4, N, ?_, p6⟩
    rw [← p5]
    simp only [Lens.splice, List.length_append, List.length_take, List.length_drop]
    omega
  ·obtain ⟨b1, b2, b3, b4⟩ := hJn o h1
   have hr' := hl.ok.rel _ _ h2
   have hgo := hgeO _ _ (by omega) h2
   have hrw : ob'.noRow = true ∨ ∀ b, b < w'.heap.size → J.wr b → H'.wr b := by
    rcases hkl with h | h
    ·exact .inr (hJH' h)
    ·exact .inl (h.2 _ (List.mem_of_getElem? h2))
   cases ob' with
   | dead => trivial
   | slot => show J.ver o = 0; rw [b4]; exact hr'
   | iter s pos =>
    obtain ⟨g0, g1, g2, g3⟩ := hr'
    exact ⟨by rw [b4]; exact g0, by rw [b1]; exact hH'J _ g1, by rw [b2]; exact g2, by rw [b1]; exact g3⟩
   | kv k0 es =>
    obtain ⟨g0, g1, es', cl, g3, g4, g5⟩ := hr'
    exact ⟨by rw [b4]; exact g0, by rw [b1]; exact hH'J _ g1, es', cl, by rw [b1]; exact g3, g4, RelL.bb _ hrw g5⟩
   | cells cs ver esz flat own =>
    obtain ⟨g1, g2, vs, c, e, g3, g4, g5, g6⟩ := hr'
    cases flat with
    | false => exact ⟨by rw [b4]; exact g1, by rw [b1]; exact hH'J _ g2, vs, c, e, by rw [b1]; exact g3, g4.up hups cs hgo hrw, by rw [b2]; exact g5, by rw [b2, b3]; exact g6⟩
    | true =>
     refine ⟨by rw [b4]; exact g1, by rw [b1]; exact hH'J _ g2, vs, c, e, by rw [b1]; exact g3, ?_, by rw [b2]; exact g5, by rw [b2, b3]; exact g6⟩
     exact RelL.bb cs hrw g4
 ·intro o o' ob ob' h1 h2 l1 l2 hbb
  rcases hwhere o ob h1 l1 with ⟨a1, a2, a3, ob0, a4, a5, _⟩ | ⟨a1, a2, ob0, a4, a5, a6⟩ <;> rcases hwhere o' ob' h2 l2 with ⟨c1, c2, c3, ob1, c4, c5, _⟩ | ⟨c1, c2, ob1, c4, c5, c6⟩
  ·rw [a2, c2] at hbb
   exact hi.objs.inj o o' _ _ a4 c4 a5 c5 hbb
  ·omega
  ·omega
  ·rw [a6, c6] at hbb
   have := hl.ok.inj _ _ _ _ a4 c4 a5 c5 hbb
   omega
 ·intro b hb
  simp only [J, View.after] at hb
  split at hb
  ·exact hl.ok.lt b hb
  ·rcases hb with hb | hb
   ·have := hi.objs.lt b hb; omega
   ·exact hl.ok.lt b hb
 ·intro b hb
  have hbw : b < w.heap.size := Nat.lt_of_lt_of_le hb hi.le
  rw [← hi.wr0 b hb]
  refine ⟨hJold b hbw, fun hw => ?_⟩
  cases hq : kl with
  | false => simp only [J, View.after, hq]; exact .inl hw
  | true =>
   simp only [J, View.after, hq, if_true]
   refine (hwc _ hbw).2 ⟨hw, fun o' ho' e => ?_⟩
   obtain ⟨ds', ver', esz', e', hob'⟩ := hmine hq o' ho'
   rcases hi.own o' _ hob' rfl with ⟨_, hm'⟩ | hge'
   ·cases hm'
   ·omega
 ·show C.k ≤ (wb X B O' ++ (O'.drop k).map (AObj.up k m)).length
  rw [List.length_append, wb_length, hXlen]; omega
 ·intro o ho
  obtain ⟨b1, b2, b3, _⟩ := hJo o (by omega)
  rw [b1, b2, b3]; exact hi.byref o ho
 ·intro o cs ver esz flat own ho hob
  rcases hget o _ hob with h | ⟨h1, h2, h3, h4⟩ | ⟨h1, i, off, ds, ver0, esz1, flat0, own0, len, esz0, ds', ver', esz', own', q1, q2, q3, q4, q5, q6, q7, h⟩ | ⟨h1, _⟩
  ·cases h
  ·exact hi.lens o cs ver esz flat own ho h3
  ·injection h with h
   rw [h, ← hi.lens o _ _ _ _ _ ho q2]
   simp only [Lens.splice, List.length_append, List.length_take, List.length_drop]
   omega
  ·omega
 ·intro o ho
  refine (hi.out o ho).trans ?_
  obtain ⟨p1, p2, _⟩ := hi.byref o ho
  by_cases hoB : o ∈ B.map (·.1)
  ·obtain ⟨p, hpB, hpo⟩ := List.mem_map.1 hoB
   obtain ⟨i, hiB⟩ := List.getElem?_of_mem hpB
   obtain ⟨x, off⟩ := p
   simp only at hpo
   subst hpo
   obtain ⟨ds, ver, esz, flat, own, len, esz0, q1, q2, q3, q4⟩ := href i x off hiB
   have hgd : B.getD i (0, 0) = (x, off) := by simp [hiB]
   have hout := hl.out i _ _ _ _ _ q3
   have hcb : (H.callee L B).blk i = H.blk x := by simp only [View.callee, hgd]
   have hco : (H.callee L B).off i = H.off x + off := by simp only [View.callee, hgd]
   rw [hcb, hco] at hout
   rw [← p1, ← p2]
   refine hout.mono (by omega) ?_
   rw [← hi.lens x _ _ _ _ _ ho q1]
   simp; omega
  ·refine Outside.of_eq (hkept _ (Nat.lt_of_lt_of_le (C.hk o ho) hi.le) fun o' ob' ho' hob' hlv' e => ?_) _ _
   rcases hi.own o' ob' hob' hlv' with ⟨h1, _⟩ | h1
   ·rw [(hi.byref o' h1).1] at e
    have := C.hj o o' ho h1 e
    subst this
    exact hoB ho'
   ·have := C.hk o ho; omega
 ·intro o ob hob hlv
  rcases hwhere o ob hob hlv with ⟨a1, a2, a3, ob0, a4, a5, a6⟩ | ⟨a1, a2, _⟩
  ·rcases hi.own o ob0 a4 a5 with ⟨h1, h2⟩ | h1
   ·left
    refine ⟨h1, ?_⟩
    cases hq : ob.mine
    ·rfl
    ·rw [a6 hq] at h2; cases h2
   ·right; rw [a2]; exact h1
  ·right; exact Nat.le_trans hi.le a2
 ·intro b hb hM
  have hbw : b < w.heap.size := Nat.lt_of_lt_of_le hb hi.le
  rw [hkept b hbw fun o' ob' ho' hob' hlv' e => ?_]
  ·exact hi.frame b hb hM
  ·rcases hi.own o' ob' hob' hlv' with ⟨h1, _⟩ | h1
   ·exact hM ⟨o', h1, by rw [e]; exact (hi.byref o' h1).1⟩
   ·omega
end Go.Lens

set_option linter.unusedVariables false
set_option linter.unusedSimpArgs false
namespace Go.Lens
open Go Go.RowKit
def evL (st : St) : List Operand → Option (List AV)
  | [] => some []
  | x :: xs => match ev st x, evL st xs with | some c, some cs => some (c :: cs) | _, _ => none
theorem evL_rel {C : Ctx} {H : View} {st : St} {a : Act} {w : World} (h : Inv C H st a w) : ∀ {xs : List Operand} {cs : List AV}, evL st xs = some cs → RelL w cs H (xs.map a.eval)
 | [], _, hx => by simp only [evL, Option.some.injEq] at hx; subst hx; rfl
 | x :: xs, cs, hx => by
  simp only [evL] at hx
  split at hx
  ·rename_i c cs' h1 h2
   injection hx with hx; subst hx
   exact RelL_cons (ev_rel h h1) (evL_rel h h2)
  ·cases hx
mutual
theorem AV.up_plain (k m : Nat) : ∀ (c : AV), c.plain = true → c.up k m = c
  | .any, _ => rfl
  | .int .., _ => rfl
  | .bool .., _ => rfl
  | .str .., _ => rfl
  | .nilp, _ => rfl
  | .nils, _ => rfl
  | .nilFunc, _ => rfl
  | .nilm, _ => rfl
  | .row .., _ => rfl
  | .clip .., _ => rfl
  | .radr .., _ => rfl
  | .ptr .., h => by cases h
  | .sl .., h => by cases h
  | .mp .., h => by cases h
  | .agg cs, h => by simp only [AV.up, upL_plain k m cs (by simpa [AV.plain] using h)]
  | .tup cs, h => by simp only [AV.up, upL_plain k m cs (by simpa [AV.plain] using h)]
  | .func _ x y, h => by
    simp only [AV.plain, Bool.and_eq_true] at h
    simp only [AV.up, upL_plain k m x h.1, upL_plain k m y h.2]
theorem upL_plain (k m : Nat) : ∀ (cs : List AV), plainL cs = true → upL k m cs = cs
  | [], _ => rfl
  | c :: cs, h => by
    simp only [plainL, Bool.and_eq_true] at h
    simp only [upL, AV.up_plain k m c h.1, upL_plain k m cs h.2]
end
mutual
theorem AV.ge_plain (k : Nat) : ∀ (c : AV), c.plain = true → c.ge k = true
  | .any, _ => rfl
  | .int .., _ => rfl
  | .bool .., _ => rfl
  | .str .., _ => rfl
  | .nilp, _ => rfl
  | .nils, _ => rfl
  | .nilFunc, _ => rfl
  | .nilm, _ => rfl
  | .row .., _ => rfl
  | .clip .., _ => rfl
  | .radr .., _ => rfl
  | .ptr .., h => by cases h
  | .sl .., h => by cases h
  | .mp .., h => by cases h
  | .agg cs, h => by simpa [AV.ge] using geL_plain k cs (by simpa [AV.plain] using h)
  | .tup cs, h => by simpa [AV.ge] using geL_plain k cs (by simpa [AV.plain] using h)
  | .func _ x y, h => by
    simp only [AV.plain, Bool.and_eq_true] at h
    simp only [AV.ge, geL_plain k x h.1, geL_plain k y h.2, Bool.and_self]
theorem geL_plain (k : Nat) : ∀ (cs : List AV), plainL cs = true → geL k cs = true
  | [], _ => rfl
  | c :: cs, h => by
    simp only [plainL, Bool.and_eq_true] at h
    simp only [geL, AV.ge_plain k c h.1, geL_plain k cs h.2, Bool.and_self]
end
theorem plainL_append {cs ds : List AV} : plainL (cs ++ ds) = (plainL cs && plainL ds) := by
 induction cs with
 | nil => rfl
 | cons c cs ih => simp [plainL, ih, Bool.and_assoc]
theorem Callable.run {P : Program} {f : FuncId} (h : Callable P f) (args : Array Value) (w : World) : (callFunc f args).run P w = .ok (.enter f args) w := by
 obtain ⟨fn, h1, h2, h3⟩ := h
 have h3' : ¬ (fn.name == "runtime.NumGoroutine") = true := by rw [h3]; simp
 unfold callFunc
 simp only [Sem.run_bind, run_program, Result.andThen_ok, h1, h2, if_neg h3', Bool.false_eq_true, if_false, Sem.run_pure]
theorem run_call {C : Ctx} {H : View} {st : St} {a : Act} {w : World} (hi : Inv C H st a w) {o : Oper} {x : Operand} {xs : Array Operand} {ts : Array TypeId} {f : FuncId} {fs cs avs : List AV}
  (hop : o.op = .call { callee := .value x, args := xs, argTypes := ts }) (hx : ev st x = some (.func (.func f) fs cs)) (hxs : evL st xs.toList = some avs) (hf : Callable C.P f) :
  ∃ vs, (execOp a.eval o).run C.P w = .ok (.enter f (List.toArray vs)) w ∧ RelL w (fs ++ avs ++ cs) H vs := by
 obtain ⟨us, us', e, h1, h2⟩ := ev_rel hi hx
 have h3 := evL_rel hi hxs
 refine ⟨us ++ xs.toList.map a.eval ++ us', ?_, (h1.append h3).append h2⟩
 simp only [execOp, hop, resolve, e, Deferred.ofValue, invoke, Sem.run_bind, Sem.run_pure, Result.andThen_ok]
 rw [hf.run]
 congr 2
 apply Array.ext'
 simp
theorem WL.call {C : Ctx} {ops : Array Oper} {o : Oper} {rest : List Oper} {st : St} {Q : Exit → St → Prop} {x : Operand} {xs : Array Operand} {ts : Array TypeId} {f : FuncId} {fs cs avs args : List AV}
  {L : List Nat} {B : List (Nat × Nat)} {O : List AObj} {Q' : AV → List AObj → Prop} (kl : Bool)
  (hs : Spec C.P f args O Q')
  (hop : o.op = .call { callee := .value x, args := xs, argTypes := ts }) (hx : ev st x = some (.func (.func f) fs cs)) (hxs : evL st xs.toList = some avs)
  (hp : PassL st.objs 0 (fs ++ avs ++ cs) args L B O) (hnd : (B.map (·.1)).Nodup) (hdis : ∀ o, o ∈ L → o ∉ B.map (·.1))
  (hmine : kl = true → ∀ o, o ∈ L → ∃ (ds : List AV) (ver esz : Nat) (e : TypeId), st.objs[o]? = some (AObj.cells ds ver esz true (some e)))
  (hg : gd ops st o = some true) (hd : ∀ t, o.dst = some t → t < C.nt)
  (h : ∀ r O', Q' r O' → Same O O' ∧ r.ge B.length = true ∧ (∀ i ob, B.length ≤ i → O'[i]? = some ob → ob.ge B.length = true) ∧ (kl = true ∨ (r.noRow = true ∧ ∀ ob ∈ O', ob.noRow = true)) ∧
   WL C ops rest ((⟨st.env, wb (if kl then killL st.objs L else st.objs) B O' ++ (O'.drop B.length).map (AObj.up B.length st.objs.length)⟩ : St).put o.dst (r.up B.length st.objs.length)) Q) :
  WL C ops (o :: rest) st Q := by
 intro a w ⟨H, hi⟩
 obtain ⟨vs, hrun, hrel⟩ := run_call hi hop hx hxs hs.1
 unfold wpList
 rw [gd_rel hg hi, if_pos rfl]
 refine .inl ?_
 unfold Oper.wp
 rw [hrun]
 simp only [Oper.upon]
 have hO := hi.objs.callee hp hnd hdis
 have hra : RelL w args (H.callee L B) vs := by
  refine hp.rel (Hc := H.callee L B) hi.objs (fun b _ hb => hb.1) [] rfl rfl (fun o ho hw => hw.2 o ho rfl) (fun i o off hio => ?_) hrel
  simp only [List.nil_append] at hio
  have hgd : B.getD i (0, 0) = (o, off) := by simp [hio]
  simp only [View.callee, hgd, and_self]
 refine (hs.2 _ w vs hO hra).mono fun e w' ⟨r, O', H', v, he, hq, hrv, hl⟩ => ?_
 subst he
 obtain ⟨g1, g2, g3, g4, g5⟩ := h r O' hq
 obtain ⟨J, k1, k2⟩ := after_call hi hp hnd hdis hmine hl g1 hrv g2 g3 g4
 exact g5 _ _ ⟨J, k1.put o.dst hd k2⟩
/-- a call whose body is walked where it stands, over the caller's own objects -/
theorem WL.inl {C : Ctx} {ops : Array Oper} {o : Oper} {rest : List Oper} {env : List (Nat × AV)} {objs : List AObj} {Q : Exit → St → Prop} {x : Operand} {xs : Array Operand} {ts : Array TypeId} {f : FuncId} {fs cs avs args : List AV} {fn : Func} {c : Code}
  (hf : C.P.funcs[f]? = some fn) (hb : fn.body = some c) (hname : (fn.name == "runtime.NumGoroutine") = false) {nt : Nat} (hnt : fn.ntmps = nt) {rs : List ResultVar} (hrs : fn.results.toList = rs)
  (hop : o.op = .call { callee := .value x, args := xs, argTypes := ts }) (hx : ev ⟨env, objs⟩ x = some (.func (.func f) fs cs)) (hxs : evL ⟨env, objs⟩ xs.toList = some avs) (ha : fs ++ avs ++ cs = args) (hlen : Nat.ble args.length nt = true)
  (hg : gd ops ⟨env, objs⟩ o = some true) (hd : ∀ t, o.dst = some t → t < C.nt)
  (h : ∀ tm, W { C with nt := nt, sv := (tm, env) :: C.sv } c ⟨envOf 0 args, objs⟩ (fun e st' => (e = .ret ∨ e = .normal) ∧ ∃ cs', resAV C.T st' rs = some cs' ∧ WL C ops rest ((⟨env, st'.objs⟩ : St).put o.dst (tupAV cs')) Q)) :
  WL C ops (o :: rest) ⟨env, objs⟩ Q := by
 subst hnt; subst hrs; subst ha
 intro a w ⟨H, hi⟩
 obtain ⟨vs, hrun, hrel⟩ := run_call hi hop hx hxs ⟨fn, hf, by simp [hb], hname⟩
 unfold wpList
 rw [gd_rel hg hi, if_pos rfl]
 refine .inl ?_
 unfold Oper.wp
 rw [hrun]
 simp only [Oper.upon]
 have hl := hrel.length
 have hlen' := Nat.le_of_ble_eq_true hlen
 have hinv : Inv { C with nt := fn.ntmps, sv := (a.tmps, env) :: C.sv } H ⟨envOf 0 (fs ++ avs ++ cs), objs⟩ { tmps := vs.toArray ++ Array.replicate (fn.ntmps - vs.toArray.size) undef, defers := [] } w := by
  refine ⟨?_, rfl, ?_, hi.objs, hi.wr0, hi.klen, hi.byref, hi.lens, hi.out, hi.own, hi.frame, hi.le, hi.os, hi.tape, hi.output, ?_⟩
  ·simp; omega
  ·intro t av ht
   obtain ⟨_, h2⟩ := look_envOf ht
   obtain ⟨v, hv, hrv⟩ := hrel.get t av (by simpa using h2)
   have hlt : t < vs.length := (List.getElem?_eq_some_iff.1 hv).1
   have : (vs.toArray ++ Array.replicate (fn.ntmps - vs.toArray.size) undef).getD t undef = v := by
    rw [Array.getD_eq_getD_getElem?, Array.getElem?_append_left (by simpa using hlt)]
    simp [hv]
   show RelV w av H ((vs.toArray ++ Array.replicate (fn.ntmps - vs.toArray.size) undef).getD t undef)
   rw [this]; exact hrv
  ·intro p hp t av ht
   rcases List.mem_cons.1 hp with rfl | hp
   ·exact hi.env t av ht
   ·exact hi.saved p hp t av ht
 refine (calls_of_wp hf hb (R := fun e w' => ∃ (st' : St) (H' : View) (cs' : List AV) (v : Value), e = .returned v ∧ RelV w' (tupAV cs') H' v ∧ Inv C H' ⟨env, st'.objs⟩ a w' ∧ WL C ops rest ((⟨env, st'.objs⟩ : St).put o.dst (tupAV cs')) Q) ?_).mono fun e w' ⟨st', H', cs', v, he, hv, hi', hw⟩ => ?_
 ·refine wp_mono (h a.tmps _ w ⟨H, hinv⟩) fun e a' w' ⟨st, ⟨he, cs', h1, h2⟩, H1, hi1⟩ => ?_
  obtain ⟨v, us, r1, r2, r3⟩ := results_run hi1 h1
  have hback : Inv C H1 ⟨env, st.objs⟩ a w' :=
   ⟨hi.size, hi.defers, fun t av ht => hi1.saved (a.tmps, env) (List.mem_cons_self ..) t av ht, hi1.objs, hi1.wr0, hi1.klen, hi1.byref, hi1.lens, hi1.out, hi1.own, hi1.frame, hi1.le, hi1.os, hi1.tape, hi1.output, fun p hp t av ht => hi1.saved p (List.mem_cons_of_mem _ hp) t av ht⟩
  have key : a'.defers = [] ∧ ∃ v, (results fn a'.tmps).run C.P w' = .ok v w' ∧ (∃ (st' : St) (H' : View) (cs' : List AV) (v' : Value), (Ending.returned v) = .returned v' ∧ RelV w' (tupAV cs') H' v' ∧ Inv C H' ⟨env, st'.objs⟩ a w' ∧ WL C ops rest ((⟨env, st'.objs⟩ : St).put o.dst (tupAV cs')) Q) :=
   ⟨hi1.defers, v, r1, st, H1, cs', v, rfl, by rw [r3]; exact tup_rel r2, hback, h2⟩
  rcases he with rfl | rfl
  ·exact key
  ·exact key
 ·subst he
  exact hw _ _ ⟨H', hi'.put o.dst hd hv⟩
/-- a function of plain values that hands back a plain value -/
def Does (P : Program) (f : FuncId) (args : List AV) (r : AV) : Prop := Spec P f args [] fun r' os => r' = r ∧ os = []
theorem PassL.of_plain {objs : List AObj} : ∀ {cs : List AV}, plainL cs = true → PassL objs 0 cs cs [] [] []
 | [], _ => .nil
 | c :: cs, h => by
  simp only [plainL, Bool.and_eq_true] at h
  exact .plain h.1 (PassL.of_plain h.2)
theorem WL.fn {C : Ctx} {ops : Array Oper} {o : Oper} {rest : List Oper} {st : St} {Q : Exit → St → Prop} {x : Operand} {xs : Array Operand} {ts : Array TypeId} {f : FuncId} {fs cs avs : List AV} {r : AV}
  (hs : Does C.P f (fs ++ avs ++ cs) r)
  (hop : o.op = .call { callee := .value x, args := xs, argTypes := ts }) (hx : ev st x = some (.func (.func f) fs cs)) (hxs : evL st xs.toList = some avs)
  (hp : plainL (fs ++ avs ++ cs) = true) (hr : r.plain = true)
  (hg : gd ops st o = some true) (hd : ∀ t, o.dst = some t → t < C.nt)
  (h : WL C ops rest (st.put o.dst r) Q) : WL C ops (o :: rest) st Q := by
 refine WL.call true hs hop hx hxs (PassL.of_plain hp) (by simp) (by simp) (by simp) hg hd ?_
 rintro r' O' ⟨rfl, rfl⟩
 refine ⟨fun i _ _ _ _ _ hi => by simp at hi, AV.ge_plain _ _ hr, fun i ob _ hi => by simp at hi, .inl rfl, ?_⟩
 simp only [wb, killL, if_true, List.drop_nil, List.map_nil, List.append_nil, AV.up_plain _ _ _ hr]
 exact h
/-- arguments that are lent: they stay as they are, if what comes back cannot lead to them -/
theorem WL.fnL {C : Ctx} {ops : Array Oper} {o : Oper} {rest : List Oper} {st : St} {Q : Exit → St → Prop} {x : Operand} {xs : Array Operand} {ts : Array TypeId} {f : FuncId} {fs cs avs args : List AV} {r : AV} {L : List Nat}
  (hs : Does C.P f args r)
  (hop : o.op = .call { callee := .value x, args := xs, argTypes := ts }) (hx : ev st x = some (.func (.func f) fs cs)) (hxs : evL st xs.toList = some avs)
  (hp : PassL st.objs 0 (fs ++ avs ++ cs) args L [] []) (hr : r.plain = true) (hr' : r.noRow = true)
  (hg : gd ops st o = some true) (hd : ∀ t, o.dst = some t → t < C.nt)
  (h : WL C ops rest (st.put o.dst r) Q) : WL C ops (o :: rest) st Q := by
 refine WL.call false hs hop hx hxs hp (by simp) (by simp) (by simp) hg hd ?_
 rintro r' O' ⟨rfl, rfl⟩
 refine ⟨fun i _ _ _ _ _ hi => by simp at hi, AV.ge_plain _ _ hr, fun i ob _ hi => by simp at hi, .inr ⟨hr', by simp⟩, ?_⟩
 simp only [wb, Bool.false_eq_true, if_false, List.drop_nil, List.map_nil, List.append_nil, AV.up_plain _ _ _ hr]
 exact h
/-- arguments that are lent: they are given up -/
theorem WL.fnK {C : Ctx} {ops : Array Oper} {o : Oper} {rest : List Oper} {st : St} {Q : Exit → St → Prop} {x : Operand} {xs : Array Operand} {ts : Array TypeId} {f : FuncId} {fs cs avs args : List AV} {r : AV} {L : List Nat}
  (hs : Does C.P f args r)
  (hop : o.op = .call { callee := .value x, args := xs, argTypes := ts }) (hx : ev st x = some (.func (.func f) fs cs)) (hxs : evL st xs.toList = some avs)
  (hp : PassL st.objs 0 (fs ++ avs ++ cs) args L [] []) (hr : r.plain = true)
  (hmine : ∀ o, o ∈ L → ∃ (ds : List AV) (ver esz : Nat) (e : TypeId), st.objs[o]? = some (AObj.cells ds ver esz true (some e)))
  (hg : gd ops st o = some true) (hd : ∀ t, o.dst = some t → t < C.nt)
  (h : WL C ops rest ((⟨st.env, killL st.objs L⟩ : St).put o.dst r) Q) : WL C ops (o :: rest) st Q := by
 refine WL.call true hs hop hx hxs hp (by simp) (by simp) (fun _ => hmine) hg hd ?_
 rintro r' O' ⟨rfl, rfl⟩
 refine ⟨fun i _ _ _ _ _ hi => by simp at hi, AV.ge_plain _ _ hr, fun i ob _ hi => by simp at hi, .inl rfl, ?_⟩
 simp only [wb, if_true, List.drop_nil, List.map_nil, List.append_nil, AV.up_plain _ _ _ hr]
 exact h
end Go.Lens

set_option linter.unusedVariables false
set_option linter.unusedSimpArgs false
namespace Go.Lens
open Go Go.RowKit
theorem v_len {C : Ctx} {o : Oper} {st : St} {x : Operand} {t : TypeId} {y : Ty} {c : AV} {n : Int} (hop : o.op = .call { callee := .builtin .len, args := #[x], argTypes := #[t] })
  (hx : ev st x = some c) (hy : C.T.at t = some y) (hn : lenAV c = some n) (hk : match c with | .str _ => y.k = .string | _ => ∃ e, y.k = .slice e)
  (hlive : match c with | .sl ob ver _ _ _ => ∃ cs esz flat own, st.objs[ob]? = some (.cells cs ver esz flat own) | _ => True) : VStep C o st (.int .i64 n) st.objs := by
 refine VStep.of_pure fun H a w hi => ?_
 have hr := ev_rel hi hx
 obtain ⟨d, inf, hd, _, hkd, _⟩ := C.ty hy
 refine ⟨.int .i64 n, ?_, rfl⟩
 cases c <;> simp only [lenAV] at hn <;> try (cases hn; done)
 case str s =>
  simp only [RelV] at hr
  injection hn with hn; subst hn
  simp only at hk
  rw [hk] at hkd
  obtain rfl := kOf_string hkd
  simp [execOp, hop, resolve, invoke, builtin, Builtin.len_, run_underlying hd, hr, goInt, size_mk]
 case nils =>
  simp only [RelV] at hr
  injection hn with hn; subst hn
  obtain ⟨e, hk⟩ := hk
  rw [hk] at hkd
  obtain rfl := kOf_slice hkd
  simp [execOp, hop, resolve, invoke, builtin, Builtin.len_, run_underlying hd, hr, goInt]
 case sl ob ver off m full =>
  injection hn with hn; subst hn
  obtain ⟨e, hk⟩ := hk
  rw [hk] at hkd
  obtain rfl := kOf_slice hkd
  obtain ⟨cs, esz, flat, own, hob⟩ := hlive
  obtain ⟨_, _, hp⟩ := hr
  obtain ⟨ad, c, hp, _⟩ := hp (hi.objs.rel ob _ hob).1
  simp [execOp, hop, resolve, invoke, builtin, Builtin.len_, run_underlying hd, hp, goInt]
 case row cs m =>
  injection hn with hn; subst hn
  obtain ⟨e, hk⟩ := hk
  rw [hk] at hkd
  obtain rfl := kOf_slice hkd
  obtain ⟨A, c, vs, hp, _⟩ := hr
  simp [execOp, hop, resolve, invoke, builtin, Builtin.len_, run_underlying hd, hp, goInt]
 case clip cs m =>
  injection hn with hn; subst hn
  obtain ⟨e, hk⟩ := hk
  rw [hk] at hkd
  obtain rfl := kOf_slice hkd
  obtain ⟨A, vs, hp, _⟩ := hr
  simp [execOp, hop, resolve, invoke, builtin, Builtin.len_, run_underlying hd, hp, goInt]
theorem v_max2 {C : Ctx} {o : Oper} {st : St} {x y : Operand} {ts : Array TypeId} {k k' : IntKind} {m n : Int} (hop : o.op = .call { callee := .builtin .max, args := #[x, y], argTypes := ts })
  (hx : ev st x = some (.int k m)) (hy : ev st y = some (.int k' n)) : VStep C o st (.int k (if n > m then n else m)) st.objs := by
 refine VStep.of_pure fun H a w hi => ?_
 have h1 := ev_rel hi hx
 have h2 := ev_rel hi hy
 simp only [RelV] at h1 h2
 refine ⟨_, ?_, rfl⟩
 simp [execOp, hop, resolve, invoke, builtin, Builtin.max_, h1, h2, Builtin.max2]
theorem v_min2 {C : Ctx} {o : Oper} {st : St} {x y : Operand} {ts : Array TypeId} {k k' : IntKind} {m n : Int} (hop : o.op = .call { callee := .builtin .min, args := #[x, y], argTypes := ts })
  (hx : ev st x = some (.int k m)) (hy : ev st y = some (.int k' n)) : VStep C o st (.int k (if n < m then n else m)) st.objs := by
 refine VStep.of_pure fun H a w hi => ?_
 have h1 := ev_rel hi hx
 have h2 := ev_rel hi hy
 simp only [RelV] at h1 h2
 refine ⟨_, ?_, rfl⟩
 simp [execOp, hop, resolve, invoke, builtin, Builtin.min_, h1, h2, Builtin.min2]
/-! ### conversions -/
theorem v_conv_int {C : Ctx} {o : Oper} {st : St} {x : Operand} {s d : TypeId} {ys yd : Ty} {k k' : IntKind} {n : Int} (hop : o.op = .convert s d x)
  (hx : ev st x = some (.int k n)) (hs : C.T.at s = some ys) (hd : C.T.at d = some yd) (hk : yd.k = .int k') : VStep C o st (.int k' (k'.wrap n)) st.objs := by
 refine VStep.of_pure fun H a w hi => ?_
 have h1 := ev_rel hi hx
 simp only [RelV] at h1
 obtain ⟨ds, is, hds, _, _⟩ := C.ty hs
 obtain ⟨dd, id, hdd, _, hkd, _⟩ := C.ty hd
 rw [hk] at hkd
 obtain rfl := kOf_int hkd
 refine ⟨_, ?_, rfl⟩
 simp [execOp, hop, h1, convert, run_underlying hds, run_underlying hdd, Conv.intToInt]
def byteAV (b : UInt8) : AV := .int .u8 b.toNat
/-- string(b) of bytes that are known -/
theorem v_conv_bytes {C : Ctx} {o : Oper} {st : St} {x : Operand} {s d e : TypeId} {ys yd ye : Ty} {l : List UInt8} {ob ver off n esz : Nat} {full flat : Bool} {own : Option TypeId} {cs : List AV} (hop : o.op = .convert s d x)
  (hx : ev st x = some (.sl ob ver off n full)) (hob : st.objs[ob]? = some (.cells cs ver esz flat own)) (hl : (cs.drop off).take n = l.map byteAV) (hn : l.length = n)
  (hs : C.T.at s = some ys) (hks : ys.k = .slice e) (he : C.T.at e = some ye) (hke : ye.k = .int .u8) (hd : C.T.at d = some yd) (hk : yd.k = .string) : VStep C o st (.str l) st.objs := by
 refine VStep.of_pure fun H a w hi => ?_
 obtain ⟨g1, g2, vs, c, e', g3, g4, g5, g6⟩ := hi.objs.rel ob _ hob
 obtain ⟨_, _, hp⟩ := ev_rel hi hx
 obtain ⟨ad, cap, hp, hnc, hp1, _⟩ := hp g1
 obtain ⟨ds, is, hds, _, hkds, _⟩ := C.ty hs
 rw [hks] at hkds
 obtain rfl := kOf_slice hkds
 obtain ⟨de, ie, hde, _, hkde, _⟩ := C.ty he
 rw [hke] at hkde
 obtain rfl := kOf_int hkde
 obtain ⟨dd, id, hdd, _, hkd, _⟩ := C.ty hd
 rw [hk] at hkd
 obtain rfl := kOf_string hkd
 refine ⟨.string ⟨l.toArray⟩, ?_, rfl⟩
 subst hn
 have hconv := run_convert_bytes_back (P := C.P) w s d e ad cap l hds hde hdd (fun j hj => by
  rw [hp1 (by omega), add_mk]
  have h1 : (l.map byteAV)[j]? = some (byteAV l[j]) := by simp [hj]
  rw [← hl, List.getElem?_take, if_pos hj, List.getElem?_drop] at h1
  obtain ⟨v, hv, hrv⟩ := RelL.get g4 _ _ h1
  simp only [byteAV, RelV] at hrv
  subst hrv
  have := g5 _ _ hv
  simp only [World.cell?, g3, Option.isSome_none, Bool.false_eq_true, if_false]
  rw [Nat.add_assoc]; exact this)
 simp only [execOp, hop, hp, Sem.run_bind, hconv, Result.andThen_ok, Sem.run_pure]
/-! ### make -/
theorem madeCells_one (z : Value) (n : Nat) : (madeCells #[z] n).toList = List.replicate n z := by
 apply List.ext_getElem
 ·simp [madeCells]
 ·intro i h1 h2
  simp [madeCells, Nat.mod_one]
theorem v_make {C : Ctx} {o : Oper} {st : St} {t e : TypeId} {x x' : Operand} {k k' : IntKind} {n : Int} {y ye : Ty} {z : Value} {c : AV} (hop : o.op = .makeSlice t x x')
  (hx : ev st x = some (.int k n)) (hx' : ev st x' = some (.int k' n)) (hy : C.T.at t = some y) (hk : y.k = .slice e) (hye : C.T.at e = some ye) (hsz : ye.size = 1) (hz : ye.zero = some [z]) (hc : ofVal z = some c)
  (h0 : 0 ≤ n) (hb : (ye.bytes : Int) * n ≤ 281474976710656) (hm : n ≤ 9223372036854775807) :
  VStep C o st (.sl st.objs.length 0 0 n.toNat true) (st.objs ++ [.cells (List.replicate n.toNat c) 0 1 true (some e)]) := by
 intro H a w hi
 obtain ⟨N, rfl⟩ := Int.eq_ofNat_of_zero_le h0
 have h1 := ev_rel hi hx
 have h2 := ev_rel hi hx'
 simp only [RelV] at h1 h2
 obtain ⟨d, i, hd, _, hkd, _⟩ := C.ty hy
 rw [hk] at hkd
 obtain rfl := kOf_slice hkd
 obtain ⟨de, ie, hde, hie, _, hs, hbb, hzz⟩ := C.ty hye
 rw [hz] at hzz
 obtain ⟨z0, hz0, hz1⟩ := Option.map_eq_some_iff.1 hzz.symm
 have hz2 : z0.cells = #[z] := by
  apply Array.ext'; simpa using hz1
 have hrun := run_make (P := C.P) w t e ie z0 hd hie hz0 k k' N N (by omega) (Int.le_refl _) (by rw [← hbb]; exact hb) hm
 rw [hz2, ← hs, hsz, Nat.mul_one] at hrun
 simp only [Int.toNat_natCast] at hrun
 have hn := hi.objs.n
 refine ⟨.slice (some ⟨w.heap.size, 0, none⟩) N N, w.alloc (.cells (madeCells #[z] N) e), H.add w.heap.size N, ?_, hi.newCells (vs := List.replicate N z) e 1 N true (some e) _ ?_ ?_ ?_, ?_⟩
 ·simp only [execOp, hop, h1, h2, Sem.run_bind, hrun, Result.andThen_ok, Sem.run_pure]
 ·exact RelL.replicate (ofVal_rel hc) N
 ·intro j u hu
  rw [← Array.getElem?_toList, madeCells_one]; exact hu
 ·intro t' ht'
  injection ht' with ht'
  have hml : N ≤ maxLen := by simp only [maxLen]; omega
  exact ⟨ht', by simp [size_madeCells], hml, N, by simp, Nat.le_refl _⟩
 ·refine ⟨by simp [View.add]; omega, by simp [View.add, hn], fun _ => ⟨⟨w.heap.size, 0, none⟩, N, by simp, by simp, fun _ => ?_, fun _ => ⟨?_, rfl, ?_⟩⟩⟩ <;> simp [View.add, hn]
/-! ### append -/
/-- the source of an append: its cells -/
def SrcAV (objs : List AObj) (c : AV) (m esz : Nat) (ds : List AV) : Prop :=
  (c = .nils ∧ m = 0 ∧ ds = []) ∨ (c = .row ds m ∧ ds.length = m * esz) ∨
  ∃ ob ver off full cs own, c = .sl ob ver off m full ∧ objs[ob]? = some (.cells cs ver esz true own) ∧ ds = (cs.drop off).take (m * esz) ∧ off + m * esz ≤ cs.length
def AV.oneB : AV → Bool
  | .int .. | .bool .. | .str .. | .nilp | .nils | .row .. | .clip .. | .radr .. | .nilFunc | .nilm | .func .. => true
  | _ => false
theorem One.of_oneB {objs : List AObj} {c : AV} (h : c.oneB = true) : One objs c := by cases c <;> first | trivial | cases h
theorem src_rel {C : Ctx} {H : View} {st : St} {a : Act} {w : World} (hi : Inv C H st a w) {c : AV} {m esz : Nat} {ds : List AV} (hs : SrcAV st.objs c m esz ds) (hm : 0 < m) (hz : 0 < esz) {v : Value} (hv : RelV w c H v) :
  ∃ ad cap news, v = .slice (some ad) m cap ∧ RelL w ds H.bare news ∧ news.length = m * esz ∧ ∀ (j : Nat) (u : Value), news[j]? = some u → w.cell? (ad.add j) = some u := by
 have hpos : 0 < m * esz := Nat.mul_pos hm hz
 rcases hs with ⟨rfl, h0, _⟩ | ⟨rfl, hl⟩ | ⟨ob, ver, off, full, cs, own, rfl, hob, rfl, hb⟩
 ·omega
 ·obtain ⟨A, cap, vs, rfl, _, hr, hne⟩ := hv
  have hlen := hr.length
  obtain ⟨ad, rfl, hat, _⟩ := hne (fun e => by rw [e, List.length_nil] at hlen; rw [hlen] at hl; rw [← hl] at hpos; exact absurd hpos (Nat.lt_irrefl 0))
  exact ⟨ad, cap, vs, rfl, hr, hlen.symm.trans hl, hat⟩
 ·obtain ⟨g1, g2, vs, cc, e, g3, g4, g5, g6⟩ := hi.objs.rel ob _ hob
  obtain ⟨_, _, hp⟩ := hv
  obtain ⟨ad, cap, rfl, _, hp1, _⟩ := hp g1
  have hlen := RelL.length g4
  refine ⟨ad, cap, (vs.drop off).take (m * esz), rfl, (RelL.drop off g4).take _, by simp; omega, ?_⟩
  intro j u hu
  rw [hp1 hm, add_mk]
  rw [List.getElem?_take] at hu
  split at hu
  ·rw [List.getElem?_drop] at hu
   have := g5 _ _ hu
   simp only [World.cell?, g3, Option.isSome_none, Bool.false_eq_true, if_false]
   rw [Nat.add_assoc]; exact this
  ·cases hu
theorem src_zero {C : Ctx} {H : View} {st : St} {a : Act} {w : World} (hi : Inv C H st a w) {c : AV} {esz : Nat} {ds : List AV} (hs : SrcAV st.objs c 0 esz ds) {v : Value} (hv : RelV w c H v) : ds = [] ∧ ∃ A cap, v = .slice A 0 cap := by
 rcases hs with ⟨rfl, _, rfl⟩ | ⟨rfl, hl⟩ | ⟨ob, ver, off, full, cs, own, rfl, hob, rfl, hb⟩
 ·simp only [RelV] at hv; exact ⟨rfl, none, 0, hv⟩
 ·obtain ⟨A, cap, vs, rfl, _⟩ := hv
  exact ⟨List.eq_nil_of_length_eq_zero (by omega), A, cap, rfl⟩
 ·obtain ⟨_, _, hp⟩ := hv
  obtain ⟨ad, cap, rfl, _⟩ := hp (hi.objs.rel ob _ hob).1
  exact ⟨by simp, some ad, cap, rfl⟩
theorem run_append_zero {P : Program} {w : World} {t ty e : TypeId} {i : TypeInfo} (ht : P.underlying t = some (.slice e)) (hi : P.info? e = some i) (b : Option Addr) (n cap : Nat) (h : n ≤ cap) (A : Option Addr) (c : Nat) :
  (Builtin.append_ #[t, t] ty #[.slice b n cap, .slice A 0 c]).run P w = .ok (.slice b n cap) w := by
 have hf : (Builtin.firstCells i.size 0 (.slice A 0 c)).run P w = .ok #[] w := by
  cases A with
  | none => rfl
  | some ad => simp [Builtin.firstCells, loadCells, loadCellsFrom]
 cases b with
 | none => simp [Builtin.append_, run_underlying ht, sizeOf, typeInfo, hi, Builtin.lenOf, h, hf]
 | some ad => simp [Builtin.append_, run_underlying ht, sizeOf, typeInfo, hi, Builtin.lenOf, h, hf, storeCells]
theorem v_append_nil {C : Ctx} {o : Oper} {st : St} {s x : Operand} {t e : TypeId} {y ye : Ty} {c : AV} {m : Nat} {ds : List AV} {z : List Value} (hop : o.op = .call { callee := .builtin .append, args := #[s, x], argTypes := #[t, t] })
  (hs : ev st s = some .nils) (hx : ev st x = some c) (hy : C.T.at t = some y) (hk : y.k = .slice e) (hye : C.T.at e = some ye) (hz : ye.zero = some z) (hzl : z.length = ye.size) (hsz : 0 < ye.size)
  (hsrc : SrcAV st.objs c m ye.size ds) (hm : 0 < m) (hone : ∀ d ∈ ds, d.oneB = true) (hbound : m ≤ 9223372036854775807) (hbytes : m * ye.bytes ≤ 140737488355328) :
  VStep C o st (.sl st.objs.length 0 0 m true) (st.objs ++ [.cells ds 0 ye.size true (some e)]) := by
 intro H a w hi
 have h1 := ev_rel hi hs
 simp only [RelV] at h1
 obtain ⟨ad, cap, news, h2, h3, h4, h5⟩ := src_rel hi hsrc hm hsz (ev_rel hi hx)
 obtain ⟨d, i, hd, _, hkd, _⟩ := C.ty hy
 rw [hk] at hkd
 obtain rfl := kOf_slice hkd
 obtain ⟨de, ie, hde, hie, _, hss, hbb, hzz⟩ := C.ty hye
 rw [hz] at hzz
 obtain ⟨z0, hz0, hz1⟩ := Option.map_eq_some_iff.1 hzz.symm
 have hones : ∀ u ∈ news, u.oneCell' = true := by
  intro u hu
  obtain ⟨j, hj⟩ := List.getElem?_of_mem hu
  have hjl : j < ds.length := by rw [h3.length]; exact (List.getElem?_eq_some_iff.1 hj).1
  obtain ⟨u', hu', hru⟩ := h3.get j ds[j] (by simp [hjl])
  rw [hj] at hu'; injection hu' with hu'; subst hu'
  have : One ([] : List AObj) ds[j] := One.of_oneB (hone _ (List.getElem_mem hjl))
  exact (this.cell (H := H.bare) (w := w) ⟨rfl, fun _ _ h => by simp at h, fun _ _ _ _ h => by simp at h, hi.objs.lt⟩ hru).1
 obtain ⟨v', w', r1, r2, r3, r4⟩ := run_append_own (P := C.P) w w.heap.size t o.type e ie z0 ye.size ye.bytes hd hie hz0 hss.symm hbb.symm (by rw [← hzl, ← hz1]; simp) hsz (.slice none 0 0) 0 [] (World.ownsRow_nil w _ e _) ad m cap news (by rw [h4]) h5 hones
  (by simp only [maxLen]; omega) (by simpa using hbytes) (Nat.le_refl _)
 simp only [Nat.zero_add, List.nil_append] at r2 r4
 obtain ⟨q1, q2⟩ := r2
 rcases q2 with ⟨rfl, q2⟩ | ⟨g, cp, cur, rfl, q3, q4, q5, q6, q7, q8⟩
 ·omega
 have hn := hi.objs.n
 let H' : View := { n := H.n + 1, blk := fun o => if o = H.n then g else H.blk o, off := fun o => if o = H.n then 0 else H.off o, cap := fun o => if o = H.n then cp else H.cap o, ver := fun o => if o = H.n then 0 else H.ver o, wr := fun b => H.wr b ∨ b = g }
 have hfr : ∀ b, b < w.heap.size → w'.heap[b]? = w.heap[b]? := fun b hb => r3.block b hb (by simp [Value.ownBlock])
 have hgl : g < w'.heap.size := (Array.getElem?_eq_some_iff.1 q4).1
 have hK : Keeps w H w' H' := by
  refine ⟨fun ad u hc hx => ?_, fun b hb hw => ?_, Nat.le_succ _, fun o ho => ?_, fun o ho _ => ?_⟩
  ·rw [World.cell?_of_block (w := w) (hfr _ (World.block_lt_of_cell? w ad hc))]; exact hc
  ·rcases hw with hw | hw
   ·exact hw
   ·omega
  ·have : o ≠ H.n := by omega
   simp [H', this]
  ·have : o ≠ H.n := by omega
   simp [H', this]
 have hlive : ∀ i ob, st.objs[i]? = some ob → ob.live = true → H.blk i < w.heap.size := fun i ob h1 h2 => hi.objs.lt _ (hi.objs.wr_blk h1 h2)
 refine ⟨.slice (some ⟨g, 0, none⟩) m cp, w', H', ?_, ?_, ?_⟩
 ·simp only [execOp, hop, resolve, invoke, builtin, Sem.run_bind, Sem.run_pure, Result.andThen_ok, List.map_toArray, List.map_cons, List.map_nil, h1, h2, r1]
 ·refine hi.move hK ⟨by simp [H', hn], ?_, ?_, ?_⟩ ?_ (by have := hi.klen; simp; omega) ?_ ?_ ?_ ?_ ?_ r3.size r3.os r3.tape r3.output
  ·intro i' ob hob
   rcases get_snoc hob with ⟨hlt, hob⟩ | ⟨he, rfl⟩
   ·have hne : i' ≠ H.n := by omega
    by_cases hl : ob.live = true
    ·exact (hi.objs.rel i' ob hob).keeps hK (by simp [H', hne]) (by simp [H', hne]) (by simp [H', hne]) (by simp [H', hne]) (fun h => .inl h) (hfr _ (hlive i' ob hob hl))
    ·cases ob <;> first | trivial | (simp [AObj.live] at hl; done) | (have := hi.objs.rel i' _ hob; simpa [RelO, H', hne] using this)
   ·have he : i' = H.n := by omega
    subst he
    refine ⟨by simp [H'], by simp [H'], news, cur, e, by simpa [H'] using q4, ?_, ?_, ?_⟩
    ·exact h3.keeps ds hK.bare
    ·intro j u hu
     rw [← q8, List.getElem?_take] at hu
     split at hu
     ·simpa [H'] using hu
     ·cases hu
    ·intro t' ht'
     injection ht' with ht'
     exact ⟨ht', by simp [H'], by simpa [H'] using q7, by simpa [H'] using q6, m, h4, by simpa [H'] using q5⟩
  ·intro i1 i2 ob1 ob2 p1 p2 l1 l2 hbb'
   rcases get_snoc p1 with ⟨a1, b1⟩ | ⟨a1, b1⟩ <;> rcases get_snoc p2 with ⟨a2, b2⟩ | ⟨a2, b2⟩
   ·simp only [H', if_neg (show i1 ≠ H.n by omega), if_neg (show i2 ≠ H.n by omega)] at hbb'
    exact hi.objs.inj _ _ _ _ b1 b2 l1 l2 hbb'
   ·simp only [H', if_neg (show i1 ≠ H.n by omega), if_pos (show i2 = H.n by omega)] at hbb'
    have := hlive _ _ b1 l1; omega
   ·simp only [H', if_pos (show i1 = H.n by omega), if_neg (show i2 ≠ H.n by omega)] at hbb'
    have := hlive _ _ b2 l2; omega
   ·omega
  ·intro b hb
   rcases hb with hb | hb
   ·have := hi.objs.lt b hb; have := r3.size; omega
   ·omega
  ·intro b hb
   refine ⟨fun h => h.resolve_right (by have := hi.le; omega), .inl⟩
  ·intro x hx
   have := hi.klen
   have : x ≠ H.n := by omega
   simp [H', this]
  ·intro x cs ver esz flat own hx hob
   have := hi.klen
   rw [List.getElem?_append_left (by omega)] at hob
   exact hi.lens x cs ver esz flat own hx hob
  ·intro x hx
   exact Outside.of_eq (hfr _ (Nat.lt_of_lt_of_le (C.hk x hx) hi.le)) _ _
  ·intro i' ob hob hl
   rcases get_snoc hob with ⟨hlt, hob⟩ | ⟨he, rfl⟩
   ·simp only [H', if_neg (show i' ≠ H.n by omega)]
    exact hi.own i' ob hob hl
   ·simp only [H', if_pos (show i' = H.n by omega)]
    exact .inr (Nat.le_trans hi.le q3)
  ·intro b hb hM
   exact hfr b (Nat.lt_of_lt_of_le hb hi.le)
 ·refine ⟨by simp [H']; omega, by simp [H', hn], fun _ => ⟨⟨g, 0, none⟩, cp, rfl, q5, fun _ => by simp [H', hn], fun _ => ⟨by simp [H', hn], rfl, by simp [H', hn]⟩⟩⟩
theorem v_append_own {C : Ctx} {o : Oper} {st : St} {s x : Operand} {t e : TypeId} {y ye : Ty} {c : AV} {ob ver n m : Nat} {cs ds : List AV} {z : List Value} (hop : o.op = .call { callee := .builtin .append, args := #[s, x], argTypes := #[t, t] })
  (hs : ev st s = some (.sl ob ver 0 n true)) (hob : st.objs[ob]? = some (.cells cs ver ye.size true (some e))) (hcs : cs.length = n * ye.size)
  (hx : ev st x = some c) (hy : C.T.at t = some y) (hk : y.k = .slice e) (hye : C.T.at e = some ye) (hz : ye.zero = some z) (hzl : z.length = ye.size) (hsz : 0 < ye.size)
  (hsrc : SrcAV st.objs c m ye.size ds) (hone : ∀ d ∈ ds, d.oneB = true) (hbound : n + m ≤ 9223372036854775807) (hbytes : (n + m) * ye.bytes ≤ 140737488355328) :
  VStep C o st (.sl ob (ver + 1) 0 (n + m) true) (st.objs.set ob (.cells (cs ++ ds) (ver + 1) ye.size true (some e))) := by
 intro H a w hi
 obtain ⟨g1, g2, vs, cc, e', g3, g4, g5, g6⟩ := hi.objs.rel ob _ hob
 obtain ⟨rfl, p2, p3, p4, N, p5, p6⟩ := g6 e rfl
 obtain ⟨o1, o2, o3⟩ := ev_rel hi hs
 obtain ⟨ad0, cap0, f1, f2, f3, f4⟩ := o3 g1
 obtain ⟨rfl, _, rfl⟩ := f4 rfl
 obtain ⟨d, i, hd, _, hkd, _⟩ := C.ty hy
 rw [hk] at hkd
 obtain rfl := kOf_slice hkd
 obtain ⟨de, ie, hde, hie, _, hss, hbb, hzz⟩ := C.ty hye
 rw [hz] at hzz
 obtain ⟨z0, hz0, hz1⟩ := Option.map_eq_some_iff.1 hzz.symm
 have hlenv := RelL.length g4
 have hown : w.ownsRow C.w0.heap.size e' ye.size (.slice (some ⟨H.blk ob, 0, none⟩) n (H.cap ob)) n vs := by
  refine ⟨by omega, .inr ⟨H.blk ob, H.cap ob, cc, rfl, ?_, g3, f2, p4, p3, ?_⟩⟩
  ·rcases hi.own ob _ hob rfl with ⟨_, h⟩ | h
   ·cases h
   ·exact h
  ·apply List.ext_getElem?
   intro j
   rw [List.getElem?_take]
   split
   ·rename_i hj
    have hjv : j < vs.length := by omega
    have := g5 j vs[j] (by simp [hjv])
    rw [p2, Nat.zero_add] at this
    rw [Array.getElem?_toList, this]; simp [hjv]
   ·rename_i hj
    rw [List.getElem?_eq_none (by omega)]
 have key : ∃ v' w' news, (Builtin.append_ #[t, t] o.type #[.slice (some ⟨H.blk ob, 0, none⟩) n (H.cap ob), a.eval x]).run C.P w = .ok v' w' ∧ w'.ownsRow C.w0.heap.size e' ye.size v' (n + m) (vs ++ news) ∧ w.grownBy w' (some (H.blk ob)) ∧ v' ≠ .slice none 0 0 ∧ RelL w ds H.bare news ∧ (v'.ownBlock = some (H.blk ob) ∨ v'.ownBlock = some w.heap.size) := by
  rcases Nat.eq_zero_or_pos m with hm | hm
  ·subst hm
   obtain ⟨rfl, A, cp, hA⟩ := src_zero hi hsrc (ev_rel hi hx)
   refine ⟨_, w, [], by rw [hA]; exact run_append_zero hd hie _ _ _ f2 _ _, by simpa using hown, ⟨rfl, rfl, rfl, Nat.le_refl _, fun _ _ _ => rfl⟩, by simp, rfl, .inl rfl⟩
  ·obtain ⟨ad, cap, news, h2, h3, h4, h5⟩ := src_rel hi hsrc hm hsz (ev_rel hi hx)
   have hones : ∀ u ∈ news, u.oneCell' = true := by
    intro u hu
    obtain ⟨j, hj⟩ := List.getElem?_of_mem hu
    have hjl : j < ds.length := by rw [h3.length]; exact (List.getElem?_eq_some_iff.1 hj).1
    obtain ⟨u', hu', hru⟩ := h3.get j ds[j] (by simp [hjl])
    rw [hj] at hu'; injection hu' with hu'; subst hu'
    have : One ([] : List AObj) ds[j] := One.of_oneB (hone _ (List.getElem_mem hjl))
    exact (this.cell (H := H.bare) (w := w) ⟨rfl, fun _ _ h => by simp at h, fun _ _ _ _ h => by simp at h, hi.objs.lt⟩ hru).1
   obtain ⟨v', w', r1, r2, r3, r4, r5⟩ := run_append_own_at (P := C.P) w C.w0.heap.size t o.type e' ie z0 ye.size ye.bytes hd hie hz0 hss.symm hbb.symm (by rw [← hzl, ← hz1]; simp) hsz _ n vs hown ad m cap news (by rw [h4]) h5 hones
    (by simp only [maxLen]; omega) hbytes hi.le
   exact ⟨v', w', news, by rw [h2]; exact r1, r2, by simpa [Value.ownBlock] using r3, fun h => by have := (r4.1 h).1; simp at this, h3, by simpa [Value.ownBlock] using r5⟩
 obtain ⟨v', w', news, r1, r2, r3, r4, h3, r5⟩ := key
 obtain ⟨q1, q2⟩ := r2
 rcases q2 with ⟨rfl, q2⟩ | ⟨g, cp, cur, rfl, q3, q4, q5, q6, q7, q8⟩
 ·exact absurd rfl r4
 have hgl : g < w'.heap.size := (Array.getElem?_eq_some_iff.1 q4).1
 let H' : View := { n := H.n, blk := fun o => if o = ob then g else H.blk o, off := fun o => if o = ob then 0 else H.off o, cap := fun o => if o = ob then cp else H.cap o, ver := fun o => if o = ob then ver + 1 else H.ver o, wr := fun b => H.wr b ∨ (b = g ∧ w.heap.size ≤ b) }
 have hobk : ¬ ob < C.k := by
  intro hlt
  rcases hi.own ob _ hob rfl with ⟨_, h⟩ | h
  ·cases h
  ·have := C.hk ob hlt
   rw [← (hi.byref ob hlt).1] at this; omega
 have hg : g = H.blk ob ∨ g = w.heap.size := by simpa [Value.ownBlock] using r5
 have hbl := hi.objs.lt _ g2
 have hlenN := hlenv
 have hwo : ∀ b, H'.wr b ↔ (H.wr b ∨ (b = H'.blk ob ∧ w.heap.size ≤ b)) := fun b => by simp [H']
 have hfr : ∀ b, b < w.heap.size → b ≠ H.blk ob → w'.heap[b]? = w.heap[b]? := fun b hb hne => r3.block b hb (by simpa using hne)
 have hK : Keeps w H w' H' := by
  refine ⟨fun ad u hc hx => ?_, fun b hb hw => ?_, Nat.le_refl _, fun o' ho => ?_, fun o' ho hv => ?_⟩
  ·rw [World.cell?_of_block (w := w) (hfr _ (World.block_lt_of_cell? w ad hc) (fun e => hx (e ▸ g2)))]; exact hc
  ·rcases hw with hw | hw
   ·exact hw
   ·omega
  ·by_cases e : o' = ob
   ·subst e; simp [H', g1]
   ·simp [H', e]
  ·by_cases e : o' = ob
   ·subst e; simp [H', g1] at hv
   ·simp [H', e]
 refine ⟨.slice (some ⟨g, 0, none⟩) (n + m) cp, w', H', ?_, ?_, ?_⟩
 ·simp only [execOp, hop, resolve, invoke, builtin, Sem.run_bind, Sem.run_pure, Result.andThen_ok, List.map_toArray, List.map_cons, List.map_nil, f1, r1]
 ·refine hi.write (ob := .cells cs ver ye.size true (some e')) (H' := H') hob rfl (fun h => rfl) ⟨rfl, fun x hx => ⟨by simp [H', hx], by simp [H', hx], by simp [H', hx], by simp [H', hx]⟩⟩ (.inr (by simp [H', g1])) ?_ (fun h => absurd h hobk) hwo hfr r3.size r3.os r3.tape r3.output ?_
  ·rcases hg with hg | hg
   ·exact .inl (by simp [H', hg])
   ·exact .inr ⟨by simp [H', hg], by simpa [H'] using hgl⟩
  ·refine ⟨by simp [H'], ?_, vs ++ news, cur, e', by simpa [H'] using q4, ?_, ?_, ?_⟩
   ·rcases hg with hg | hg
    ·exact .inl (by simpa [H', hg] using g2)
    ·exact .inr ⟨by simp [H'], by simp [H', hg]⟩
   ·exact (g4.append h3).keeps _ (hK.flatIf true)
   ·intro j u hu
    rw [← q8, List.getElem?_take] at hu
    split at hu
    ·simpa [H'] using hu
    ·cases hu
   ·intro t' ht'
    injection ht' with ht'
    exact ⟨ht', by simp [H'], by simpa [H'] using q7, by simpa [H'] using q6, n + m, q1, by simpa [H'] using q5⟩
 ·refine ⟨o1, by simp [H'], fun _ => ⟨⟨g, 0, none⟩, cp, rfl, q5, fun _ => by simp [H'], fun _ => ⟨by simp [H'], rfl, by simp [H']⟩⟩⟩
end Go.Lens

set_option linter.unusedVariables false
set_option linter.unusedSimpArgs false
namespace Go.Lens
open Go Go.RowKit
/-- the operations that an operation waits for -/
def depsOf (o : Oper) : List Nat := (o.after.toList.filter fun e => Region.binds .any e).map (·.on)
def depEnv (ds : List Nat) (E : List AV) : List Nat → List (Nat × AV)
  | [] => []
  | j :: l => match ds[j]?, E[j]? with | some d, some c => (d, c) :: depEnv ds E l | _, _ => depEnv ds E l
def clean (ds : List Nat) : List (Nat × AV) → List (Nat × AV)
  | [] => []
  | p :: l => if ds.contains p.1 then clean ds l else p :: clean ds l
/-- does an operation come behind another one, at one or more removes? -/
def behind (ops : Array Oper) : Nat → Nat → Nat → Bool
  | 0, _, _ => false
  | f + 1, i, j => match ops[i]? with
    | none => false
    | some o => (depsOf o).contains j || (depsOf o).any fun k => behind ops f k j
/-- the first ones yield the temporaries `ds`, each its own; each of the rest waits for all ahead of it -/
def drawOK (ops : Array Oper) (ds : List Nat) : Bool :=
  decide ds.Nodup && decide (ds.length ≤ ops.size) && (List.range ds.length).all (fun i => (ops[i]?).any fun o => o.dst == ds[i]?) &&
  ((List.range' ds.length (ops.size - ds.length)).all fun i => (List.range i).all fun j => behind ops 24 i j) &&
  (List.range ops.size).all fun i => (ops[i]?).any fun o => (depsOf o).all fun j => decide (j < i)
theorem drawOK_back {ops : Array Oper} {ds : List Nat} (h : drawOK ops ds = true) {i : Nat} {o : Oper} (hi : ops[i]? = some o) {e : Edge} (he : e ∈ o.after.toList) (hb : Region.binds .any e = true) : e.on < i := by
 simp only [drawOK, Bool.and_eq_true] at h
 have h1 := h.2
 rw [List.all_eq_true] at h1
 have h2 := h1 i (by rw [List.mem_range]; exact (Array.getElem?_eq_some_iff.1 hi).1)
 rw [hi] at h2
 simp only [Option.any_some, List.all_eq_true, decide_eq_true_eq] at h2
 exact h2 e.on (by simp only [depsOf, List.mem_map, List.mem_filter]; exact ⟨e, ⟨he, hb⟩, rfl⟩)
theorem drawOK_tail {ops : Array Oper} {ds : List Nat} (h : drawOK ops ds = true) {i : Nat} (hi : i < ops.size) (hge : ds.length ≤ i) {j : Nat} (hj : j < i) : behind ops 24 i j = true := by
 simp only [drawOK, Bool.and_eq_true] at h
 have h1 := h.1.2
 rw [List.all_eq_true] at h1
 have h2 := h1 i (by rw [List.mem_range'_1]; omega)
 simp only [List.all_eq_true] at h2
 exact h2 j (by rw [List.mem_range]; exact hj)
/-- with each operation all that it waits for is listed -/
def Closed (ops : Array Oper) (listed : Array Bool) : Prop := ∀ (i : Nat) (o : Oper), ops[i]? = some o → listed.getD i false = true → ∀ j ∈ depsOf o, listed.getD j false = true
theorem Closed.behind {ops : Array Oper} {listed : Array Bool} (hc : Closed ops listed) {j : Nat} : ∀ (f i : Nat) (o : Oper), ops[i]? = some o → (∀ k ∈ depsOf o, listed.getD k false = true) → Lens.behind ops f i j = true → listed.getD j false = true
 | 0, _, _, _, _, h => by cases h
 | f + 1, i, o, ho, hd, h => by
  simp only [Lens.behind, ho, Bool.or_eq_true, List.any_eq_true, List.contains_iff_mem] at h
  rcases h with h | ⟨k, hk, h⟩
  ·exact hd j h
  ·cases f with
   | zero => cases h
   | succ f =>
    cases hk' : ops[k]? with
    | none => simp only [Lens.behind, hk'] at h; cases h
    | some o' => exact Closed.behind hc (f + 1) k o' hk' (hc k o' hk' (hd k hk)) h
theorem Closed.set {ops : Array Oper} {listed : Array Bool} (hc : Closed ops listed) {i : Nat} {o : Oper} (ho : ops[i]? = some o) (hd : ∀ k ∈ depsOf o, listed.getD k false = true) : Closed ops (listed.setIfInBounds i true) := by
 have hmono : ∀ k, listed.getD k false = true → (listed.setIfInBounds i true).getD k false = true := by
  intro k hk
  simp only [Array.getD_eq_getD_getElem?, Array.getElem?_setIfInBounds] at hk ⊢
  split
  ·split
   ·rfl
   ·rename_i h1 h2; subst h1; simp [show ¬ i < listed.size from h2] at hk
  ·exact hk
 intro x o' hx hl k hk
 by_cases e : x = i
 ·subst e; rw [ho] at hx; injection hx with hx; subst hx
  exact hmono k (hd k hk)
 ·refine hmono k (hc x o' hx ?_ k hk)
  simp only [Array.getD_eq_getD_getElem?, Array.getElem?_setIfInBounds] at hl ⊢
  rwa [if_neg (fun h => e h.symm)] at hl
theorem drawOK_dst {ops : Array Oper} {ds : List Nat} (h : drawOK ops ds = true) {i : Nat} {o : Oper} (hi : ops[i]? = some o) (hlt : i < ds.length) : o.dst = some ds[i] := by
 simp only [drawOK, Bool.and_eq_true] at h
 have h1 := h.1.1.2
 rw [List.all_eq_true] at h1
 have h2 := h1 i (by rw [List.mem_range]; exact hlt)
 rw [hi] at h2
 simpa [hlt] using h2
theorem drawOK_nodup {ops : Array Oper} {ds : List Nat} (h : drawOK ops ds = true) : ds.Nodup ∧ ds.length ≤ ops.size := by
 simp only [drawOK, Bool.and_eq_true, decide_eq_true_eq] at h
 exact h.1.1.1
theorem look_append {l r : List (Nat × AV)} {t : Nat} : look (l ++ r) t = (look l t).or (look r t) := by
 induction l with
 | nil => rfl
 | cons p l ih =>
  obtain ⟨k, v⟩ := p
  simp only [List.cons_append, look]
  split
  ·rfl
  ·exact ih
theorem look_depEnv {ds : List Nat} {E : List AV} {l : List Nat} {t : Nat} {v : AV} (h : look (depEnv ds E l) t = some v) : ∃ j ∈ l, ds[j]? = some t ∧ E[j]? = some v := by
 induction l with
 | nil => cases h
 | cons j l ih =>
  simp only [depEnv] at h
  split at h
  ·rename_i d c h1 h2
   simp only [look] at h
   split at h
   ·rename_i he
    injection h with h; subst h
    have : d = t := by simpa using he
    subst this
    exact ⟨j, .head _, h1, h2⟩
   ·obtain ⟨j', h3, h4⟩ := ih h; exact ⟨j', .tail _ h3, h4⟩
  ·obtain ⟨j', h3, h4⟩ := ih h; exact ⟨j', .tail _ h3, h4⟩
theorem look_clean {ds : List Nat} {env : List (Nat × AV)} {t : Nat} {v : AV} (h : look (clean ds env) t = some v) : t ∉ ds ∧ look env t = some v := by
 induction env with
 | nil => cases h
 | cons p l ih =>
  obtain ⟨k, c⟩ := p
  simp only [clean] at h
  split at h
  ·rename_i hk
   obtain ⟨h1, h2⟩ := ih h
   refine ⟨h1, ?_⟩
   have : k ≠ t := fun e => h1 (by subst e; simpa using hk)
   simp [look, this, h2]
  ·rename_i hk
   simp only [look] at h ⊢
   split at h
   ·rename_i he
    have : k = t := by simpa using he
    subst this
    rw [if_pos (by simp)]
    exact ⟨by simpa using hk, h⟩
   ·rename_i he
    obtain ⟨h1, h2⟩ := ih h
    rw [if_neg he]
    exact ⟨h1, h2⟩
/-- An operation alone, whatever else the frame holds. -/
def DrawStep (C : Ctx) (ops : Array Oper) (o : Oper) (env : List (Nat × AV)) (objs : List AObj) (c : AV) : Prop :=
  ∀ more, WL C ops [o] ⟨env ++ more, objs⟩ (fun e st' => e = .normal ∧ st' = St.put ⟨env ++ more, objs⟩ o.dst c)
def DrawSteps (C : Ctx) (ops : Array Oper) (ds : List Nat) (E : List AV) (env : List (Nat × AV)) (objs : List AObj) : List Oper → List AV → Prop
  | _, [] => True
  | [], _ :: _ => False
  | o :: os, c :: cs => DrawStep C ops o (depEnv ds E (depsOf o) ++ clean ds env) objs c ∧ DrawSteps C ops ds E env objs os cs
theorem DrawSteps.get {C : Ctx} {ops : Array Oper} {ds : List Nat} {E : List AV} {env : List (Nat × AV)} {objs : List AObj} : ∀ {os : List Oper} {cs : List AV}, DrawSteps C ops ds E env objs os cs →
  ∀ {i : Nat} {c : AV}, cs[i]? = some c → ∃ o, os[i]? = some o ∧ DrawStep C ops o (depEnv ds E (depsOf o) ++ clean ds env) objs c
 | o :: os, c :: cs, ⟨h, _⟩, 0, c', hc => by simp at hc; subst hc; exact ⟨o, rfl, h⟩
 | o :: os, c :: cs, ⟨_, h⟩, i + 1, c', hc => by simpa using DrawSteps.get h (i := i) (by simpa using hc)
 | [], _ :: _, h, _, _, _ => h.elim
 | _, [], _, _, _, hc => by simp at hc
theorem Rel.drew {C : Ctx} {st : St} {a : Act} {w : World} (h : Rel C st a w) : Rel C st a w.drew := by
 obtain ⟨H, h⟩ := h
 have hk := Keeps.drew w H
 refine ⟨H, h.move hk ⟨h.objs.n, fun o ob ho => ?_, h.objs.inj, h.objs.lt⟩ (fun _ _ => Iff.rfl) h.klen (fun _ _ => ⟨rfl, rfl, rfl⟩) h.lens (fun o ho => Outside.of_eq rfl _ _) h.own (fun _ _ _ => rfl) (Nat.le_refl _) rfl rfl rfl⟩
 have := h.objs.rel o ob ho
 cases ob with
 | dead => trivial
 | iter => exact this
 | kv k es =>
  obtain ⟨g1, g2, es', cl, g3, g4, g5⟩ := this
  exact ⟨g1, g2, es', cl, g3, g4, RelL.keeps _ hk.bare g5⟩
 | slot => exact this
 | cells cs ver esz flat own =>
  obtain ⟨g1, g2, vs, c, e, g3, g4, g5, g6⟩ := this
  exact ⟨g1, g2, vs, c, e, g3, g4.keeps cs (hk.flatIf flat), g5, g6⟩
/-- a frame that is known better -/
theorem Rel.env {C : Ctx} {st : St} {a : Act} {w : World} (h : Rel C st a w) {env : List (Nat × AV)} (he : ∀ t v, look env t = some v → look st.env t = some v) : Rel C ⟨env, st.objs⟩ a w := by
 obtain ⟨H, h⟩ := h
 exact ⟨H, h.size, h.defers, fun t av ht => h.env t av (he t av ht), h.objs, h.wr0, h.klen, h.byref, h.lens, h.out, h.own, h.frame, h.le, h.os, h.tape, h.output, h.saved⟩
theorem wpOp_of_WL {C : Ctx} {ops : Array Oper} {o : Oper} {st st' : St} {i : Nat} {a : Act} {w : World} {K : Act → World → Prop} {Q : Exit → Act → World → Prop} (hi : ops[i]? = some o)
  (h : WL C ops [o] st (fun e s => e = .normal ∧ s = st')) (hr : Rel C st a w) (hK : ∀ a w, Rel C st' a w → K a w) : wpOp C.P ops Q i K a w := by
 have h1 := h a w hr
 unfold wpList at h1
 unfold wpOp
 simp only [hi]
 have hno : ¬ LetsOut (Post C (fun e s => e = Exit.normal ∧ s = st')) := fun ⟨_, _, _, ⟨he, _⟩, _⟩ => by cases he
 have hnext : ∀ a w, wpList C.P ops (Post C (fun e s => e = Exit.normal ∧ s = st')) [] a w → K a w := fun a w ⟨s, ⟨_, hs⟩, hr⟩ => hK a w (hs ▸ hr)
 split
 ·rename_i hw
  rw [if_pos hw] at h1
  rcases h1 with h1 | ⟨_, h1⟩
  ·left
   unfold Oper.wp at h1 ⊢
   generalize (execOp a.eval o).run C.P w = r at h1 ⊢
   cases r with
   | ok n w' =>
    cases n <;> simp only [Oper.upon] at h1 ⊢ <;>
     first
      | exact hnext _ _ h1
      | exact Calls.mono h1 (fun e w'' he => by cases e <;> first | exact hnext _ _ he | exact absurd he hno | (obtain ⟨_, ⟨he, _⟩, _⟩ := he; cases he))
      | exact Rows.mono h1 (fun _ _ he => hnext _ _ he)
   | halt x w' => cases x <;> simp only [Oper.upon] at h1 ⊢ <;> (obtain ⟨_, ⟨he, _⟩, _⟩ := h1; cases he)
  ·exact absurd h1 hno
 ·rename_i hw
  rw [if_neg hw] at h1
  exact hnext _ _ h1
theorem mem_ready {md : Region.Mode} {ops : Array Oper} {listed : Array Bool} {i : Nat} (h : i ∈ Region.ready md ops listed) : i < ops.size ∧ listed.getD i true = false ∧ ∃ o, ops[i]? = some o ∧ ∀ e ∈ o.after.toList, Region.binds md e = true → listed.getD e.on false = true := by
 unfold Region.ready at h
 rw [List.mem_filter] at h
 obtain ⟨h1, h2⟩ := h
 rw [List.mem_range] at h1
 simp only [Bool.and_eq_true, Bool.not_eq_true'] at h2
 refine ⟨h1, h2.1, ops[i], by simp [h1], fun e he hb => ?_⟩
 have h3 := h2.2
 rw [Array.getElem?_eq_getElem h1] at h3
 simp only [Option.map_some, Option.getD_some, Array.all_eq_true'] at h3
 have := h3 e (by simpa using he)
 simp only [hb, Bool.not_true, Bool.false_or] at this
 exact this
theorem getD_set (l : Array Bool) (i j : Nat) (b d : Bool) : (l.setIfInBounds i b).getD j d = if i = j ∧ j < l.size then b else l.getD j d := by
 simp only [Array.getD_eq_getD_getElem?, Array.getElem?_setIfInBounds]
 by_cases h : i = j
 ·subst h
  by_cases h2 : i < l.size
  ·simp [h2]
  ·simp [h2]
 ·simp [h]
/-- what is known while the values come, in whatever order -/
structure Midst (ops : Array Oper) (ds : List Nat) (E : List AV) (env0 env : List (Nat × AV)) (listed : Array Bool) : Prop where
  size : listed.size = ops.size
  tail : ∀ j, ds.length ≤ j → j < ops.size → listed.getD j true = false
  vals : ∀ j d c, ds[j]? = some d → E[j]? = some c → listed.getD j true = true → look env d = some c
  rest : ∀ t v, t ∉ ds → look env0 t = some v → look env t = some v
  closed : Closed ops listed
theorem W.draw_tail {C : Ctx} {ops : Array Oper} {Q : Exit → Act → World → Prop} {m0 : Nat} (hback : ∀ (i : Nat) (o : Oper), ops[i]? = some o → ∀ e ∈ o.after.toList, Region.binds .any e = true → e.on < i) (htail : ∀ i, i < ops.size → m0 ≤ i → ∀ j, j < i → behind ops 24 i j = true) : ∀ (fuel m : Nat) (listed : Array Bool) (a : Act) (w : World), m0 ≤ m → m ≤ ops.size → fuel = ops.size - m → listed.size = ops.size →
  (∀ j, j < ops.size → (listed.getD j true = true ↔ j < m)) → wpList C.P ops Q (ops.toList.drop m) a w → wpAny C.P .any ops Q fuel listed a w := by
 intro fuel
 have hready : ∀ m (listed : Array Bool), listed.size = ops.size → m0 ≤ m → (∀ j, j < ops.size → (listed.getD j true = true ↔ j < m)) → ∀ i ∈ Region.ready .any ops listed, i = m ∧ m < ops.size := by
  intro m listed hsz0 hm hl i hi
  obtain ⟨h1, h2, o, ho, h3⟩ := mem_ready hi
  have hge : m ≤ i := by
   rcases Nat.lt_or_ge i m with h | h
   ·have := (hl i h1).2 h; rw [h2] at this; cases this
   ·exact h
  refine ⟨?_, by omega⟩
  rcases Nat.lt_or_ge m i with hlt | h
  ·have hcl : Closed ops listed := by
    intro x o' hx hlx k hk
    have hxs := (Array.getElem?_eq_some_iff.1 hx).1
    have hxm : x < m := (hl x hxs).1 (by
     by_cases hsz : x < listed.size
     ·simpa [Array.getD, hsz] using hlx
     ·simp [Array.getD, hsz])
    simp only [depsOf, List.mem_map, List.mem_filter] at hk
    obtain ⟨e, ⟨he1, he2⟩, rfl⟩ := hk
    have hb := hback x o' hx e he1 he2
    have h5 := (hl e.on (by omega)).2 (by omega)
    have : e.on < listed.size := by omega
    simpa [Array.getD, this] using h5
   have h4 := hcl.behind 24 i o ho (fun k hk => by
    simp only [depsOf, List.mem_map, List.mem_filter] at hk
    obtain ⟨e, ⟨he1, he2⟩, rfl⟩ := hk
    exact h3 e he1 he2) (htail i h1 (by omega) m hlt)
   have hms : m < ops.size := by omega
   have h5 : listed.getD m true = true := by
    by_cases hsz : m < listed.size
    ·simpa [Array.getD, hsz] using h4
    ·simp [Array.getD, hsz]
   have := (hl m hms).1 h5
   omega
  ·omega
 induction fuel with
 | zero =>
  intro m listed a w hm hle hf hsz hl h
  have : m = ops.size := by omega
  subst this
  refine ⟨?_, ?_⟩
  ·rw [List.eq_nil_iff_forall_not_mem]
   intro i hi
   have := hready _ listed hsz hm hl i hi
   omega
  ·rw [List.drop_eq_nil_of_le (by simp)] at h
   exact h
 | succ fuel ih =>
  intro m listed a w hm hle hf hsz hl h
  have hlt : m < ops.size := by omega
  have hmem : m ∈ Region.ready .any ops listed ∨ m ∉ Region.ready .any ops listed := Classical.em _
  have hdrop : ops.toList.drop m = ops[m] :: ops.toList.drop (m + 1) := by
   rw [List.drop_eq_getElem_cons (by simpa using hlt)]; simp
  have hlm : listed.getD m true = false := by
   cases h1 : listed.getD m true with
   | false => rfl
   | true => have := (hl m hlt).1 h1; omega
  refine ⟨fun h0 => ?_, fun i hi => ?_⟩
  ·-- m is ready
   exfalso
   have : m ∈ Region.ready .any ops listed := by
    unfold Region.ready
    rw [List.mem_filter, List.mem_range]
    refine ⟨hlt, ?_⟩
    simp only [hlm, Bool.not_false, Bool.true_and, Array.getElem?_eq_getElem hlt, Option.map_some, Option.getD_some, Array.all_eq_true']
    intro e he
    by_cases hb : Region.binds .any e = true
    ·simp only [hb, Bool.not_true, Bool.false_or]
     have hback := hback m _ (Array.getElem?_eq_getElem hlt) e (by simpa using he) hb
     have h5 := (hl e.on (by omega)).2 hback
     have : e.on < listed.size := by omega
     simpa [Array.getD, this] using h5
    ·simp [hb]
   rw [h0] at this; cases this
  ·obtain ⟨rfl, _⟩ := hready m listed hsz hm hl i hi
   rw [hdrop] at h
   unfold wpList at h
   unfold wpOp
   simp only [Array.getElem?_eq_getElem hlt]
   have hnext : ∀ a w, wpList C.P ops Q (ops.toList.drop (i + 1)) a w → wpAny C.P .any ops Q fuel (listed.setIfInBounds i true) a w := fun a w hw =>
    ih (i + 1) _ a w (by omega) (by omega) (by omega) (by simp [hsz]) (fun j hj => by
     rw [getD_set]
     by_cases e : i = j
     ·subst e; simp [hsz, hlt]
     ·have := hl j hj
      simp only [e, false_and, if_false, this]; omega) hw
   split
   ·rename_i hw
    rw [if_pos hw] at h
    exact h.imp (Oper.wp_mono hnext) id
   ·rename_i hw
    rw [if_neg hw] at h
    exact hnext _ _ h
/-- A region that draws its order: its values, each by itself, then the rest in its order. -/
theorem W.draw {C : Ctx} {id : Nat} {ops : Array Oper} {st : St} {Q : Exit → St → Prop} (hmix : C.P.follows .mixedOrders = true) (ds : List Nat) (E : List AV) (hlen : E.length = ds.length) (hchk : drawOK ops ds = true)
  (hs : DrawSteps C ops ds E st.env st.objs ops.toList E) (ht : WL C ops (ops.toList.drop ds.length) ⟨ds.zip E ++ st.env, st.objs⟩ Q) : W C (.region id ops true) st Q := by
 obtain ⟨hnd, hle⟩ := drawOK_nodup hchk
 have main : ∀ (fuel : Nat) (listed : Array Bool) (env : List (Nat × AV)) (a : Act) (w : World), fuel = ((List.range ops.size).filter fun j => !listed.getD j true).length → Midst ops ds E st.env env listed → Rel C ⟨env, st.objs⟩ a w → wpAny C.P .any ops (Post C Q) fuel listed a w := by
  intro fuel
  have hall : ∀ (listed : Array Bool) (env : List (Nat × AV)) (a : Act) (w : World), Midst ops ds E st.env env listed → Rel C ⟨env, st.objs⟩ a w → (∀ j, j < ds.length → listed.getD j true = true) →
    wpAny C.P .any ops (Post C Q) (ops.size - ds.length) listed a w := by
   intro listed env a w hm hr hvals
   refine W.draw_tail (fun i o hi e he hb => drawOK_back hchk hi he hb) (fun i h1 h2 j h3 => drawOK_tail hchk h1 h2 h3) _ ds.length listed a w (Nat.le_refl _) hle rfl hm.size (fun j hj => ⟨fun h => ?_, fun h => hvals j h⟩) (ht a w ?_)
   ·rcases Nat.lt_or_ge j ds.length with h1 | h1
    ·exact h1
    ·rw [hm.tail j h1 hj] at h; cases h
   ·refine hr.env fun t v hv => ?_
    rw [look_append] at hv
    cases hz : look (ds.zip E) t with
    | some v' =>
     rw [hz, Option.some_or] at hv
     injection hv with hv; subst hv
     have : ∃ j : Nat, ds[j]? = some t ∧ E[j]? = some v' := by
      have aux : ∀ (ds : List Nat) (E : List AV), look (ds.zip E) t = some v' → ∃ j : Nat, ds[j]? = some t ∧ E[j]? = some v' := by
       intro ds
       induction ds with
       | nil => intro E h; simp [look] at h
       | cons d ds ih =>
        intro E h
        cases E with
        | nil => simp [look] at h
        | cons c E =>
         simp only [List.zip_cons_cons, look] at h
         split at h
         ·rename_i he
          injection h with h; subst h
          exact ⟨0, by simpa using he, rfl⟩
         ·obtain ⟨j, h1, h2⟩ := ih E h
          exact ⟨j + 1, by simpa using h1, by simpa using h2⟩
      exact aux ds E hz
     obtain ⟨j, h1, h2⟩ := this
     exact hm.vals j t v' h1 h2 (hvals j (List.getElem?_eq_some_iff.1 h1).1)
    | none =>
     rw [hz, Option.none_or] at hv
     refine hm.rest t v (fun hin => ?_) hv
     obtain ⟨j, hj⟩ := List.getElem?_of_mem hin
     have aux : ∀ (ds : List Nat) (E : List AV), E.length = ds.length → t ∈ ds → look (ds.zip E) t ≠ none := by
      intro ds
      induction ds with
      | nil => intro E _ h; cases h
      | cons d ds ih =>
       intro E hl h
       cases E with
       | nil => simp at hl
       | cons c E =>
        simp only [List.zip_cons_cons, look]
        split
        ·simp
        ·rename_i hne
         rcases List.mem_cons.1 h with h | h
         ·subst h; simp at hne
         ·exact ih E (by simpa using hl) h
     exact aux ds E hlen hin hz
  induction fuel with
  | zero =>
   intro listed env a w hf hm hr
   have hnone : ∀ j, j < ops.size → listed.getD j true = true := by
    intro j hj
    have h0 := List.eq_nil_of_length_eq_zero hf.symm
    cases h1 : listed.getD j true with
    | true => rfl
    | false =>
     have : j ∈ (List.range ops.size).filter fun j => !listed.getD j true := by
      rw [List.mem_filter, List.mem_range]; exact ⟨hj, by simp [h1]⟩
     rw [h0] at this; cases this
   have h2 : ops.size - ds.length = 0 := by
    rcases Nat.lt_or_ge ds.length ops.size with h | h
    ·have := hnone _ h; rw [hm.tail _ (Nat.le_refl _) h] at this; cases this
    ·omega
   have := hall listed env a w hm hr (fun j hj => hnone j (by omega))
   rw [h2] at this; exact this
  | succ fuel ih =>
   intro listed env a w hf hm hr
   by_cases hv : ∀ j, j < ds.length → listed.getD j true = true
   ·have h1 := hall listed env a w hm hr hv
    have h2 : fuel + 1 = ops.size - ds.length := by
     rw [hf]
     have h3 : (List.range ops.size).filter (fun j => !listed.getD j true) = List.range' ds.length (ops.size - ds.length) := by
      have h4 : List.range ops.size = List.range ds.length ++ List.range' ds.length (ops.size - ds.length) := by
       rw [List.range_eq_range', List.range_eq_range', show ops.size = ds.length + (ops.size - ds.length) by omega]
       have := List.range'_append (s := 0) (m := ds.length) (n := ops.size - ds.length) (step := 1)
       simp at this
       rw [← this]; simp
      rw [h4, List.filter_append]
      rw [List.filter_eq_nil_iff.2, List.nil_append, List.filter_eq_self.2]
      ·intro j hj
       rw [List.mem_range'_1] at hj
       simp [hm.tail j hj.1 (by omega)]
      ·intro j hj
       rw [List.mem_range] at hj
       simp [hv j hj]
     rw [h3, List.length_range']
    rw [h2]; exact h1
   ·-- a value comes
    refine ⟨fun h0 => ?_, fun i hi => ?_⟩
    ·exfalso
     have hex : ∃ j, j < ds.length ∧ listed.getD j true = false := by
      apply Classical.byContradiction
      intro hn
      exact hv fun j hj => by
       cases h1 : listed.getD j true with
       | true => rfl
       | false => exact absurd ⟨j, hj, h1⟩ hn
     obtain ⟨m, ⟨hm1, hm2⟩, hmin⟩ := least hex
     have : m ∈ Region.ready .any ops listed := by
      unfold Region.ready
      have hlt : m < ops.size := by omega
      rw [List.mem_filter, List.mem_range]
      refine ⟨hlt, ?_⟩
      simp only [hm2, Bool.not_false, Bool.true_and, Array.getElem?_eq_getElem hlt, Option.map_some, Option.getD_some, Array.all_eq_true']
      intro e he
      by_cases hb : Region.binds .any e = true
      ·simp only [hb, Bool.not_true, Bool.false_or]
       have hback := drawOK_back hchk (Array.getElem?_eq_getElem hlt) (by simpa using he) hb
       have h5 : listed.getD e.on true = true := by
        cases h6 : listed.getD e.on true with
        | true => rfl
        | false => have := hmin e.on ⟨by omega, h6⟩; omega
       have : e.on < listed.size := by rw [hm.size]; omega
       simpa [Array.getD, this] using h5
      ·simp [hb]
     rw [h0] at this; cases this
    ·obtain ⟨h1, h2, o, ho, h3⟩ := mem_ready hi
     have hik : i < ds.length := by
      rcases Nat.lt_or_ge i ds.length with h | h
      ·exact h
      ·exfalso
       refine hv fun j hj => ?_
       have h4 := hm.closed.behind 24 i o ho (fun k hk => by
        simp only [depsOf, List.mem_map, List.mem_filter] at hk
        obtain ⟨e, ⟨he1, he2⟩, rfl⟩ := hk
        exact h3 e he1 he2) (drawOK_tail hchk h1 h (show j < i by omega))
       have : j < listed.size := by rw [hm.size]; omega
       simpa [Array.getD, this] using h4
     have hiE : i < E.length := by omega
     obtain ⟨o', ho', hstep⟩ := hs.get (i := i) (c := E[i]) (by simp [hiE])
     have : o' = o := by
      rw [Array.getElem?_toList] at ho'
      rw [ho] at ho'; injection ho' with ho'; exact ho'.symm
     subst this
     have hdst := drawOK_dst hchk ho hik
     have hpre : ∀ t v, look ((depEnv ds E (depsOf o') ++ clean ds st.env) ++ env) t = some v → look env t = some v := by
      intro t v hl
      rw [look_append, look_append] at hl
      cases h5 : look (depEnv ds E (depsOf o')) t with
      | some v' =>
       rw [h5] at hl
       simp only [Option.some_or, Option.some.injEq] at hl
       subst hl
       obtain ⟨j, h6, h7, h8⟩ := look_depEnv h5
       simp only [depsOf, List.mem_map, List.mem_filter] at h6
       obtain ⟨e, ⟨he1, he2⟩, rfl⟩ := h6
       have h9 := h3 e he1 he2
       have : e.on < listed.size := by rw [hm.size]; have := (List.getElem?_eq_some_iff.1 h7).1; omega
       exact hm.vals e.on t v' h7 h8 (by simpa [Array.getD, this] using h9)
      | none =>
       rw [h5, Option.none_or] at hl
       cases h6 : look (clean ds st.env) t with
       | some v' =>
        rw [h6] at hl
        simp only [Option.some_or, Option.some.injEq] at hl
        subst hl
        obtain ⟨h7, h8⟩ := look_clean h6
        exact hm.rest t v' h7 h8
       | none => rw [h6, Option.none_or] at hl; exact hl
     refine wpOp_of_WL (st := ⟨(depEnv ds E (depsOf o') ++ clean ds st.env) ++ env, st.objs⟩) ho (hstep env) (hr.env hpre) fun a' w' hr' => ih _ ((ds[i], E[i]) :: env) a' w' ?_ ?_ ?_
     ·-- one fewer is left
      have aux : ∀ (l : List Nat), l.Nodup → i ∈ l → (l.filter fun j => !listed.getD j true).length = (l.filter fun j => !(listed.setIfInBounds i true).getD j true).length + 1 := by
       intro l
       induction l with
       | nil => intro _ h; cases h
       | cons x l ih2 =>
        intro hn hin
        rw [List.nodup_cons] at hn
        by_cases hx : x = i
        ·subst hx
         have hsz : x < listed.size := by rw [hm.size]; exact h1
         have hsame : (l.filter fun j => !listed.getD j true) = (l.filter fun j => !(listed.setIfInBounds x true).getD j true) := by
          apply List.filter_congr
          intro j hj
          rw [getD_set, if_neg]
          rintro ⟨rfl, _⟩
          exact hn.1 hj
         rw [List.filter_cons_of_pos (by simp [h2]), List.filter_cons_of_neg (by rw [getD_set]; simp [hsz]), List.length_cons, hsame]
        ·have hin' : i ∈ l := by
          rcases List.mem_cons.1 hin with h | h
          ·exact absurd h.symm hx
          ·exact h
         have hg : (listed.setIfInBounds i true).getD x true = listed.getD x true := by
          rw [getD_set, if_neg]
          rintro ⟨rfl, _⟩
          exact hx rfl
         have := ih2 hn.2 hin'
         by_cases hc : listed.getD x true = true
         ·rw [List.filter_cons_of_neg (by simp [hc]), List.filter_cons_of_neg (by rw [hg]; simp [hc])]; exact this
         ·rw [List.filter_cons_of_pos (by simpa using hc), List.filter_cons_of_pos (by rw [hg]; simpa using hc), List.length_cons, List.length_cons, this]
      have := aux (List.range ops.size) List.nodup_range (by rw [List.mem_range]; exact h1)
      omega
     ·refine ⟨by simp [hm.size], fun j hj1 hj2 => ?_, fun j d c hj1 hj2 hj3 => ?_, fun t v ht hl => ?_, hm.closed.set ho fun k hk => by
       simp only [depsOf, List.mem_map, List.mem_filter] at hk
       obtain ⟨e, ⟨he1, he2⟩, rfl⟩ := hk
       exact h3 e he1 he2⟩
      ·rw [getD_set, if_neg (by omega)]; exact hm.tail j hj1 hj2
      ·by_cases e : i = j
       ·subst e
        rw [List.getElem?_eq_getElem hik] at hj1
        rw [List.getElem?_eq_getElem hiE] at hj2
        injection hj1 with hj1; injection hj2 with hj2
        simp [look, hj1, hj2]
       ·rw [getD_set, if_neg (fun h => e h.1)] at hj3
        have hne : ds[i] ≠ d := fun h => e (nodup_get hnd (by rw [List.getElem?_eq_getElem hik, h]) hj1)
        simp only [look]
        rw [if_neg (by simpa using hne)]
        exact hm.vals j d c hj1 hj2 hj3
      ·have hne : ds[i] ≠ t := fun h => ht (h ▸ List.getElem_mem hik)
       simp only [look]
       rw [if_neg (by simpa using hne)]
       exact hm.rest t v ht hl
     ·rw [hdst] at hr'
      refine Rel.env (st := ⟨(ds[i], E[i]) :: ((depEnv ds E (depsOf o') ++ clean ds st.env) ++ env), st.objs⟩) hr' fun t v hl => ?_
      simp only [look] at hl ⊢
      split at hl
      ·rename_i he; rw [if_pos he]; exact hl
      ·rename_i he
       rw [if_neg he]
       cases h5 : look ((depEnv ds E (depsOf o') ++ clean ds st.env) ++ env) t with
       | some v' => have := hpre t v' h5; rw [hl] at this; exact this.symm
       | none => rw [look_append, hl] at h5; cases h6 : look (depEnv ds E (depsOf o') ++ clean ds st.env) t <;> rw [h6] at h5 <;> cases h5
 intro a w hr
 refine wp_region_any hmix (main ops.size _ st.env a _ ?_ ⟨by simp, fun j h1 h2 => by simp [Array.getD, h2], fun j d c h1 h2 h3 => ?_, fun t v _ h => h, fun i o ho hl => by
  have := (Array.getElem?_eq_some_iff.1 ho).1
  simp [Array.getD, this] at hl⟩ hr.drew)
 ·rw [List.filter_eq_self.2, List.length_range]
  intro j hj
  rw [List.mem_range] at hj
  simp [Array.getD, hj]
 ·have := (List.getElem?_eq_some_iff.1 h1).1
  have hlt : j < ops.size := by omega
  simp [Array.getD, hlt] at h3
/-- the walk through a region that draws its order -/
def DrawFrom (C : Ctx) (ops : Array Oper) (ds : List Nat) (env : List (Nat × AV)) (objs : List AObj) (Q : Exit → St → Prop) : List Oper → List Nat → List AV → Prop
  | o :: os, _ :: dr, E => ∃ c, DrawStep C ops o (depEnv ds E (depsOf o) ++ clean ds env) objs c ∧ DrawFrom C ops ds env objs Q os dr (E ++ [c])
  | [], _ :: _, _ => False
  | l, [], E => WL C ops l ⟨ds.zip E ++ env, objs⟩ Q
theorem DrawFrom.step {C : Ctx} {ops : Array Oper} {ds : List Nat} {env : List (Nat × AV)} {objs : List AObj} {Q : Exit → St → Prop} {o : Oper} {os : List Oper} {d : Nat} {dr : List Nat} {E : List AV} {c : AV}
  (h : DrawStep C ops o (depEnv ds E (depsOf o) ++ clean ds env) objs c) (h' : DrawFrom C ops ds env objs Q os dr (E ++ [c])) : DrawFrom C ops ds env objs Q (o :: os) (d :: dr) E := ⟨c, h, h'⟩
theorem DrawFrom.done {C : Ctx} {ops : Array Oper} {ds : List Nat} {env : List (Nat × AV)} {objs : List AObj} {Q : Exit → St → Prop} {l : List Oper} {E : List AV}
  (h : WL C ops l ⟨ds.zip E ++ env, objs⟩ Q) : DrawFrom C ops ds env objs Q l [] E := by cases l <;> exact h
theorem depEnv_more {ds : List Nat} {E E' : List AV} : ∀ {l : List Nat}, (∀ j ∈ l, j < E.length) → depEnv ds (E ++ E') l = depEnv ds E l
 | [], _ => rfl
 | j :: l, h => by
  simp only [depEnv]
  rw [List.getElem?_append_left (h j (by simp)), depEnv_more (fun x hx => h x (by simp [hx]))]
theorem DrawFrom.sound {C : Ctx} {ops : Array Oper} {ds : List Nat} {env : List (Nat × AV)} {objs : List AObj} {Q : Exit → St → Prop} (hchk : drawOK ops ds = true) : ∀ {os : List Oper} {dr : List Nat} {E : List AV}, DrawFrom C ops ds env objs Q os dr E →
  os = ops.toList.drop E.length → dr = ds.drop E.length → ∃ E', DrawSteps C ops ds (E ++ E') env objs os E' ∧ E'.length = dr.length ∧ WL C ops (os.drop dr.length) ⟨ds.zip (E ++ E') ++ env, objs⟩ Q
 | o :: os, d :: dr, E, h, ho, hd => by
  obtain ⟨c, h1, h2⟩ := h
  have hlt : E.length < ops.toList.length := by
   rcases Nat.lt_or_ge E.length ops.toList.length with h | h
   ·exact h
   ·rw [List.drop_eq_nil_of_le h] at ho; cases ho
  have hltd : E.length < ds.length := by
   rcases Nat.lt_or_ge E.length ds.length with h | h
   ·exact h
   ·rw [List.drop_eq_nil_of_le h] at hd; cases hd
  rw [List.drop_eq_getElem_cons hlt] at ho
  rw [List.drop_eq_getElem_cons hltd] at hd
  injection ho with ho1 ho2
  injection hd with hd1 hd2
  obtain ⟨E', g1, g2, g3⟩ := DrawFrom.sound hchk h2 (by simpa using ho2) (by simpa using hd2)
  refine ⟨c :: E', ⟨?_, by simpa [List.append_assoc] using g1⟩, by simp [g2], by simpa [List.append_assoc] using g3⟩
  rw [depEnv_more]
  ·exact h1
  ·intro j hj
   simp only [depsOf, List.mem_map, List.mem_filter] at hj
   obtain ⟨e, ⟨he1, he2⟩, rfl⟩ := hj
   exact drawOK_back hchk (i := E.length) (o := o) (by rw [← Array.getElem?_toList, List.getElem?_eq_getElem hlt, ho1]) he1 he2
 | [], _ :: _, _, h, _, _ => h.elim
 | l, [], E, h, _, _ => ⟨[], by cases l <;> trivial, rfl, by cases l <;> simpa [DrawFrom] using h⟩
theorem W.drawn {C : Ctx} {id : Nat} {ops : Array Oper} {env : List (Nat × AV)} {objs : List AObj} {Q : Exit → St → Prop} (hmix : C.P.follows .mixedOrders = true) (ds : List Nat) (hchk : drawOK ops ds = true)
  (h : DrawFrom C ops ds env objs Q ops.toList ds []) : W C (.region id ops true) ⟨env, objs⟩ Q := by
 obtain ⟨E, h1, h2, h3⟩ := h.sound hchk rfl rfl
 exact W.draw hmix ds E h2 hchk h1 h3
end Go.Lens
