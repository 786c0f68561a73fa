/- Lens, part 9: the call of a function, put together. -/
import Derived.Test.YtnlikbgcnofjiaaDoorLens8
set_option linter.unusedVariables false
set_option linter.unusedSimpArgs false
namespace Go.Lens
open Go Go.RowKit

def mergeO : AObj → Nat → AObj → AObj
  | .cells ds ver esz flat own, off, .cells ds' _ _ _ _ => .cells (splice ds off ds') ver esz flat own
  | o, _, _ => o
def wb (objs : List AObj) : List (Nat × Nat) → List AObj → List AObj
  | (o, off) :: B, o' :: O => wb (objs.set o (mergeO (objs.getD o .dead) off o')) B O
  | _, _ => objs
def killL (objs : List AObj) : List Nat → List AObj
  | [] => objs
  | o :: L => killL (objs.set o .dead) L

theorem wb_length : ∀ (B : List (Nat × Nat)) (O : List AObj) (objs : List AObj), (wb objs B O).length = objs.length
  | [], _, _ => by simp [wb]
  | _ :: _, [], _ => by simp [wb]
  | (o, off) :: B, o' :: O, objs => by simp [wb, wb_length B O]
theorem killL_length : ∀ (L : List Nat) (objs : List AObj), (killL objs L).length = objs.length
  | [], _ => rfl
  | o :: L, objs => by simp [killL, killL_length L]
theorem killL_get : ∀ (L : List Nat) (objs : List AObj) (x : Nat), (killL objs L)[x]? = if x ∈ L ∧ x < objs.length then some .dead else objs[x]?
  | [], objs, x => by simp [killL]
  | o :: L, objs, x => by
    rw [killL, killL_get L]
    by_cases hx : x ∈ L ∧ x < objs.length
    · rw [if_pos (by simpa using hx), if_pos ⟨List.mem_cons_of_mem _ hx.1, hx.2⟩]
    · rw [if_neg (by simpa using hx)]
      by_cases e : x = o
      · subst e
        by_cases hl : x < objs.length
        · rw [if_pos ⟨by simp, hl⟩, List.getElem?_set_self hl]
        · rw [if_neg (fun h => hl h.2), List.getElem?_eq_none (by simpa using hl), List.getElem?_eq_none (by simpa using hl)]
      · rw [List.getElem?_set_ne (fun h => e h.symm), if_neg]
        rintro ⟨h1, h2⟩
        rcases List.mem_cons.1 h1 with h1 | h1
        · exact e h1
        · exact hx ⟨h1, h2⟩
theorem wb_ne : ∀ (B : List (Nat × Nat)) (O objs : List AObj) (x : Nat), x ∉ B.map (·.1) → (wb objs B O)[x]? = objs[x]?
  | [], _, _, _, _ => by simp [wb]
  | _ :: _, [], _, _, _ => by simp [wb]
  | (o, off) :: B, o' :: O, objs, x, h => by
    simp only [List.map_cons, List.mem_cons, not_or] at h
    rw [wb, wb_ne B O _ x h.2, List.getElem?_set_ne (fun e => h.1 e.symm)]
theorem wb_eq : ∀ (B : List (Nat × Nat)) (O objs : List AObj), (B.map (·.1)).Nodup → ∀ (i o off : Nat) (o' ob : AObj), B[i]? = some (o, off) → O[i]? = some o' → objs[o]? = some ob → (wb objs B O)[o]? = some (mergeO ob off o')
  | (x, off') :: B, y :: O, objs, hnd, 0, o, off, o', ob, hB, hO, hob => by
    simp at hB hO
    obtain ⟨rfl, rfl⟩ := hB
    subst hO
    simp only [List.map_cons, List.nodup_cons] at hnd
    have hlt := (List.getElem?_eq_some_iff.1 hob).1
    rw [wb, wb_ne B O _ x hnd.1, List.getElem?_set_self hlt]
    simp [hob]
  | (x, off') :: B, y :: O, objs, hnd, i + 1, o, off, o', ob, hB, hO, hob => by
    simp only [List.map_cons, List.nodup_cons] at hnd
    have hB' : B[i]? = some (o, off) := by simpa using hB
    have hne : o ≠ x := by
      rintro rfl
      exact hnd.1 (List.mem_map.2 ⟨(o, off), List.mem_of_getElem? hB', rfl⟩)
    rw [wb]
    refine wb_eq B O _ hnd.2 i o off o' ob hB' (by simpa using hO) ?_
    rw [List.getElem?_set_ne (fun e => hne e.symm)]; exact hob
  | [], _, _, _, _, _, _, _, _, hB, _, _ => by simp at hB
  | _ :: _, [], _, _, _, _, _, _, _, _, hO, _ => by simp at hO

theorem Outside.mono {w w' : World} {b off n off' n' : Nat} (h : Outside w w' b off n) (h1 : off' ≤ off) (h2 : off + n ≤ off' + n') : Outside w w' b off' n' := by
  intro c e hc
  obtain ⟨c0, g1, g2, g3⟩ := h c e hc
  exact ⟨c0, g1, g2, fun j hj => g3 j (by omega)⟩

def AObj.noRow : AObj → Bool
  | .cells cs _ _ _ _ => noRowL cs
  | _ => true
def AObj.ge (k : Nat) : AObj → Bool
  | .cells cs _ _ false _ => geL k cs
  | _ => true
def AObj.up (k m : Nat) : AObj → AObj
  | .cells cs ver esz false own => .cells (upL k m cs) ver esz false own
  | o => o

/-- what came back of what was handed over to be written -/
def Same (O O' : List AObj) : Prop := ∀ (i : Nat) (ds : List AV) (ver esz : Nat) (flat : Bool) (own : Option TypeId), O[i]? = some (AObj.cells ds ver esz flat own) →
  ∃ (ds' : List AV) (ver' esz' : Nat) (own' : Option TypeId), O'[i]? = some (AObj.cells ds' ver' esz' flat own') ∧ (flat = false → plainL ds' = true)

mutual
theorem RelV.bb {w : World} {H J : View} : ∀ (c : AV) {v : Value}, (c.noRow = true ∨ ∀ b, b < w.heap.size → J.wr b → H.wr b) → RelV w c H.bare v → RelV w c J.bare v
  | .any, _, _, _ => trivial
  | .int .., _, _, h => h
  | .bool .., _, _, h => h
  | .str .., _, _, h => h
  | .nilp, _, _, h => h
  | .nils, _, _, h => h
  | .nilFunc, _, _, h => h
  | .nilm, _, _, h => h
  | .row .., _, hr, h => by
    rcases hr with hr | hr
    · cases hr
    · exact plain_to (H' := J.bare) hr rfl h
  | .radr .., _, hr, h => by
    rcases hr with hr | hr
    · cases hr
    · exact plain_to (H' := J.bare) hr rfl h
  | .ptr .., _, _, ⟨h, _⟩ => absurd h (Nat.not_lt_zero _)
  | .mp .., _, _, ⟨h, _⟩ => absurd h (Nat.not_lt_zero _)
  | .sl .., _, _, ⟨h, _⟩ => absurd h (Nat.not_lt_zero _)
  | .agg cs, _, hr, ⟨vs, e, h⟩ => ⟨vs, e, RelL.bb cs (hr.imp_left (by simp [AV.noRow])) h⟩
  | .tup cs, _, hr, ⟨vs, e, h⟩ => ⟨vs, e, RelL.bb cs (hr.imp_left (by simp [AV.noRow])) h⟩
  | .func _ x y, _, hr, ⟨xs, ys, e, h, h'⟩ =>
    ⟨xs, ys, e, RelL.bb x (hr.imp_left fun q => by simp only [AV.noRow, Bool.and_eq_true] at q; exact q.1) h, RelL.bb y (hr.imp_left fun q => by simp only [AV.noRow, Bool.and_eq_true] at q; exact q.2) h'⟩
theorem RelL.bb {w : World} {H J : View} : ∀ (cs : List AV) {vs : List Value}, (noRowL cs = true ∨ ∀ b, b < w.heap.size → J.wr b → H.wr b) → RelL w cs H.bare vs → RelL w cs J.bare vs
  | [], _, _, h => h
  | c :: cs, _, hr, ⟨v, vs, e, h, h'⟩ =>
    ⟨v, vs, e, RelV.bb c (hr.imp_left fun q => by simp only [noRowL, Bool.and_eq_true] at q; exact q.1) h, RelL.bb cs (hr.imp_left fun q => by simp only [noRowL, Bool.and_eq_true] at q; exact q.2) h'⟩
end

def View.after (H H' : View) (m k n : Nat) (kl : Bool) : View :=
  { n := m + (n - k), blk := fun o => if o < m then H.blk o else H'.blk (o - m + k), off := fun o => if o < m then H.off o else H'.off (o - m + k),
    cap := fun o => if o < m then H.cap o else H'.cap (o - m + k), ver := fun o => if o < m then H.ver o else H'.ver (o - m + k), wr := fun b => if kl then H'.wr b else H.wr b ∨ H'.wr b }

theorem after_call {C : Ctx} {H H' : View} {st : St} {a : Act} {w w' : World} {avs args : List AV} {L : List Nat} {B : List (Nat × Nat)} {O O' : List AObj} {r : AV} {v : Value} {kl : Bool}
    (hi : Inv C H st a w) (hp : PassL st.objs 0 avs args L B O) (hnd : (B.map (·.1)).Nodup) (hdis : ∀ o, o ∈ L → o ∉ B.map (·.1))
    (hmine : kl = true → ∀ o, o ∈ L → ∃ (ds : List AV) (ver esz : Nat) (e : TypeId), st.objs[o]? = some (AObj.cells ds ver esz true (some e)))
    (hl : Left w (H.callee L B) O w' H' O') (hsame : Same O O') (hr : RelV w' r H' v) (hge : r.ge B.length = true) (hgeO : ∀ i ob, B.length ≤ i → O'[i]? = some ob → ob.ge B.length = true)
    (hkl : kl = true ∨ (r.noRow = true ∧ ∀ ob ∈ O', ob.noRow = true)) :
    ∃ J, Inv C J ⟨st.env, wb (if kl then killL st.objs L else st.objs) B O' ++ (O'.drop B.length).map (AObj.up B.length st.objs.length)⟩ a w' ∧ RelV w' (r.up B.length st.objs.length) J v := by
  generalize hm : st.objs.length = m
  generalize hk : B.length = k at *
  obtain ⟨hBO, href⟩ := hp.refs
  have hnm : H.n = m := hi.objs.n.trans hm
  have hOO := hl.len
  let J := H.after H' m k O'.length kl
  have hc := hi.objs.callee hp hnd hdis
  have hsz := hl.size
  -- the writable blocks
  have hwc : ∀ b, b < w.heap.size → (H'.wr b ↔ (H.wr b ∧ ∀ o, o ∈ L → b ≠ H.blk o)) := hl.wr
  have hJold : ∀ b, b < w.heap.size → J.wr b → H.wr b := by
    intro b hb hw
    simp only [J, View.after] at hw
    split at hw
    · exact ((hwc b hb).1 hw).1
    · rcases hw with hw | hw
      · exact hw
      · exact ((hwc b hb).1 hw).1
  have hJH' : kl = true → ∀ b, b < w'.heap.size → J.wr b → H'.wr b := by
    intro he b _ hw
    simpa [J, View.after, he] using hw
  have hH'J : ∀ b, H'.wr b → J.wr b := by
    intro b hw
    simp only [J, View.after]
    split
    · exact hw
    · exact .inr hw
  -- the blocks of what was handed over
  have hOlive : ∀ (i : Nat) (ob : AObj), O[i]? = some ob → ∃ (o off : Nat) (ds : List AV) (ver esz : Nat) (flat : Bool) (own : Option TypeId), B[i]? = some (o, off) ∧ st.objs[o]? = some (AObj.cells ds ver esz flat own) ∧ (H.callee L B).blk i = H.blk o := by
    intro i ob hob
    have hlt : i < B.length := by rw [hBO]; exact (List.getElem?_eq_some_iff.1 hob).1
    have hB : B[i]? = some ((B[i]).1, (B[i]).2) := by simp [hlt]
    obtain ⟨ds, ver, esz, flat, own, len, esz', h1, _⟩ := href i _ _ hB
    exact ⟨_, _, ds, ver, esz, flat, own, hB, h1, by simp [View.callee, hlt]⟩
  have hkept : ∀ b, b < w.heap.size → (∀ o ob, o ∈ B.map (·.1) → st.objs[o]? = some ob → ob.live = true → b ≠ H.blk o) → w'.heap[b]? = w.heap[b]? := by
    intro b hb hne
    refine hl.frame b hb fun i ob hob hlv => ?_
    obtain ⟨o, off, ds, ver, esz, flat, own, h1, h2, h3⟩ := hOlive i ob hob
    rw [h3]
    exact hne o _ (List.mem_map.2 ⟨(o, off), List.mem_of_getElem? h1, rfl⟩) h2 rfl
  have hK : Keeps w H w' J := by
    refine ⟨fun ad u hcell hx => ?_, hJold, ?_, fun o ho => ?_, fun o ho hv => ?_⟩
    · rw [World.cell?_of_block (w := w) (hkept _ (World.block_lt_of_cell? w ad hcell) fun o ob ho hob hlv e => hx (e ▸ hi.objs.wr_blk hob hlv))]
      exact hcell
    · show H.n ≤ m + (O'.length - k); omega
    · have : o < m := by omega
      simp [J, View.after, this]
    · have : o < m := by omega
      simp [J, View.after, this]
  have hups : Ups k m w' H' J := by
    refine ⟨fun i h1 h2 => ?_⟩
    have hn' := hl.ok.n
    have e1 : ¬ (m + (i - k) < m) := by omega
    have e2 : m + (i - k) - m + k = i := by omega
    refine ⟨?_, ?_⟩
    · show m + (i - k) < m + (O'.length - k); omega
    · simp only [J, View.after, if_neg e1, e2, and_self]
  have hrow : r.noRow = true ∨ ∀ b, b < w'.heap.size → J.wr b → H'.wr b := by
    rcases hkl with h | h
    · exact .inr (hJH' h)
    · exact .inl h.1
  refine ⟨J, ?_, hr.up hups r hge hrow⟩
  -- the objects
  let X := if kl then killL st.objs L else st.objs
  have hXlen : X.length = m := by simp only [X]; split <;> simp [killL_length, hm]
  have hX : ∀ o ob, X[o]? = some ob → ob = .dead ∨ (st.objs[o]? = some ob ∧ (kl = true → o ∉ L)) := by
    intro o ob hob
    simp only [X] at hob
    split at hob
    · rw [killL_get] at hob
      split at hob
      · injection hob with hob; exact .inl hob.symm
      · rename_i hno
        refine .inr ⟨hob, fun _ hoL => hno ⟨hoL, (List.getElem?_eq_some_iff.1 hob).1⟩⟩
    · rename_i hkf
      exact .inr ⟨hob, fun h => absurd h hkf⟩
  have hXB : ∀ o ob, o ∈ B.map (·.1) → st.objs[o]? = some ob → X[o]? = some ob := by
    intro o ob hoB hob
    simp only [X]
    split
    · rw [killL_get, if_neg]
      · exact hob
      · exact fun h => hdis o h.1 hoB
    · exact hob
  -- each object of the new store
  have hget : ∀ (o : Nat) (ob : AObj), (wb X B O' ++ (O'.drop k).map (AObj.up k m))[o]? = some ob → ob = .dead ∨
      (o < m ∧ o ∉ B.map (·.1) ∧ st.objs[o]? = some ob ∧ (kl = true → o ∉ L)) ∨
      (o < m ∧ ∃ (i off : Nat) (ds : List AV) (ver esz : Nat) (flat : Bool) (own : Option TypeId) (len esz0 : Nat) (ds' : List AV) (ver' esz' : Nat) (own' : Option TypeId), B[i]? = some (o, off) ∧ st.objs[o]? = some (AObj.cells ds ver esz flat own) ∧ off + len ≤ ds.length ∧ ds'.length = len ∧
        O[i]? = some (AObj.cells ((ds.drop off).take len) 0 esz0 flat none) ∧ O'[i]? = some (AObj.cells ds' ver' esz' flat own') ∧ (flat = false → plainL ds' = true) ∧ ob = .cells (splice ds off ds') ver esz flat own) ∨
      (m ≤ o ∧ ∃ ob', O'[o - m + k]? = some ob' ∧ ob = ob'.up k m) := by
    intro o ob hob
    rw [List.getElem?_append] at hob
    rw [wb_length, hXlen] at hob
    split at hob
    · rename_i hlt
      by_cases hoB : o ∈ B.map (·.1)
      · obtain ⟨p, hpB, hpo⟩ := List.mem_map.1 hoB
        obtain ⟨i, hiB⟩ := List.getElem?_of_mem hpB
        obtain ⟨x, off⟩ := p
        simp only at hpo
        subst hpo
        obtain ⟨ds, ver, esz, flat, own, len, esz0, q1, q2, q3, q4⟩ := href i x off hiB
        obtain ⟨ds', ver', esz', own', q5, q6⟩ := hsame i _ _ _ _ _ q3
        have hlen := hl.lens i _ _ _ _ _ q3 _ _ _ _ _ q5
        have := wb_eq B O' X hnd i x off _ _ hiB q5 (hXB x _ hoB q1)
        rw [this] at hob
        injection hob with hob
        refine .inr (.inr (.inl ⟨hlt, i, off, ds, ver, esz, flat, own, len, esz0, ds', ver', esz', own', hiB, q1, q2, ?_, q3, q5, q6, hob.symm⟩))
        rw [hlen]; simp; omega
      · rw [wb_ne B O' X o hoB] at hob
        rcases hX o ob hob with h | ⟨h1, h2⟩
        · exact .inl h
        · exact .inr (.inl ⟨hlt, hoB, h1, h2⟩)
    · rename_i hge'
      rw [List.getElem?_map] at hob
      obtain ⟨ob', h1, h2⟩ := Option.map_eq_some_iff.1 hob
      rw [List.getElem?_drop] at h1
      exact .inr (.inr (.inr ⟨by omega, ob', by rw [Nat.add_comm]; exact h1, h2.symm⟩))
  have hJo : ∀ o, o < m → J.blk o = H.blk o ∧ J.off o = H.off o ∧ J.cap o = H.cap o ∧ J.ver o = H.ver o := by
    intro o ho
    simp [J, View.after, ho]
  have hJn : ∀ o, m ≤ o → J.blk o = H'.blk (o - m + k) ∧ J.off o = H'.off (o - m + k) ∧ J.cap o = H'.cap (o - m + k) ∧ J.ver o = H'.ver (o - m + k) := by
    intro o ho
    simp [J, View.after, show ¬ o < m by omega]
  have hup : ∀ (ob : AObj), (ob.up k m).live = ob.live := by
    intro ob
    cases ob with
    | dead => rfl
    | iter => rfl
    | slot => rfl
    | cells cs ver esz flat own => cases flat <;> rfl
  -- an object that is still alive: where it lies
  have hwhere : ∀ o ob, (wb X B O' ++ (O'.drop k).map (AObj.up k m))[o]? = some ob → ob.live = true →
      (o < m ∧ J.blk o = H.blk o ∧ J.blk o < w.heap.size ∧ ∃ ob0, st.objs[o]? = some ob0 ∧ ob0.live = true ∧ (ob.mine = true → ob0.mine = true)) ∨
      (m ≤ o ∧ w.heap.size ≤ J.blk o ∧ ∃ ob', O'[o - m + k]? = some ob' ∧ ob'.live = true ∧ J.blk o = H'.blk (o - m + k)) := by
    intro o ob hob hlv
    rcases hget o ob hob with rfl | ⟨h1, _, h3, _⟩ | ⟨h1, i, off, ds, ver, esz, flat, own, len, esz0, ds', ver', esz', own', q1, q2, q3, q4, q5, q6, q7, rfl⟩ | ⟨h1, ob', h2, rfl⟩
    · cases hlv
    · refine .inl ⟨h1, (hJo o h1).1, ?_, ob, h3, hlv, id⟩
      rw [(hJo o h1).1]; exact hi.objs.lt _ (hi.objs.wr_blk h3 hlv)
    · refine .inl ⟨h1, (hJo o h1).1, ?_, _, q2, rfl, ?_⟩
      · rw [(hJo o h1).1]; exact hi.objs.lt _ (hi.objs.wr_blk q2 rfl)
      · cases own <;> simp [AObj.mine]
    · rw [hup] at hlv
      refine .inr ⟨h1, ?_, ob', h2, hlv, (hJn o h1).1⟩
      rw [(hJn o h1).1]
      exact hl.new _ ob' (by omega) h2 hlv
  have hkm : C.k ≤ m := by have := hi.klen; omega
  refine ⟨hi.size, hi.defers, fun t av ht => (hi.env t av ht).keeps av hK, ⟨?_, ?_, ?_, ?_⟩, ?_, ?_, ?_, ?_, ?_, ?_, ?_, Nat.le_trans hi.le hsz, hl.os.trans hi.os, hl.tape.trans hi.tape, hl.output.trans hi.output, fun p hp t av ht => (hi.saved p hp t av ht).keeps av hK⟩
  · show m + (O'.length - k) = (wb X B O' ++ (O'.drop k).map (AObj.up k m)).length
    simp [wb_length, hXlen]
  · -- what each says of the world
    intro o ob hob
    rcases hget o ob hob with rfl | ⟨h1, h2, h3, h4⟩ | ⟨h1, i, off, ds, ver, esz, flat, own, len, esz0, ds', ver', esz', own', q1, q2, q3, q4, q5, q6, q7, rfl⟩ | ⟨h1, ob', h2, rfl⟩
    · trivial
    · by_cases hlv : ob.live = true
      · obtain ⟨b1, b2, b3, b4⟩ := hJo o h1
        have hblt := hi.objs.lt _ (hi.objs.wr_blk h3 hlv)
        refine (hi.objs.rel o ob h3).keeps hK b1 b2 b3 b4 (fun hw => ?_) (hkept _ hblt fun o' ob' ho' hob' hlv' e => ?_)
        · cases hq : kl with
          | false => simp only [J, View.after, hq]; exact .inl hw
          | true =>
            simp only [J, View.after, hq, if_true]
            refine (hwc _ hblt).2 ⟨hw, fun o' ho' e => ?_⟩
            obtain ⟨ds', ver', esz', own', hob'⟩ := hp.lent o' ho'
            have := hi.objs.inj o o' _ _ h3 hob' hlv rfl e
            subst this
            exact h4 hq ho'
        · have := hi.objs.inj o o' _ _ h3 hob' hlv hlv' e
          subst this
          exact h2 ho'
      · cases ob <;> first | trivial | (simp [AObj.live] at hlv; done) | (have := hi.objs.rel o _ h3; simp only [RelO] at this ⊢; rw [(hJo o h1).2.2.2]; exact this)
    · obtain ⟨b1, b2, b3, b4⟩ := hJo o h1
      obtain ⟨g1, g2, vs, c, e, g3, g4, g5, g6⟩ := hi.objs.rel o _ q2
      obtain ⟨f1, f2, us, c', e', f3, f4, f5, f6⟩ := hl.ok.rel i _ q6
      have hilt : i < B.length := (List.getElem?_eq_some_iff.1 q1).1
      have hgd : B.getD i (0, 0) = (o, off) := by simp [q1]
      obtain ⟨d1, d2, d3⟩ := hl.old i _ q5 rfl
      have hb1 : H'.blk i = H.blk o := by rw [d1]; simp only [View.callee, hgd]
      have hb2 : H'.off i = H.off o + off := by rw [d2]; simp only [View.callee, hgd]
      rw [hb1] at f3
      have hout := hl.out i _ _ _ _ _ q5
      have hcb : (H.callee L B).blk i = H.blk o := by simp only [View.callee, hgd]
      have hco : (H.callee L B).off i = H.off o + off := by simp only [View.callee, hgd]
      rw [hcb, hco] at hout
      obtain ⟨c0, o1, o2, o3⟩ := hout c' e' f3
      rw [g3] at o1
      injection o1 with o1
      injection o1 with o1 o1e
      subst o1; subst o1e
      have hlen := f4.length
      have hlenv := g4.length
      have hdl : ((ds.drop off).take len).length = len := by simp; omega
      have hwo : J.wr (H.blk o) := hH'J _ (hb1 ▸ f2)
      refine ⟨b4.trans g1, by rw [b1]; exact hwo, splice vs off us, c', e, by rw [b1]; exact f3, ?_, ?_, ?_⟩
      · -- the cells
        have k1 : RelL w' ds (J.flatIf flat) vs := g4.keeps _ (hK.flatIf flat)
        have k2 : RelL w' ds' (J.flatIf flat) us := by
          have hrw : noRowL ds' = true ∨ ∀ b, b < w'.heap.size → J.wr b → H'.wr b := by
            rcases hkl with h | h
            · exact .inr (hJH' h)
            · exact .inl (h.2 _ (List.mem_of_getElem? q6))
          have hb : RelL w' ds' H'.bare us := by
            cases flat
            · exact f4.bare ds' (q7 rfl)
            · exact f4
          exact RelL.keeps ds' ⟨fun _ _ h _ => h, fun _ _ h => by cases flat <;> exact h, by cases flat <;> simp [View.flatIf], fun _ h => absurd h (Nat.not_lt_zero _), fun _ h => absurd h (Nat.not_lt_zero _)⟩ (RelL.bb ds' (J := J) hrw hb)
        exact k1.splice k2 off
      · intro j u hu
        rw [b2]
        rw [get_splice (by omega)] at hu
        split at hu
        · rename_i hj
          have := f5 (j - off) u hu
          rw [hb2] at this
          rw [show H.off o + j = H.off o + off + (j - off) by omega]; exact this
        · rename_i hj
          rw [o3 _ (by rw [hdl]; omega)]
          exact g5 j u hu
      · intro t ht
        rw [b2, b3]
        obtain ⟨p1, p2, p3, p4, N, p5, p6⟩ := g6 t ht
        refine ⟨p1, p2, by rw [o2]; exact p3, p4, N, ?_, p6⟩
        rw [← p5]
        simp only [Lens.splice, List.length_append, List.length_take, List.length_drop]
        omega
    · obtain ⟨b1, b2, b3, b4⟩ := hJn o h1
      have hr' := hl.ok.rel _ _ h2
      have hgo := hgeO _ _ (by omega) h2
      have hrw : ob'.noRow = true ∨ ∀ b, b < w'.heap.size → J.wr b → H'.wr b := by
        rcases hkl with h | h
        · exact .inr (hJH' h)
        · exact .inl (h.2 _ (List.mem_of_getElem? h2))
      cases ob' with
      | dead => trivial
      | slot => show J.ver o = 0; rw [b4]; exact hr'
      | iter s pos =>
        obtain ⟨g0, g1, g2, g3⟩ := hr'
        exact ⟨by rw [b4]; exact g0, by rw [b1]; exact hH'J _ g1, by rw [b2]; exact g2, by rw [b1]; exact g3⟩
      | cells cs ver esz flat own =>
        obtain ⟨g1, g2, vs, c, e, g3, g4, g5, g6⟩ := hr'
        cases flat with
        | false => exact ⟨by rw [b4]; exact g1, by rw [b1]; exact hH'J _ g2, vs, c, e, by rw [b1]; exact g3, g4.up hups cs hgo hrw, by rw [b2]; exact g5, by rw [b2, b3]; exact g6⟩
        | true =>
          refine ⟨by rw [b4]; exact g1, by rw [b1]; exact hH'J _ g2, vs, c, e, by rw [b1]; exact g3, ?_, by rw [b2]; exact g5, by rw [b2, b3]; exact g6⟩
          exact RelL.bb cs hrw g4
  · intro o o' ob ob' h1 h2 l1 l2 hbb
    rcases hwhere o ob h1 l1 with ⟨a1, a2, a3, ob0, a4, a5, _⟩ | ⟨a1, a2, ob0, a4, a5, a6⟩ <;> rcases hwhere o' ob' h2 l2 with ⟨c1, c2, c3, ob1, c4, c5, _⟩ | ⟨c1, c2, ob1, c4, c5, c6⟩
    · rw [a2, c2] at hbb
      exact hi.objs.inj o o' _ _ a4 c4 a5 c5 hbb
    · omega
    · omega
    · rw [a6, c6] at hbb
      have := hl.ok.inj _ _ _ _ a4 c4 a5 c5 hbb
      omega
  · intro b hb
    simp only [J, View.after] at hb
    split at hb
    · exact hl.ok.lt b hb
    · rcases hb with hb | hb
      · have := hi.objs.lt b hb; omega
      · exact hl.ok.lt b hb
  · intro b hb
    have hbw : b < w.heap.size := Nat.lt_of_lt_of_le hb hi.le
    rw [← hi.wr0 b hb]
    refine ⟨hJold b hbw, fun hw => ?_⟩
    cases hq : kl with
    | false => simp only [J, View.after, hq]; exact .inl hw
    | true =>
      simp only [J, View.after, hq, if_true]
      refine (hwc _ hbw).2 ⟨hw, fun o' ho' e => ?_⟩
      obtain ⟨ds', ver', esz', e', hob'⟩ := hmine hq o' ho'
      rcases hi.own o' _ hob' rfl with ⟨_, hm'⟩ | hge'
      · cases hm'
      · omega
  · show C.k ≤ (wb X B O' ++ (O'.drop k).map (AObj.up k m)).length
    rw [List.length_append, wb_length, hXlen]; omega
  · intro o ho
    obtain ⟨b1, b2, b3, _⟩ := hJo o (by omega)
    rw [b1, b2, b3]; exact hi.byref o ho
  · intro o cs ver esz flat own ho hob
    rcases hget o _ hob with h | ⟨h1, h2, h3, h4⟩ | ⟨h1, i, off, ds, ver0, esz1, flat0, own0, len, esz0, ds', ver', esz', own', q1, q2, q3, q4, q5, q6, q7, h⟩ | ⟨h1, _⟩
    · cases h
    · exact hi.lens o cs ver esz flat own ho h3
    · injection h with h
      rw [h, ← hi.lens o _ _ _ _ _ ho q2]
      simp only [Lens.splice, List.length_append, List.length_take, List.length_drop]
      omega
    · omega
  · intro o ho
    refine (hi.out o ho).trans ?_
    obtain ⟨p1, p2, _⟩ := hi.byref o ho
    by_cases hoB : o ∈ B.map (·.1)
    · obtain ⟨p, hpB, hpo⟩ := List.mem_map.1 hoB
      obtain ⟨i, hiB⟩ := List.getElem?_of_mem hpB
      obtain ⟨x, off⟩ := p
      simp only at hpo
      subst hpo
      obtain ⟨ds, ver, esz, flat, own, len, esz0, q1, q2, q3, q4⟩ := href i x off hiB
      have hgd : B.getD i (0, 0) = (x, off) := by simp [hiB]
      have hout := hl.out i _ _ _ _ _ q3
      have hcb : (H.callee L B).blk i = H.blk x := by simp only [View.callee, hgd]
      have hco : (H.callee L B).off i = H.off x + off := by simp only [View.callee, hgd]
      rw [hcb, hco] at hout
      rw [← p1, ← p2]
      refine hout.mono (by omega) ?_
      rw [← hi.lens x _ _ _ _ _ ho q1]
      simp; omega
    · refine Outside.of_eq (hkept _ (Nat.lt_of_lt_of_le (C.hk o ho) hi.le) fun o' ob' ho' hob' hlv' e => ?_) _ _
      rcases hi.own o' ob' hob' hlv' with ⟨h1, _⟩ | h1
      · rw [(hi.byref o' h1).1] at e
        have := C.hj o o' ho h1 e
        subst this
        exact hoB ho'
      · have := C.hk o ho; omega
  · intro o ob hob hlv
    rcases hwhere o ob hob hlv with ⟨a1, a2, a3, ob0, a4, a5, a6⟩ | ⟨a1, a2, _⟩
    · rcases hi.own o ob0 a4 a5 with ⟨h1, h2⟩ | h1
      · left
        refine ⟨h1, ?_⟩
        cases hq : ob.mine
        · rfl
        · rw [a6 hq] at h2; cases h2
      · right; rw [a2]; exact h1
    · right; exact Nat.le_trans hi.le a2
  · intro b hb hM
    have hbw : b < w.heap.size := Nat.lt_of_lt_of_le hb hi.le
    rw [hkept b hbw fun o' ob' ho' hob' hlv' e => ?_]
    · exact hi.frame b hb hM
    · rcases hi.own o' ob' hob' hlv' with ⟨h1, _⟩ | h1
      · exact hM ⟨o', h1, by rw [e]; exact (hi.byref o' h1).1⟩
      · omega

end Go.Lens
