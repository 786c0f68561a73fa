/- Lens, part 16: what comes in, and what a law's row asks. Texts put together. What the laws' inputs are: limbs, whole numbers. whole: Parse. whole: From, Add, Sub, Mul, Neg, Cmp, Sign, Abs, Print, Floor, Int. Fractions: what they are, how great they may be, and how they are rounded (plain numbers). What a level payment is, and what is left of a loan that is paid by it (plain numbers). Lens, part 21: jumps back to a label; calls that tell a predicate of their result, and calls that hand back a slice of their own. quot: moved, guess. quot: guess. -/
import Derived.Test.YtmkcoifdddldgaaGreatDoorKB6
import Derived.Carry
import Derived.WalkKit
import Derived.ProofKit
import Derived.ChangeOld
import Derived.ChangeArms
import Derived.OpenShut
import Derived.DataElems
import Derived.SizedLaws
import Derived.ScopeJumps

set_option linter.unusedVariables false
set_option linter.unusedSimpArgs false
namespace Go.Lens
open Go Go.RowKit
mutual
/-- the data that came in, as abstract values -/
def avOf {H : Type} : DataW H → List AV
  | .lit (.int k n) => [.int k n]
  | .lit (.bool b) => [.bool b]
  | .lit (.string l) => [.str l]
  | .nil => [.nils]
  | .slice ds _ => [.row (avOfL ds) ds.length]
  | .agg ds => avOfL ds
  | _ => [.any]
def avOfL {H : Type} : List (DataW H) → List AV
  | [] => []
  | d :: ds => avOf d ++ avOfL ds
end
/-- what is left behind by a call to which nothing was handed to be written -/
theorem Left.below {w : World} {H : View} {w' : World} {H' : View} (h : Left w H [] w' H' []) : Below w.heap.size w w' :=
  ⟨h.os, h.tape, h.output, h.size, fun k hk => h.frame k hk (fun o ob ho => by simp at ho)⟩
/-- the view of a call's beginning: nothing is known, nothing may be written -/
def View.none : View := ⟨0, fun _ => 0, fun _ => 0, fun _ => 0, fun _ => 0, fun _ => False⟩
theorem Objs.none (w : World) : Objs w View.none [] := ⟨rfl, fun o ob h => by simp at h, fun o o' ob ob' h => by simp at h, fun b h => h.elim⟩
/-- a law that answers true leaves the world as it was -/
theorem Does.calls {P : Program} {f : FuncId} {args : List AV} {r : AV} (h : Does P f args r) {w : World} {vs : List Value} (hr : RelL w args View.none vs) :
    Calls P f vs.toArray w fun e w' => ∃ v H', e = .returned v ∧ RelV w' r H' v ∧ Below w.heap.size w w' := by
  refine (h.2 View.none w vs (Objs.none w) hr).mono fun e w' ⟨r', os, H', v, he, ⟨h1, h2⟩, h3, h4⟩ => ?_
  subst h1; subst h2
  exact ⟨v, H', he, h3, h4.below⟩
/-- the fields lie one behind the other, and fill the whole -/
def tiles (T : Tab) (size : Nat) : Nat → List (Nat × TypeId) → Bool
  | n, [] => n == size
  | n, (off, t) :: fs => off == n && (match T.at t with | some y => tiles T size (n + y.size) fs | none => false)
/-- a type of whole numbers, truth values, strings, and of structs, arrays and slices of such -/
def goodT (T : Tab) : Nat → TypeId → Bool
  | 0, _ => false
  | f + 1, t => match T.at t with
    | some y => (match y.k with
      | .int _ => y.size == 1
      | .bool => y.size == 1
      | .string => y.size == 1
      | .slice e => y.size == 1 && goodT T f e
      | .array n e => goodT T f e && (match T.at e with | some ye => y.size == n * ye.size | none => false)
      | .struct fs => tiles T y.size 0 fs && fs.all (fun q => goodT T f q.2)
      | _ => false)
    | none => false
theorem tabTy {P : Program} {T : Tab} (ok : TabOK P T) {t : TypeId} {y : Ty} (h : T.at t = some y) : ∃ d i, P.underlying t = some d ∧ P.info? t = some i ∧ y.k = kOf d ∧ y.size = i.size ∧ y.bytes = i.bytes ∧ y.zero = i.zero.map fun z => z.cells.toList := tyOf_spec (ok t y h)
theorem cellsOf_tab {P : Program} {T : Tab} (ok : TabOK P T) {t : TypeId} {y : Ty} (h : T.at t = some y) : P.cellsOf t = y.size := by
  obtain ⟨d, i, _, hi, _, hs, _⟩ := tabTy ok h
  simp [Program.cellsOf, hi, hs]
/-- cells that are read in pieces -/
theorem pieces_rel {H : Type} {w : World} : ∀ (xs : List (DataW H × List MemPlace)) (L : Nat → List Value), (∀ i x, xs[i]? = some x → RelL w (avOf x.1) View.none (L i)) →
    RelL w (avOfL (xs.map (·.1))) View.none ((List.range xs.length).flatMap L)
  | [], L, _ => by simp [avOfL, RelL]
  | x :: xs, L, h => by
    rw [List.length_cons, List.range_succ_eq_map]
    simp only [List.map_cons, avOfL, List.flatMap_cons, List.flatMap_map]
    exact (h 0 x rfl).append (pieces_rel xs (fun i => L (i + 1)) fun i y hy => h (i + 1) y (by simpa using hy))
theorem chunks {k : Nat} : ∀ (n : Nat) (cs : List Value), cs.length = n * k → (List.range n).flatMap (fun i => (cs.drop (i * k)).take k) = cs
  | 0, cs, h => by
    have : cs = [] := List.length_eq_zero_iff.1 (by simpa using h)
    subst this; rfl
  | n + 1, cs, h => by
    rw [List.range_succ_eq_map]
    simp only [List.flatMap_cons, List.flatMap_map, Nat.zero_mul, List.drop_zero]
    have e := chunks n (cs.drop k) (by rw [List.length_drop, h, Nat.succ_mul, Nat.add_sub_cancel])
    have e2 : (fun i => (cs.drop (Nat.succ i * k)).take k) = fun i => ((cs.drop k).drop (i * k)).take k := by
      funext i; rw [List.drop_drop, Nat.succ_mul, Nat.add_comm]
    rw [e2, e, List.take_append_drop]
/-- what a reading of an argument tells -/
theorem trod_rel {H : Type} {enc : TypeId × Value → H} {P : Program} {T : Tab} (ok : TabOK P T) {w : World} : ∀ (fuel g : Nat) (t : TypeId) (cs : List Value) (d : DataW H) (ps : List MemPlace),
    DataW.trod enc P w 0 (fun _ => true) true fuel t cs = some (d, ps) → goodT T g t = true → RelL w (avOf d) View.none cs ∧ cs.length = P.cellsOf t := by
  intro fuel
  induction fuel with
  | zero => intro g t cs d ps h; simp [DataW.trod] at h
  | succ fuel ih =>
    intro g t cs d ps h hg
    cases g with
    | zero => simp [goodT] at hg
    | succ g =>
      simp only [goodT] at hg
      cases hy : T.at t with
      | none => rw [hy] at hg; cases hg
      | some y =>
        rw [hy] at hg
        obtain ⟨dd, inf, hd, _, hk, _⟩ := tabTy ok hy
        have hcell := cellsOf_tab ok hy
        simp only [hk] at hg
        cases dd <;> simp only [kOf] at hg <;> try (cases hg; done)
        case int k =>
          have hsz : y.size = 1 := by simpa using hg
          rcases cs with _ | ⟨v, _ | ⟨v2, r⟩⟩
          · simp [DataW.trod, hd] at h
          · cases v <;> simp only [DataW.trod, hd] at h <;> try (simp at h; done)
            split at h
            · rename_i hq
              injection h with h; injection h with h1 h2
              subst h1
              obtain ⟨rfl, _⟩ := hq
              exact ⟨RelL_cons rfl RelL_nil, by rw [hcell, hsz]; rfl⟩
            · cases h
          · simp [DataW.trod, hd] at h
        case bool =>
          have hsz : y.size = 1 := by simpa using hg
          rcases cs with _ | ⟨v, _ | ⟨v2, r⟩⟩
          · simp [DataW.trod, hd] at h
          · cases v <;> simp only [DataW.trod, hd] at h <;> try (simp at h; done)
            injection h with h; injection h with h1 h2
            subst h1
            exact ⟨RelL_cons rfl RelL_nil, by rw [hcell, hsz]; rfl⟩
          · simp [DataW.trod, hd] at h
        case string =>
          have hsz : y.size = 1 := by simpa using hg
          rcases cs with _ | ⟨v, _ | ⟨v2, r⟩⟩
          · simp [DataW.trod, hd] at h
          · cases v <;> simp only [DataW.trod, hd] at h <;> try (simp at h; done)
            split at h
            · injection h with h; injection h with h1 h2
              subst h1
              exact ⟨RelL_cons rfl RelL_nil, by rw [hcell, hsz]; rfl⟩
            · cases h
          · simp [DataW.trod, hd] at h
        case slice e =>
          have hsz : y.size = 1 := by simp at hg; exact hg.1
          have hge : goodT T g e = true := by simp at hg; exact hg.2
          rcases DataW.trod_slice hd h with ⟨rfl, hx⟩ | ⟨a, len, cap, elems, rest, m, hm, rfl, hx, _, hl, _, hlen, hel, _, _⟩
          · injection hx with h1 h2
            subst h1
            exact ⟨RelL_cons rfl RelL_nil, by rw [hcell, hsz]; rfl⟩
          · injection hx with h1 h2
            subst h1
            obtain rfl : fuel = m := by omega
            refine ⟨RelL_cons ?_ RelL_nil, by rw [hcell, hsz]; rfl⟩
            have hp : ∀ i x, elems[i]? = some x → RelL w (avOf x.1) View.none ((w.cells? 0 (a.add (i * P.cellsOf e)) (P.cellsOf e)).getD []) := by
              intro i x hx
              have hi : i < len := by rw [← hlen]; exact (List.getElem?_eq_some_iff.1 hx).1
              have hh := hel i hi
              rw [hx] at hh
              obtain ⟨cs, h1, h2⟩ := Option.bind_eq_some_iff.1 hh
              rw [h1]
              exact (ih g e cs x.1 x.2 h2 hge).1
            have hr := pieces_rel elems _ hp
            refine ⟨some a, cap, _, by rw [List.length_map, hlen], by rw [List.length_map, hlen]; exact hl, hr, fun _ => ⟨a, rfl, ?_, id⟩⟩
            have hat : ∀ n, n ≤ elems.length → At w a ((List.range n).flatMap fun i => (w.cells? 0 (a.add (i * P.cellsOf e)) (P.cellsOf e)).getD []) ∧ ((List.range n).flatMap fun i => (w.cells? 0 (a.add (i * P.cellsOf e)) (P.cellsOf e)).getD []).length = n * P.cellsOf e := by
              intro n
              induction n with
              | zero => intro _; exact ⟨fun j u h => by simp at h, by simp⟩
              | succ n ihn =>
                intro hn
                obtain ⟨k1, k2⟩ := ihn (by omega)
                have hh := hel n (by omega)
                rw [List.getElem?_eq_getElem (by omega)] at hh
                obtain ⟨cs, h1, h2⟩ := Option.bind_eq_some_iff.1 hh
                obtain ⟨_, hcl, hcc⟩ := World.cells?_some h1
                rw [List.range_succ, List.flatMap_append]
                simp only [List.flatMap_cons, List.flatMap_nil, List.append_nil]
                rw [h1, Option.getD_some]
                refine ⟨fun j u hj => ?_, by rw [List.length_append, k2, hcl, Nat.succ_mul]⟩
                by_cases hjl : j < n * P.cellsOf e
                · rw [List.getElem?_append_left (by rw [k2]; exact hjl)] at hj
                  exact k1 j u hj
                · rw [List.getElem?_append_right (by rw [k2]; omega), k2] at hj
                  have hlt : j - n * P.cellsOf e < P.cellsOf e := by
                    have := (List.getElem?_eq_some_iff.1 hj).1; rw [hcl] at this; exact this
                  have := hcc _ hlt
                  rw [hj, Addr.add_add] at this
                  rw [← this]
                  congr 2; omega
            exact (hat elems.length (Nat.le_refl _)).1
        case array n e =>
          obtain ⟨xs, m, hm, hx, hl, hxl, hel⟩ := DataW.trod_array hd h
          injection hx with h1 h2
          subst h1
          obtain rfl : fuel = m := by omega
          refine ⟨?_, hl⟩
          cases he : T.at e with
          | none => rw [he] at hg; simp at hg
          | some ye =>
            rw [he] at hg
            simp only [Bool.and_eq_true, beq_iff_eq] at hg
            have hce := cellsOf_tab ok he
            have hr := pieces_rel xs (fun i => (cs.drop (i * P.cellsOf e)).take (P.cellsOf e)) fun i x hx => by
              have hi : i < n := by rw [← hxl]; exact (List.getElem?_eq_some_iff.1 hx).1
              exact (ih g e _ x.1 x.2 ((hel i hi).trans hx) hg.1).1
            rw [hxl, chunks n cs (by rw [hl, hcell, hce]; exact hg.2)] at hr
            exact hr
        case struct fs =>
          obtain ⟨xs, m, hm, hx, hl, hxl, hel⟩ := DataW.trod_struct hd h
          injection hx with h1 h2
          subst h1
          obtain rfl : fuel = m := by omega
          refine ⟨?_, hl⟩
          simp only [Bool.and_eq_true] at hg
          have hgo : ∀ (l : List Field) (n : Nat) (ys : List (DataW H × List MemPlace)), tiles T y.size n (l.map fun f => (f.offset, f.type)) = true → (∀ f, f ∈ l → goodT T g f.type = true) → ys.length = l.length →
              (∀ (i : Nat) (f : Field), l[i]? = some f → DataW.trod enc P w 0 (fun _ => true) true fuel f.type ((cs.drop f.offset).take (P.cellsOf f.type)) = ys[i]?) → RelL w (avOfL (ys.map (·.1))) View.none (cs.drop n) := by
            intro l
            induction l with
            | nil =>
              intro n ys ht _ hyl _
              have : ys = [] := List.length_eq_zero_iff.1 hyl
              subst this
              have hn : n = y.size := by simpa [tiles] using ht
              rw [List.drop_of_length_le (by rw [hl, hcell, hn]; exact Nat.le_refl _)]
              exact rfl
            | cons f l ihl =>
              intro n ys ht hgd hyl hel
              cases ys with
              | nil => simp at hyl
              | cons x ys =>
                simp only [List.map_cons, tiles, Bool.and_eq_true, beq_iff_eq] at ht
                obtain ⟨hoff, ht⟩ := ht
                cases hfy : T.at f.type with
                | none => rw [hfy] at ht; cases ht
                | some yf =>
                  rw [hfy] at ht
                  have h0 := hel 0 f rfl
                  rw [hoff] at h0
                  have hx0 := (ih g f.type _ x.1 x.2 (h0.trans rfl) (hgd f (List.mem_cons_self ..))).1
                  have hr := ihl (n + yf.size) ys ht (fun f' hf' => hgd f' (List.mem_cons_of_mem _ hf')) (by simpa using hyl) fun i f' hf' => by simpa using hel (i + 1) f' (by simpa using hf')
                  rw [List.map_cons, avOfL]
                  have e : cs.drop n = (cs.drop n).take (P.cellsOf f.type) ++ cs.drop (n + yf.size) := by
                    rw [cellsOf_tab ok hfy, ← List.drop_drop, List.take_append_drop]
                  rw [e]
                  exact hx0.append hr
          have := hgo fs.toList 0 xs hg.1 (fun f hf => by
            have := List.all_eq_true.1 hg.2 (f.offset, f.type) (List.mem_map.2 ⟨f, hf, rfl⟩)
            exact this) (by simpa using hxl) (fun i f hf => hel i f (by simpa using hf))
          rw [List.drop_zero] at this
          exact this
/-- an argument, as an abstract value -/
def avArg {H : Type} : DataW H → AV
  | .agg ds => .agg (avOfL ds)
  | d => (avOf d).headD .any
theorem arg_rel {H : Type} {enc : TypeId × Value → H} {P : Program} {T : Tab} (ok : TabOK P T) {w w' : World} {r : Reach} {base g : Nat} {t : TypeId} {v : Value} {d : DataW H} {ps : List MemPlace} (hok : Value.okWide P w' r base t v)
    (h : DataW.Trod enc P w 0 (fun _ => true) true t v d ps) (hg : goodT T g t = true) : RelV w (avArg d) View.none v := by
  obtain ⟨fuel, h⟩ := h
  obtain ⟨hr, _⟩ := trod_rel ok fuel g t _ d ps h hg
  cases g with
  | zero => simp [goodT] at hg
  | succ g =>
    simp only [goodT] at hg
    cases hy : T.at t with
    | none => rw [hy] at hg; cases hg
    | some y =>
      rw [hy] at hg
      obtain ⟨dd, inf, hd, _, hk, _⟩ := tabTy ok hy
      simp only [hk] at hg
      cases dd <;> simp only [kOf] at hg <;> try (cases hg; done)
      case int k =>
        obtain ⟨n, h1, h2, _⟩ := DataW.trod_int hd h
        injection h2 with h2 h3; subst h2
        obtain ⟨u, vs, e, hu, e2⟩ := hr
        simp only [RelV] at hu; subst hu
        cases v <;> simp_all [Value.cells, Value.okWide, Cell.okWide, Cell.ok, avArg, avOf, RelV]
      case bool =>
        obtain ⟨n, h1, h2⟩ := DataW.trod_bool hd h
        injection h2 with h2 h3; subst h2
        obtain ⟨u, vs, e, hu, e2⟩ := hr
        simp only [RelV] at hu; subst hu
        cases v <;> simp_all [Value.cells, Value.okWide, Cell.okWide, Cell.ok, avArg, avOf, RelV]
      case string =>
        obtain ⟨n, h1, h2, _⟩ := DataW.trod_string hd h
        injection h2 with h2 h3; subst h2
        obtain ⟨u, vs, e, hu, e2⟩ := hr
        simp only [RelV] at hu; subst hu
        cases v <;> simp_all [Value.cells, Value.okWide, Cell.okWide, Cell.ok, avArg, avOf, RelV]
      case slice e =>
        have hv : v.cells.toList = [v] := by
          simp only [Value.okWide, hd, Cell.okWide] at hok
          cases v <;> simp_all [Cell.ok, Value.cells]
        rw [hv] at hr
        rcases DataW.trod_slice hd h with ⟨_, hx⟩ | ⟨a, len, cap, elems, rest, m, _, _, hx, _⟩
        · injection hx with h1 h2
          subst h1
          obtain ⟨u, vs, e, hu, _⟩ := hr
          injection e with e _; subst e
          exact hu
        · injection hx with h1 h2
          subst h1
          obtain ⟨u, vs, e, hu, _⟩ := hr
          injection e with e _; subst e
          exact hu
      case array n e =>
        obtain ⟨xs, m, _, hx, _⟩ := DataW.trod_array hd h
        injection hx with h1 h2
        subst h1
        simp only [Value.okWide, hd] at hok
        obtain ⟨cs, rfl, _⟩ := hok
        exact ⟨cs.toList, rfl, hr⟩
      case struct fs =>
        obtain ⟨xs, m, _, hx, _⟩ := DataW.trod_struct hd h
        injection hx with h1 h2
        subst h1
        simp only [Value.okWide, hd] at hok
        obtain ⟨cs, rfl, _⟩ := hok
        exact ⟨cs.toList, rfl, hr⟩
theorem args_rel {H : Type} {enc : TypeId × Value → H} {P : Program} {T : Tab} (ok : TabOK P T) {w w' : World} {r : Reach} {base g : Nat} : ∀ {ts : List TypeId} {vs : List Value} {ds : List (DataW H)} {ps : List MemPlace},
    (∀ (j : Nat) t v, ts[j]? = some t → vs[j]? = some v → Value.okWide P w' r base t v) → DataW.TrodAll enc P w 0 (fun _ => true) true ts vs ds ps → ts.all (goodT T g) = true → RelL w (ds.map avArg) View.none vs
  | [], [], [], _, _, _, _ => rfl
  | t :: ts, v :: vs, d :: ds, _, hok, ⟨p, q, h1, h2, _⟩, hg => by
    simp only [List.all_cons, Bool.and_eq_true] at hg
    exact RelL_cons (arg_rel ok (hok 0 t v rfl rfl) h1 hg.1) (args_rel ok (fun j t v ht hv => hok (j + 1) t v (by simpa using ht) (by simpa using hv)) h2 hg.2)
  | [], [], _ :: _, _, _, h, _ => h.elim
  | [], _ :: _, _, _, _, h, _ => h.elim
  | _ :: _, [], _, _, _, h, _ => h.elim
  | _ :: _, _ :: _, [], _, _, h, _ => h.elim
/-- what a type says of data -/
def shapes {H : Type} (p : TypeId → DataW H → Prop) : List TypeId → List (DataW H) → Prop
  | [], ds => ds = []
  | t :: ts, ds => ∃ d r, ds = d :: r ∧ p t d ∧ shapes p ts r
def shapeT {H : Type} (T : Tab) : Nat → TypeId → DataW H → Prop
  | 0, _, _ => True
  | f + 1, t, d => match T.at t with
    | some y => (match y.k with
      | .int k => ∃ n, d = .lit (.int k n) ∧ (Lit.int k n).wf = true
      | .bool => ∃ b, d = .lit (.bool b)
      | .string => ∃ l, d = .lit (.string l) ∧ l.length ≤ maxLen
      | .slice e => d = .nil ∨ ∃ ds rest, d = .slice ds rest ∧ ds.length ≤ maxLen ∧ ∀ x ∈ ds, shapeT T f e x
      | .array n e => ∃ ds, d = .agg ds ∧ ds.length = n ∧ ∀ x ∈ ds, shapeT T f e x
      | .struct fs => ∃ ds, d = .agg ds ∧ shapes (shapeT T f) (fs.map (·.2)) ds
      | _ => True)
    | none => True
theorem shapes_of {H : Type} {p : TypeId → DataW H → Prop} : ∀ {ts : List TypeId} {ds : List (DataW H)}, ts.length = ds.length → (∀ (j : Nat) t d, ts[j]? = some t → ds[j]? = some d → p t d) → shapes p ts ds
  | [], [], _, _ => rfl
  | t :: ts, d :: ds, hl, h => ⟨d, ds, rfl, h 0 t d rfl rfl, shapes_of (by simpa using hl) fun j t d ht hd => h (j + 1) t d (by simpa using ht) (by simpa using hd)⟩
  | [], _ :: _, hl, _ => by simp at hl
  | _ :: _, [], hl, _ => by simp at hl
theorem trod_shape {H : Type} {enc : TypeId × Value → H} {P : Program} {T : Tab} (ok : TabOK P T) {w : World} : ∀ (fuel g : Nat) (t : TypeId) (cs : List Value) (x : DataW H × List MemPlace),
    DataW.trod enc P w 0 (fun _ => true) true fuel t cs = some x → shapeT T g t x.1 := by
  intro fuel
  induction fuel with
  | zero => intro g t cs x h; simp [DataW.trod] at h
  | succ fuel ih =>
    intro g t cs x h
    cases g with
    | zero => trivial
    | succ g =>
      simp only [shapeT]
      cases hy : T.at t with
      | none => trivial
      | some y =>
        obtain ⟨dd, inf, hd, _, hk, _⟩ := tabTy ok hy
        simp only [hk]
        cases dd <;> simp only [kOf]
        case int k => obtain ⟨n, _, rfl, hw⟩ := DataW.trod_int hd h; exact ⟨n, rfl, hw⟩
        case bool => obtain ⟨n, _, rfl⟩ := DataW.trod_bool hd h; exact ⟨n, rfl⟩
        case string => obtain ⟨s, _, rfl, hs⟩ := DataW.trod_string hd h; exact ⟨_, rfl, hs⟩
        case slice e =>
          rcases DataW.trod_slice hd h with ⟨_, rfl⟩ | ⟨a, len, cap, elems, rest, m, hm, _, rfl, _, hl, hc, hlen, hel, _, _⟩
          · exact .inl rfl
          · obtain rfl : fuel = m := by omega
            refine .inr ⟨_, _, rfl, by rw [List.length_map, hlen]; exact Nat.le_trans hl hc, fun d hd => ?_⟩
            obtain ⟨z, hz, rfl⟩ := List.mem_map.1 hd
            obtain ⟨i, hi⟩ := List.getElem?_of_mem hz
            have hh := hel i (by rw [← hlen]; exact (List.getElem?_eq_some_iff.1 hi).1)
            rw [hi] at hh
            obtain ⟨cs', _, h2⟩ := Option.bind_eq_some_iff.1 hh
            exact ih g e cs' z h2
        case array n e =>
          obtain ⟨xs, m, hm, rfl, _, hxl, hel⟩ := DataW.trod_array hd h
          obtain rfl : fuel = m := by omega
          refine ⟨_, rfl, by rw [List.length_map, hxl], fun d hd => ?_⟩
          obtain ⟨z, hz, rfl⟩ := List.mem_map.1 hd
          obtain ⟨i, hi⟩ := List.getElem?_of_mem hz
          have hh := hel i (by rw [← hxl]; exact (List.getElem?_eq_some_iff.1 hi).1)
          rw [hi] at hh
          exact ih g e _ z hh
        case struct fs =>
          obtain ⟨xs, m, hm, rfl, _, hxl, hel⟩ := DataW.trod_struct hd h
          obtain rfl : fuel = m := by omega
          refine ⟨_, rfl, shapes_of (by simp [hxl]) fun j t d ht hd => ?_⟩
          simp only [List.map_map, List.getElem?_map, Option.map_eq_some_iff, Array.getElem?_toList] at ht hd
          obtain ⟨f, hf, rfl⟩ := ht
          obtain ⟨z, hz, rfl⟩ := hd
          exact ih g _ _ z ((hel j f hf).trans hz)
theorem args_shape {H : Type} {enc : TypeId × Value → H} {P : Program} {T : Tab} (ok : TabOK P T) {w : World} {g : Nat} : ∀ {ts : List TypeId} {vs : List Value} {ds : List (DataW H)} {ps : List MemPlace},
    DataW.TrodAll enc P w 0 (fun _ => true) true ts vs ds ps → shapes (shapeT T g) ts ds
  | [], [], [], _, _ => rfl
  | t :: ts, v :: vs, d :: ds, _, ⟨p, q, ⟨fuel, h1⟩, h2, _⟩ => ⟨d, ds, rfl, trod_shape ok fuel g t _ (d, p) h1, args_shape ok h2⟩
  | [], [], _ :: _, _, h => h.elim
  | [], _ :: _, _, _, h => h.elim
  | _ :: _, [], _, _, h => h.elim
  | _ :: _, _ :: _, [], _, h => h.elim
theorem shapes.length {H : Type} {p : TypeId → DataW H → Prop} : ∀ {ts : List TypeId} {ds : List (DataW H)}, shapes p ts ds → ds.length = ts.length
  | [], _, h => by cases h; rfl
  | _ :: _, _, ⟨_, _, rfl, _, h⟩ => by simp [shapes.length h]
/-- the arguments read behind the call as they did ahead of it -/
theorem Below.trodAll {H : Type} {enc : TypeId × Value → H} {P : Program} (hl : laidOutB P = true) {W W' : World} (hb : Below W.heap.size W W') : ∀ {ts : List TypeId} {vs : List Value} {ds : List (DataW H)} {ps : List MemPlace},
    ts.all (fun t => P.readableRec t && decide (t < P.types.size)) = true → DataW.TrodAll enc P W 0 (fun _ => true) true ts vs ds ps → DataW.TrodAll enc P W' 0 (fun b => decide (b < W.heap.size)) true ts vs ds ps
  | [], [], [], _, _, h => h
  | t :: ts, v :: vs, d :: ds, _, hg, ⟨p, q, h1, h2, e⟩ => by
    simp only [List.all_cons, Bool.and_eq_true, decide_eq_true_eq] at hg
    refine ⟨p, q, Below.trod hl hg.1.1 hg.1.2 h1 hb ?_, Below.trodAll hl hb hg.2 h2, e⟩
    obtain ⟨m, hm⟩ := h1
    exact DataW.trod_lt m _ _ _ hm
  | [], [], _ :: _, _, _, h => h.elim
  | [], _ :: _, _, _, _, h => h.elim
  | _ :: _, [], _, _, _, h => h.elim
  | _ :: _, _ :: _, [], _, _, h => h.elim
/-- the first so many -/
theorem min_nat (n k : Nat) : AV.int .i64 (if (k : Int) < (n : Int) then (k : Int) else (n : Int)) = .int .i64 ((min n k : Nat) : Int) := by
  congr 1
  split
  · rw [Nat.min_eq_right (by omega)]
  · rw [Nat.min_eq_left (by omega)]
theorem str_take3 (s : List UInt8) (k : Nat) : AV.str ((s.drop 0).take (((min s.length k : Nat) : Int).toNat - 0)) = .str (s.take k) := by
  congr 1
  rw [Int.toNat_natCast, Nat.sub_zero, List.drop_zero]
  rcases Nat.le_total s.length k with h | h
  · rw [Nat.min_eq_left h, List.take_of_length_le (Nat.le_refl _), List.take_of_length_le h]
  · rw [Nat.min_eq_right h]
end Go.Lens

set_option linter.unusedVariables false
set_option linter.unusedSimpArgs false
namespace Go.Lens
open Go
theorem v_cat {C : Ctx} {o : Oper} {st : St} {x y : Operand} {t t' : TypeId} {a b : List UInt8} (hop : o.op = .binOp .add t x y t') (hx : ev st x = some (.str a)) (hy : ev st y = some (.str b))
    (h : a.length + b.length ≤ 9223372036854775807) : VStep C o st (.str (a ++ b)) st.objs := v_bin hop hx hy (if_pos h)
/-! ### weaker arguments -/
def SubL : List AV → List AV → Prop
  | [], [] => True
  | c :: cs, d :: ds => Sub c d ∧ SubL cs ds
  | _, _ => False
theorem SubL.rel : ∀ {cs ds : List AV}, SubL cs ds → ∀ (w : World) (H : View) (vs : List Value), RelL w cs H vs → RelL w ds H vs
  | [], [], _, _, _, _, h => h
  | c :: cs, d :: ds, ⟨h1, h2⟩, w, H, vs, h => by
    obtain ⟨v, vs', e, g1, g2⟩ := h
    exact ⟨v, vs', e, h1 w H v g1, SubL.rel h2 w H vs' g2⟩
theorem Does.sub {P : Program} {f : FuncId} {args args' : List AV} {r : AV} (h : Does P f args' r) (hs : SubL args args') : Does P f args r :=
  ⟨h.1, fun H w vs ho hr => h.2 H w vs ho (hs.rel w H vs hr)⟩
theorem SubL.refl : ∀ (cs : List AV), SubL cs cs
  | [] => trivial
  | c :: cs => ⟨Sub.refl c, SubL.refl cs⟩
end Go.Lens

set_option linter.unusedVariables false
set_option linter.unusedSimpArgs false
namespace Go.Proofs.YtmkcoifdddldgaaGreatDoor
open Go Go.Lens
theorem avOfL_u64 {H : Type} : ∀ (ds : List (DataW H)), (∀ x ∈ ds, ∃ n, x = .lit (.int .u64 n) ∧ (Lit.int .u64 n).wf = true) → ∃ l : List Nat, Small LB l ∧ l.length = ds.length ∧ avOfL ds = u64AV l
  | [], _ => ⟨[], fun _ h => (by cases h), rfl, rfl⟩
  | d :: ds, h => by
    obtain ⟨n, rfl, hn⟩ := h d (by simp)
    obtain ⟨l, h1, h2, h3⟩ := avOfL_u64 ds fun x hx => h x (by simp [hx])
    have hn' : 0 ≤ n ∧ n ≤ 18446744073709551615 := by simpa [Lit.wf, IntKind.min, IntKind.max, IntKind.signed, IntKind.bits] using hn
    obtain ⟨m, rfl⟩ := Int.eq_ofNat_of_zero_le hn'.1
    refine ⟨m :: l, fun x hx => ?_, by simp [h2], ?_⟩
    · rcases List.mem_cons.1 hx with rfl | hx
      · simp only [LB]; omega
      · exact h1 x hx
    · simp only [avOfL, avOf, h3, u64AV, List.map_cons]; rfl
/-- limbs, as they come -/
theorem shape_limbs {H : Type} {g : Nat} {d : DataW H} (h : d = .nil ∨ ∃ ds rest, d = .slice ds rest ∧ ds.length ≤ maxLen ∧ ∀ x ∈ ds, shapeT tab (g + 1) 121 x) :
    ∃ l : List Nat, Small LB l ∧ l.length ≤ 9223372036854775807 ∧ Sub ((avOf d).headD .any) (.row (u64AV l) l.length) ∧ ∃ c, avOf d = [c] := by
  rcases h with rfl | ⟨ds, rest, rfl, hl, hx⟩
  · exact ⟨[], fun _ h => (by cases h), by simp, Sub.nils, _, rfl⟩
  · obtain ⟨l, h1, h2, h3⟩ := avOfL_u64 ds fun x hx' => hx x hx'
    refine ⟨l, h1, by rw [h2]; simpa [maxLen] using hl, ?_, _, rfl⟩
    simp only [avOf, List.headD_cons, h3, h2]
    exact Sub.refl _
/-- the first so many -/
theorem take_row (l : List Nat) (k : Nat) : AV.row (((u64AV l).drop (0 * 1)).take (((((min l.length k : Nat) : Int)).toNat - 0) * 1)) ((((min l.length k : Nat) : Int)).toNat - 0) = .row (u64AV (l.take k)) (l.take k).length := by
  have e : (u64AV l).take (min l.length k) = u64AV (l.take k) := by
    rw [u64AV, ← List.map_take]
    congr 1
    rcases Nat.le_total l.length k with h | h
    · rw [Nat.min_eq_left h, List.take_of_length_le (Nat.le_refl _), List.take_of_length_le h]
    · rw [Nat.min_eq_right h]
  simp only [Int.toNat_natCast, Nat.sub_zero, Nat.zero_mul, Nat.mul_one, List.drop_zero, e, List.length_take]
  rw [Nat.min_comm]
theorem small_take {B : Nat} {l : List Nat} (h : Small B l) (k : Nat) : Small B (l.take k) := fun x hx => h x (List.mem_of_mem_take hx)
/-- a number of a few limbs -/
theorem val_take_lt {l : List Nat} (h : Small LB l) (k : Nat) : val LB (l.take k) < LB ^ k := by
  refine Nat.lt_of_lt_of_le (val_lt (small_take h k)) (Nat.pow_le_pow_right (by decide) ?_)
  rw [List.length_take]; omega
end Go.Proofs.YtmkcoifdddldgaaGreatDoor

set_option linter.unusedVariables false
set_option linter.unusedSimpArgs false
namespace Go.Proofs.YtmkcoifdddldgaaGreatDoor
open Go Go.Lens
theorem wholeRow_nils : Sub (.agg [.nils, .bool false]) (wholeRow [] false) := Sub.agg1 Sub.nils
def signP (s : List UInt8) : Bool := hasP s [45]
def plainP (s : List UInt8) : List UInt8 := if hasP s [45] then s.drop 1 else s
/-! ### whole numbers -/
def wAV (z : Int) : AV := wholeRow (digs LB z.natAbs) (decide (z < 0))
@[simp] theorem wAV_plain (z : Int) : (wAV z).plain = true := wholeRow_plain _ _
theorem wOf (n : Nat) (b : Bool) (z : Int) (h : z = if b then -(n : Int) else n) : Does Tryz.prog 60 [natAV n, .bool b] (wAV z) := by
  have h1 := wholeOf_spec (digs LB n) b
  have e1 : z.natAbs = n := by rw [h]; split <;> omega
  have e2 : decide (z < 0) = (b && !(digs LB n == [])) := by
    have e3 : (digs LB n == []) = decide (n = 0) := by rw [Bool.eq_iff_iff, beq_iff_eq, decide_eq_true_eq, digs_eq_nil (by decide)]
    rw [e3, h, Bool.eq_iff_iff]
    cases b <;> simp <;> omega
  rw [wAV, e1, e2]; exact h1
end Go.Proofs.YtmkcoifdddldgaaGreatDoor

set_option linter.unusedVariables false
set_option linter.unusedSimpArgs false
namespace Go.Proofs.YtmkcoifdddldgaaGreatDoor
open Go Go.Lens
def sgnZ (z : Int) : Int := if z = 0 then 0 else if z < 0 then -1 else 1
theorem wSign (z : Int) : Does Tryz.prog 24 [wAV z] (.int .i64 (sgnZ z)) := by
  have h1 := sign_spec (digs LB z.natAbs) (decide (z < 0))
  have e : (if digs LB z.natAbs = [] then 0 else if decide (z < 0) = true then -1 else 1) = sgnZ z := by
    rw [sgnZ]
    by_cases h : z = 0
    · rw [if_pos ((digs_eq_nil (by decide) _).2 (by omega)), if_pos h]
    · rw [if_neg (fun h2 => h (by have := (digs_eq_nil (by decide) _).1 h2; omega)), if_neg h]
      simp only [decide_eq_true_eq]
  rw [e] at h1
  exact h1
theorem wAbs (z : Int) : Does Tryz.prog 115 [wAV z] (natAV z.natAbs) := by
  refine does tab_ok Tryz.func115 rfl rfl rfl rfl rfl fun w0 H0 hk hj => ?_
  refine W.seq (W.region ?_)
  first | refine z_B 0 [_] ?_ | refine sn (a_box rfl rfl (.inr ⟨trivial, rfl⟩)) (rfl : _ = AV.ptr 0 0 0) (rfl : _ = [_]) rfl rfl rfl ?_
  refine z_a 1 [_, _] ?_
  refine WL.nil ?_
  refine W.seq (W.region ?_)
  first | refine z_f ?_ | refine z_g ?_
  first | refine z_l1 ?_ | refine z_r1 ?_
  refine z_s [_, _] ?_
  refine WL.nil ?_
  exact W.ret (fin (cs := [natAV z.natAbs]) rfl (.shut (.plain (natAV_plain _)) .nil) rfl)
theorem wNeg (z : Int) : Does Tryz.prog 25 [wAV z] (wAV (-z)) := by
  have h1 := wOf z.natAbs (!decide (z < 0)) (-z) (by
    by_cases h : z < 0
    · rw [decide_eq_true h, Bool.not_true, if_neg (by decide)]; omega
    · rw [decide_eq_false h, Bool.not_false, if_pos rfl]; omega)
  refine does tab_ok Tryz.func25 rfl rfl rfl rfl rfl fun w0 H0 hk hj => ?_
  refine W.seq (W.region ?_)
  first | refine z_B 0 [_] ?_ | refine sn (a_box rfl rfl (.inr ⟨trivial, rfl⟩)) (rfl : _ = AV.ptr 0 0 0) (rfl : _ = [_]) rfl rfl rfl ?_
  refine z_a 1 [_, _] ?_
  refine WL.nil ?_
  refine W.seq (W.region ?_)
  first | refine z_f ?_ | refine z_g ?_
  first | refine z_l1 ?_ | refine z_r1 ?_
  first | refine z_f ?_ | refine z_g ?_
  first | refine z_l ?_ | refine z_r ?_
  refine z_p ?_
  refine z_c (h1) ?_
  refine z_s [_, _] ?_
  refine WL.nil ?_
  exact W.ret (fin (cs := [wAV (-z)]) rfl (.shut (.plain (wAV_plain _)) .nil) rfl)
theorem wAdd (x y : Int) (hx : Lim x.natAbs) (hy : Lim y.natAbs) : Does Tryz.prog 84 [wAV x, wAV y] (wAV (x + y)) := by
  refine does tab_ok Tryz.func84 rfl rfl rfl rfl rfl fun w0 H0 hk hj => ?_
  by_cases hs : decide (x < 0) = decide (y < 0)
  · have h1 := natAdd x.natAbs y.natAbs hx hy
    have h2 := wOf (x.natAbs + y.natAbs) (decide (x < 0)) (x + y) (by
      by_cases h : x < 0
      · rw [decide_eq_true h] at hs ⊢
        have := of_decide_eq_true hs.symm
        rw [if_pos rfl]; omega
      · rw [decide_eq_false h] at hs ⊢
        have := of_decide_eq_false hs.symm
        rw [if_neg (by decide)]; omega)
    refine W.seq (W.region ?_)
    first | refine z_B 0 [_] ?_ | refine sn (a_box rfl rfl (.inr ⟨trivial, rfl⟩)) (rfl : _ = AV.ptr 0 0 0) (rfl : _ = [_]) rfl rfl rfl ?_
    first | refine z_B 1 [_, _] ?_ | refine sn (a_box rfl rfl (.inr ⟨trivial, rfl⟩)) (rfl : _ = AV.ptr 1 0 0) (rfl : _ = [_, _]) rfl rfl rfl ?_
    refine z_a 2 [_, _, _] ?_
    refine WL.nil ?_
    refine W.seq (W.seq (W.region ?_))
    first | refine z_f ?_ | refine z_g ?_
    first | refine z_l ?_ | refine z_r ?_
    first | refine z_f ?_ | refine z_g ?_
    first | refine z_l ?_ | refine z_r ?_
    refine sq (v_eq_bool rfl rfl rfl rfl rfl) (show _ = AV.bool true from congrArg AV.bool (beq_iff_eq.2 hs)) rfl rfl rfl ?_
    refine WL.nil ?_
    refine W.cond_true rfl ?_
    refine W.seq (W.drawnR mixed [14, 15, 16, 17, 18, 19, 20] (by kernel_rfl) ?_)
    apply DrawFrom.stepR
    · intro more
      first | refine z_f ?_ | refine z_g ?_
      exact z_e
    apply DrawFrom.stepR
    · intro more
      first | refine z_l1 ?_ | refine z_r1 ?_
      exact z_e
    apply DrawFrom.stepR
    · intro more
      first | refine z_f ?_ | refine z_g ?_
      exact z_e
    apply DrawFrom.stepR
    · intro more
      first | refine z_l1 ?_ | refine z_r1 ?_
      exact z_e
    apply DrawFrom.stepR
    · intro more
      refine z_c (h1) ?_
      exact z_e
    apply DrawFrom.stepR
    · intro more
      first | refine z_f ?_ | refine z_g ?_
      exact z_e
    apply DrawFrom.stepR
    · intro more
      first | refine z_l ?_ | refine z_r ?_
      exact z_e
    refine DrawFrom.doneR (rfl : _ = (_, _) :: (_, _) :: (_, _) :: (_, _) :: (_, _) :: (_, _) :: (_, _) :: _) ?_
    refine z_c (h2) ?_
    refine z_s [_, _, _] ?_
    refine WL.nil ?_
    exact W.ret (fin (cs := [wAV (x + y)]) rfl (.shut (.plain (wAV_plain _)) .nil) rfl)
  · have hs2 : (x < 0 ∧ ¬ y < 0) ∨ (¬ x < 0 ∧ y < 0) := by
      by_cases h : x < 0
      · by_cases h' : y < 0
        · exact absurd (by rw [decide_eq_true h, decide_eq_true h']) hs
        · exact .inl ⟨h, h'⟩
      · by_cases h' : y < 0
        · exact .inr ⟨h, h'⟩
        · exact absurd (by rw [decide_eq_false h, decide_eq_false h']) hs
    by_cases hle : y.natAbs ≤ x.natAbs
    · have h1 := sub_ok x.natAbs y.natAbs hx hle
      have h2 := wOf (x.natAbs - y.natAbs) (decide (x < 0)) (x + y) (by
        rcases hs2 with ⟨a, b⟩ | ⟨a, b⟩
        · rw [decide_eq_true a, if_pos rfl]; omega
        · rw [decide_eq_false a, if_neg (by decide)]; omega)
      refine W.seq (W.region ?_)
      first | refine z_B 0 [_] ?_ | refine sn (a_box rfl rfl (.inr ⟨trivial, rfl⟩)) (rfl : _ = AV.ptr 0 0 0) (rfl : _ = [_]) rfl rfl rfl ?_
      first | refine z_B 1 [_, _] ?_ | refine sn (a_box rfl rfl (.inr ⟨trivial, rfl⟩)) (rfl : _ = AV.ptr 1 0 0) (rfl : _ = [_, _]) rfl rfl rfl ?_
      refine z_a 2 [_, _, _] ?_
      refine WL.nil ?_
      refine W.seq (W.seq (W.region ?_))
      first | refine z_f ?_ | refine z_g ?_
      first | refine z_l ?_ | refine z_r ?_
      first | refine z_f ?_ | refine z_g ?_
      first | refine z_l ?_ | refine z_r ?_
      refine sq (v_eq_bool rfl rfl rfl rfl rfl) (show _ = AV.bool false from congrArg AV.bool (beq_eq_false_iff_ne.2 hs)) rfl rfl rfl ?_
      refine WL.nil ?_
      refine W.cond_false rfl (W.skip ?_)
      refine W.seq (W.seq (W.region ?_))
      first | refine z_f ?_ | refine z_g ?_
      first | refine z_l1 ?_ | refine z_r1 ?_
      first | refine z_f ?_ | refine z_g ?_
      first | refine z_l1 ?_ | refine z_r1 ?_
      refine z_c (h1) ?_
      refine z_p ?_
      refine z_p ?_
      refine z_p ?_
      refine z_a 3 [_, _, _, _] ?_
      refine z_s [_, _, _, _] ?_
      refine z_p ?_
      refine WL.nil ?_
      refine W.seq (W.region ?_)
      refine z_p ?_
      refine WL.nil ?_
      refine W.cond_true rfl ?_
      refine W.seq (W.region ?_)
      first | refine z_l1 ?_ | refine z_r1 ?_
      first | refine z_f ?_ | refine z_g ?_
      first | refine z_l ?_ | refine z_r ?_
      refine z_c (h2) ?_
      refine z_s [_, _, _, _] ?_
      refine WL.nil ?_
      exact W.ret (fin (cs := [wAV (x + y)]) rfl (.shut (.plain (wAV_plain _)) .nil) rfl)
    · have h0 := sub_no x.natAbs y.natAbs hx hy (by omega)
      have h1 := sub_ok y.natAbs x.natAbs hy (by omega)
      have h2 := wOf (y.natAbs - x.natAbs) (decide (y < 0)) (x + y) (by
        rcases hs2 with ⟨a, b⟩ | ⟨a, b⟩
        · rw [decide_eq_false b, if_neg (by decide)]; omega
        · rw [decide_eq_true b, if_pos rfl]; omega)
      refine W.seq (W.region ?_)
      first | refine z_B 0 [_] ?_ | refine sn (a_box rfl rfl (.inr ⟨trivial, rfl⟩)) (rfl : _ = AV.ptr 0 0 0) (rfl : _ = [_]) rfl rfl rfl ?_
      first | refine z_B 1 [_, _] ?_ | refine sn (a_box rfl rfl (.inr ⟨trivial, rfl⟩)) (rfl : _ = AV.ptr 1 0 0) (rfl : _ = [_, _]) rfl rfl rfl ?_
      refine z_a 2 [_, _, _] ?_
      refine WL.nil ?_
      refine W.seq (W.seq (W.region ?_))
      first | refine z_f ?_ | refine z_g ?_
      first | refine z_l ?_ | refine z_r ?_
      first | refine z_f ?_ | refine z_g ?_
      first | refine z_l ?_ | refine z_r ?_
      refine sq (v_eq_bool rfl rfl rfl rfl rfl) (show _ = AV.bool false from congrArg AV.bool (beq_eq_false_iff_ne.2 hs)) rfl rfl rfl ?_
      refine WL.nil ?_
      refine W.cond_false rfl (W.skip ?_)
      refine W.seq (W.seq (W.region ?_))
      first | refine z_f ?_ | refine z_g ?_
      first | refine z_l1 ?_ | refine z_r1 ?_
      first | refine z_f ?_ | refine z_g ?_
      first | refine z_l1 ?_ | refine z_r1 ?_
      refine z_c (h0) ?_
      refine z_p ?_
      refine z_p ?_
      refine z_p ?_
      refine z_a 3 [_, _, _, _] ?_
      refine z_s [_, _, _, _] ?_
      refine z_p ?_
      refine WL.nil ?_
      refine W.seq (W.region ?_)
      refine z_p ?_
      refine WL.nil ?_
      refine W.cond_false rfl (W.skip ?_)
      refine W.seq (W.region ?_)
      first | refine z_f ?_ | refine z_g ?_
      first | refine z_l1 ?_ | refine z_r1 ?_
      first | refine z_f ?_ | refine z_g ?_
      first | refine z_l1 ?_ | refine z_r1 ?_
      refine z_c (h1) ?_
      refine z_p ?_
      refine z_p ?_
      refine z_p ?_
      refine z_a 4 [_, _, _, _, _] ?_
      refine z_s [_, _, _, _, _] ?_
      refine z_p ?_
      refine WL.nil ?_
      refine W.seq (W.region ?_)
      first | refine z_l1 ?_ | refine z_r1 ?_
      first | refine z_f ?_ | refine z_g ?_
      first | refine z_l ?_ | refine z_r ?_
      refine z_c (h2) ?_
      refine z_s [_, _, _, _, _] ?_
      refine WL.nil ?_
      exact W.ret (fin (cs := [wAV (x + y)]) rfl (.shut (.plain (wAV_plain _)) .nil) rfl)
theorem wSub (x y : Int) (hx : Lim x.natAbs) (hy : Lim y.natAbs) : Does Tryz.prog 81 [wAV x, wAV y] (wAV (x - y)) := by
  have h1 := wNeg y
  have h2 := wAdd x (-y) hx (by rw [Int.natAbs_neg]; exact hy)
  rw [show x + -y = x - y by omega] at h2
  refine does tab_ok Tryz.func81 rfl rfl rfl rfl rfl fun w0 H0 hk hj => ?_
  refine W.seq (W.region ?_)
  first | refine z_B 0 [_] ?_ | refine sn (a_box rfl rfl (.inr ⟨trivial, rfl⟩)) (rfl : _ = AV.ptr 0 0 0) (rfl : _ = [_]) rfl rfl rfl ?_
  first | refine z_B 1 [_, _] ?_ | refine sn (a_box rfl rfl (.inr ⟨trivial, rfl⟩)) (rfl : _ = AV.ptr 1 0 0) (rfl : _ = [_, _]) rfl rfl rfl ?_
  refine z_a 2 [_, _, _] ?_
  refine WL.nil ?_
  refine W.seq (W.drawnR mixed [5, 6, 7] (by kernel_rfl) ?_)
  apply DrawFrom.stepR
  · intro more
    first | refine z_l2 ?_ | refine z_r2 ?_
    exact z_e
  apply DrawFrom.stepR
  · intro more
    first | refine z_l2 ?_ | refine z_r2 ?_
    exact z_e
  apply DrawFrom.stepR
  · intro more
    refine z_c (h1) ?_
    exact z_e
  refine DrawFrom.doneR (rfl : _ = (_, _) :: (_, _) :: (_, _) :: _) ?_
  refine z_c (h2) ?_
  refine z_s [_, _, _] ?_
  refine WL.nil ?_
  exact W.ret (fin (cs := [wAV (x - y)]) rfl (.shut (.plain (wAV_plain _)) .nil) rfl)
theorem wMul (x y : Int) (hx : Lim x.natAbs) (hy : Lim y.natAbs) : Does Tryz.prog 27 [wAV x, wAV y] (wAV (x * y)) := by
  have h1 := natMul x.natAbs y.natAbs hx hy
  have h2 := wOf (x.natAbs * y.natAbs) (decide (x < 0) != decide (y < 0)) (x * y) (by
    rw [← Int.natAbs_mul]
    by_cases a : x < 0
    · by_cases b : y < 0
      · rw [decide_eq_true a, decide_eq_true b, if_neg (by decide)]
        have := Int.mul_pos_of_neg_of_neg a b
        omega
      · rw [decide_eq_true a, decide_eq_false b, if_pos (by decide)]
        have : x * y ≤ 0 := Int.mul_nonpos_of_nonpos_of_nonneg (by omega) (by omega)
        omega
    · by_cases b : y < 0
      · rw [decide_eq_false a, decide_eq_true b, if_pos (by decide)]
        have : x * y ≤ 0 := Int.mul_nonpos_of_nonneg_of_nonpos (by omega) (by omega)
        omega
      · rw [decide_eq_false a, decide_eq_false b, if_neg (by decide)]
        have : 0 ≤ x * y := Int.mul_nonneg (by omega) (by omega)
        omega)
  refine does tab_ok Tryz.func27 rfl rfl rfl rfl rfl fun w0 H0 hk hj => ?_
  refine W.seq (W.region ?_)
  first | refine z_B 0 [_] ?_ | refine sn (a_box rfl rfl (.inr ⟨trivial, rfl⟩)) (rfl : _ = AV.ptr 0 0 0) (rfl : _ = [_]) rfl rfl rfl ?_
  first | refine z_B 1 [_, _] ?_ | refine sn (a_box rfl rfl (.inr ⟨trivial, rfl⟩)) (rfl : _ = AV.ptr 1 0 0) (rfl : _ = [_, _]) rfl rfl rfl ?_
  refine z_a 2 [_, _, _] ?_
  refine WL.nil ?_
  refine W.seq (W.drawnR mixed [5, 6, 7, 8, 9, 10, 11, 12, 13, 14] (by kernel_rfl) ?_)
  apply DrawFrom.stepR
  · intro more
    first | refine z_f ?_ | refine z_g ?_
    exact z_e
  apply DrawFrom.stepR
  · intro more
    first | refine z_l1 ?_ | refine z_r1 ?_
    exact z_e
  apply DrawFrom.stepR
  · intro more
    first | refine z_f ?_ | refine z_g ?_
    exact z_e
  apply DrawFrom.stepR
  · intro more
    first | refine z_l1 ?_ | refine z_r1 ?_
    exact z_e
  apply DrawFrom.stepR
  · intro more
    refine z_c (h1) ?_
    exact z_e
  apply DrawFrom.stepR
  · intro more
    first | refine z_f ?_ | refine z_g ?_
    exact z_e
  apply DrawFrom.stepR
  · intro more
    first | refine z_l ?_ | refine z_r ?_
    exact z_e
  apply DrawFrom.stepR
  · intro more
    first | refine z_f ?_ | refine z_g ?_
    exact z_e
  apply DrawFrom.stepR
  · intro more
    first | refine z_l ?_ | refine z_r ?_
    exact z_e
  apply DrawFrom.stepR
  · intro more
    refine sp (v_ne_bool rfl rfl rfl rfl rfl) rfl rfl rfl ?_
    exact z_e
  refine DrawFrom.doneR (rfl : _ = (_, _) :: (_, _) :: (_, _) :: (_, _) :: (_, _) :: (_, _) :: (_, _) :: (_, _) :: (_, _) :: (_, _) :: _) ?_
  refine z_c (h2) ?_
  refine z_s [_, _, _] ?_
  refine WL.nil ?_
  exact W.ret (fin (cs := [wAV (x * y)]) rfl (.shut (.plain (wAV_plain _)) .nil) rfl)
theorem wCmp (x y : Int) (hx : Lim x.natAbs) (hy : Lim y.natAbs) : Does Tryz.prog 28 [wAV x, wAV y] (.int .i64 (sgnZ (x - y))) := by
  refine does tab_ok Tryz.func28 rfl rfl rfl rfl rfl fun w0 H0 hk hj => ?_
  refine W.seq (W.region ?_)
  first | refine z_B 0 [_] ?_ | refine sn (a_box rfl rfl (.inr ⟨trivial, rfl⟩)) (rfl : _ = AV.ptr 0 0 0) (rfl : _ = [_]) rfl rfl rfl ?_
  first | refine z_B 1 [_, _] ?_ | refine sn (a_box rfl rfl (.inr ⟨trivial, rfl⟩)) (rfl : _ = AV.ptr 1 0 0) (rfl : _ = [_, _]) rfl rfl rfl ?_
  refine z_p ?_
  refine WL.nil ?_
  refine W.seq (W.region ?_)
  first | refine z_l2 ?_ | refine z_r2 ?_
  first | refine z_l2 ?_ | refine z_r2 ?_
  refine z_c (wSub x y hx hy) ?_
  refine z_c (wSign (x - y)) ?_
  refine z_p ?_
  refine WL.nil ?_
  refine W.ret (fin rfl (.shut (.plain (by first | rfl | simp [plainL, AV.plain])) .nil) ?_)
  rfl
theorem wFrom (n : Int) (h0 : -9223372036854775808 ≤ n) (h1 : n ≤ 9223372036854775807) : Does Tryz.prog 26 [.int .i64 n] (wAV n) := by
  have hof := natOf1 n.natAbs (by simp only [LB]; omega)
  have hw := wOf n.natAbs (decide (n < 0)) n (by
    by_cases h : n < 0
    · rw [decide_eq_true h, if_pos rfl]; omega
    · rw [decide_eq_false h, if_neg (by decide)]; omega)
  refine does tab_ok Tryz.func26 rfl rfl rfl rfl rfl fun w0 H0 hk hj => ?_
  refine W.seq (W.region ?_)
  refine z_a 0 [_] ?_
  refine WL.nil ?_
  by_cases hn : n < 0
  · rw [decide_eq_true hn] at hw
    refine W.seq (W.seq (W.region ?_))
    refine z_p ?_
    refine z_T hn ?_
    refine WL.nil ?_
    refine W.cond_true rfl ?_
    refine W.seq (W.region ?_)
    refine z_p ?_
    refine sq (v_conv_int rfl rfl rfl rfl rfl) (show _ = AV.int .u64 (n + 18446744073709551616) from congrArg (AV.int .u64) (by rw [IntKind.wrap_u64]; omega)) rfl rfl rfl ?_
    refine sq (v_pure rfl) (show _ = AV.int .u64 (n.natAbs : Nat) from congrArg (AV.int .u64) (by rw [IntKind.wrap_u64]; omega)) rfl rfl rfl ?_
    refine sq (v_buildRow rfl rfl rfl rfl rfl rfl rfl (Nat.le_of_ble_eq_true rfl) (Nat.le_of_ble_eq_true rfl) rfl rfl rfl rfl) (rfl : _ = AV.row [_] 1) rfl rfl rfl ?_
    refine z_c (hof) ?_
    refine z_c (hw) ?_
    refine z_s [_] ?_
    refine WL.nil ?_
    exact W.ret (fin (cs := [wAV n]) rfl (.shut (.plain (wAV_plain _)) .nil) rfl)
  · rw [decide_eq_false hn] at hw
    refine W.seq (W.seq (W.region ?_))
    refine z_p ?_
    refine z_F hn ?_
    refine WL.nil ?_
    refine W.cond_false rfl (W.skip ?_)
    refine W.seq (W.region ?_)
    refine z_p ?_
    refine sq (v_conv_int rfl rfl rfl rfl rfl) (show _ = AV.int .u64 (n.natAbs : Nat) from congrArg (AV.int .u64) (by rw [IntKind.wrap_u64]; omega)) rfl rfl rfl ?_
    refine sq (v_buildRow rfl rfl rfl rfl rfl rfl rfl (Nat.le_of_ble_eq_true rfl) (Nat.le_of_ble_eq_true rfl) rfl rfl rfl rfl) (rfl : _ = AV.row [_] 1) rfl rfl rfl ?_
    refine z_c (hof) ?_
    refine z_c (hw) ?_
    refine z_s [_] ?_
    refine WL.nil ?_
    exact W.ret (fin (cs := [wAV n]) rfl (.shut (.plain (wAV_plain _)) .nil) rfl)
def wText (z : Int) : List UInt8 := if z < 0 then 45 :: decText z.natAbs else decText z.natAbs
theorem wPrint (z : Int) (hz : Lim z.natAbs) : Does Tryz.prog 15 [wAV z] (.str (wText z)) := by
  have hp := print_spec z.natAbs hz
  have hl := decText_len_le z.natAbs hz
  refine does tab_ok Tryz.func15 rfl rfl rfl rfl rfl fun w0 H0 hk hj => ?_
  refine W.seq (W.region ?_)
  first | refine z_B 0 [_] ?_ | refine sn (a_box rfl rfl (.inr ⟨trivial, rfl⟩)) (rfl : _ = AV.ptr 0 0 0) (rfl : _ = [_]) rfl rfl rfl ?_
  refine z_p ?_
  refine WL.nil ?_
  refine W.seq (W.seq (W.region ?_))
  first | refine z_f ?_ | refine z_g ?_
  first | refine z_l ?_ | refine z_r ?_
  refine WL.nil ?_
  by_cases hn : z < 0
  · refine W.cond (b := true) (by show some (AV.bool (decide (z < 0))) = _; rw [decide_eq_true hn]) (fun _ => ?_) (fun h => by cases h)
    refine W.seq (W.region ?_)
    first | refine z_f ?_ | refine z_g ?_
    first | refine z_l1 ?_ | refine z_r1 ?_
    refine z_c (hp) ?_
    refine sp (v_bin rfl rfl rfl (if_pos (by simp; omega))) rfl rfl rfl ?_
    refine z_p ?_
    refine WL.nil ?_
    exact W.ret (fin rfl (.shut (.plain rfl) .nil) (by rw [wText, if_pos hn]; rfl))
  · refine W.cond (b := false) (by show some (AV.bool (decide (z < 0))) = _; rw [decide_eq_false hn]) (fun h => by cases h) (fun _ => W.skip ?_)
    refine W.seq (W.region ?_)
    first | refine z_f ?_ | refine z_g ?_
    first | refine z_l1 ?_ | refine z_r1 ?_
    refine z_c (hp) ?_
    refine z_p ?_
    refine WL.nil ?_
    exact W.ret (fin rfl (.shut (.plain rfl) .nil) (by rw [wText, if_neg hn]; rfl))
end Go.Proofs.YtmkcoifdddldgaaGreatDoor

set_option linter.unusedVariables false
set_option linter.unusedSimpArgs false
namespace Go.Proofs.YtmkcoifdddldgaaGreatDoor
open Go Go.Lens
/-! ### fractions in lowest terms -/
theorem mkRat_norm (n : Int) (d : Nat) (h : d ≠ 0) : mkRat n d = Rat.normalize n d h := (Rat.normalize_eq_mkRat h).symm
theorem fr_num (n : Int) (d : Nat) (h : d ≠ 0) : (mkRat n d).num = n / ((n.natAbs.gcd d : Nat) : Int) := by
  rw [mkRat_norm n d h, Rat.normalize_eq]
theorem fr_den (n : Int) (d : Nat) (h : d ≠ 0) : (mkRat n d).den = d / n.natAbs.gcd d := by
  rw [mkRat_norm n d h, Rat.normalize_eq]
theorem fr_abs (n : Int) (d : Nat) (h : d ≠ 0) : (mkRat n d).num.natAbs = n.natAbs / n.natAbs.gcd d := by
  rw [fr_num n d h]
  exact Int.natAbs_ediv_of_dvd (Int.ofNat_dvd_left.2 (Nat.gcd_dvd_left _ _))
theorem fr_pos (n : Int) (d : Nat) (h : d ≠ 0) : ∃ g : Int, 0 < g ∧ n = g * (mkRat n d).num := by
  have hg : 0 < n.natAbs.gcd d := Nat.gcd_pos_of_pos_right _ (by omega)
  have h1 := fr_num n d h
  obtain ⟨k, hk⟩ : ((n.natAbs.gcd d : Nat) : Int) ∣ n := Int.ofNat_dvd_left.2 (Nat.gcd_dvd_left _ _)
  refine ⟨((n.natAbs.gcd d : Nat) : Int), by omega, ?_⟩
  rw [h1]
  generalize hgg : ((n.natAbs.gcd d : Nat) : Int) = g at *
  rw [hk, Int.mul_ediv_cancel_left _ (by omega)]
theorem fr_neg (n : Int) (d : Nat) (h : d ≠ 0) : decide ((mkRat n d).num < 0) = decide (n < 0) := by
  obtain ⟨g, h0, h1⟩ := fr_pos n d h
  rw [decide_eq_decide]
  generalize (mkRat n d).num = k at *
  subst h1
  constructor
  · intro h; exact Int.mul_neg_of_pos_of_neg h0 h
  · intro h; rw [Int.mul_comm] at h; exact Int.neg_of_mul_neg_left h h0
theorem fr_sgn (n : Int) (d : Nat) (h : d ≠ 0) : sgnZ (mkRat n d).num = sgnZ n := by
  have h2 := fr_neg n d h
  rw [decide_eq_decide] at h2
  obtain ⟨g, h0, h1⟩ := fr_pos n d h
  have h3 : (mkRat n d).num = 0 ↔ n = 0 := by
    rw [Rat.num_eq_zero, Rat.mkRat_eq_zero h]
  simp only [sgnZ, h2, h3]
theorem fr_add (x y : Rat) : mkRat (x.num * y.den + y.num * x.den) (x.den * y.den) = x + y := by
  rw [Rat.add_def, mkRat_norm _ _ (Nat.mul_ne_zero x.den_nz y.den_nz)]
theorem fr_sub (x y : Rat) : mkRat (x.num * y.den - y.num * x.den) (x.den * y.den) = x - y := by
  rw [Rat.sub_def, mkRat_norm _ _ (Nat.mul_ne_zero x.den_nz y.den_nz)]
theorem fr_mul (x y : Rat) : mkRat (x.num * y.num) (x.den * y.den) = x * y := by
  rw [Rat.mul_def, mkRat_norm _ _ (Nat.mul_ne_zero x.den_nz y.den_nz)]
theorem fr_div (x y : Rat) (hy : y.num ≠ 0) : mkRat (if (x.den : Int) * y.num < 0 then -(x.num * y.den) else x.num * y.den) ((x.den : Int) * y.num).natAbs = x / y := by
  have hx := x.den_nz
  have hy' := y.den_nz
  rw [Rat.div_def, Rat.inv_def]
  have e2 : x * Rat.divInt (y.den) y.num = Rat.divInt x.num x.den * Rat.divInt y.den y.num := by
    congr 1
    rw [Rat.divInt_ofNat, Rat.mkRat_self]
  rw [e2, Rat.divInt_mul_divInt]
  rcases Int.lt_or_lt_of_ne hy with h | h
  · have h3 : (x.den : Int) * y.num < 0 := Int.mul_neg_of_pos_of_neg (by omega) h
    rw [if_pos h3, ← Rat.divInt_ofNat, show (((x.den : Int) * y.num).natAbs : Int) = -((x.den : Int) * y.num) by omega, Rat.neg_divInt_neg]
  · have h3 : 0 < (x.den : Int) * y.num := Int.mul_pos (by omega) h
    rw [if_neg (by omega), ← Rat.divInt_ofNat, show (((x.den : Int) * y.num).natAbs : Int) = ((x.den : Int) * y.num) by omega]
/-- which of two is greater -/
def sgnQ (q : Rat) : Int := sgnZ q.num
theorem fr_cmp (x y : Rat) : sgnZ (x.num * y.den - y.num * x.den) = sgnQ (x - y) := by
  rw [sgnQ, ← fr_sub, fr_sgn _ _ (Nat.mul_ne_zero x.den_nz y.den_nz)]
theorem sgnQ_neg (q : Rat) : sgnQ q = -1 ↔ q < 0 := by
  have h1 : q < 0 ↔ q.num < 0 := by rw [Rat.lt_iff]; simp
  rw [sgnQ, sgnZ, h1]
  split
  · omega
  · split <;> omega
theorem sgnQ_zero (q : Rat) : sgnQ q = 0 ↔ q = 0 := by
  have h1 := Rat.num_eq_zero (q := q)
  rw [sgnQ, sgnZ, ← h1]
  split
  · simp_all
  · split <;> simp_all
/-! ### how great they may be -/
def FB (k : Nat) (q : Rat) : Prop := q.num.natAbs < LB ^ k ∧ q.den < LB ^ k
theorem FB.mono {j k : Nat} {q : Rat} (h : FB j q) (hk : j ≤ k) : FB k q :=
  ⟨Nat.lt_of_lt_of_le h.1 (Nat.pow_le_pow_right (by decide) hk), Nat.lt_of_lt_of_le h.2 (Nat.pow_le_pow_right (by decide) hk)⟩
theorem FB.mk {k : Nat} {n : Int} {d : Nat} (h : d ≠ 0) (hn : n.natAbs < LB ^ k) (hd : d < LB ^ k) : FB k (mkRat n d) := by
  refine ⟨?_, ?_⟩
  · rw [fr_abs n d h]; exact Nat.lt_of_le_of_lt (Nat.div_le_self _ _) hn
  · rw [fr_den n d h]; exact Nat.lt_of_le_of_lt (Nat.div_le_self _ _) hd
theorem lb_mul {x y i j : Nat} (hx : x < LB ^ i) (hy : y < LB ^ j) : x * y < LB ^ (i + j) := by
  rw [Nat.pow_add]
  exact Nat.mul_lt_mul'' hx hy
theorem lb_add {x y i : Nat} (hx : x < LB ^ i) (hy : y < LB ^ i) : x + y < LB ^ (i + 1) := by
  have : LB ^ (i + 1) = LB ^ i * LB := Nat.pow_succ ..
  have : LB ^ i * 2 ≤ LB ^ i * LB := Nat.mul_le_mul_left _ (by decide)
  omega
theorem lb_up {x i j : Nat} (hx : x < LB ^ i) (h : i ≤ j) : x < LB ^ j := Nat.lt_of_lt_of_le hx (Nat.pow_le_pow_right (by decide) h)
theorem FB.cross {i j : Nat} {x y : Rat} (hx : FB i x) (hy : FB j y) : (x.num * y.den).natAbs < LB ^ (i + j) := by
  rw [Int.natAbs_mul]; exact lb_mul hx.1 hy.2
theorem FB.dens {i j : Nat} {x y : Rat} (hx : FB i x) (hy : FB j y) : x.den * y.den < LB ^ (i + j) := lb_mul hx.2 hy.2
theorem FB.addN {i j : Nat} {x y : Rat} (hx : FB i x) (hy : FB j y) : (x.num * y.den + y.num * x.den).natAbs < LB ^ (i + j + 1) := by
  have h1 := hx.cross hy
  have h2 := hy.cross hx
  rw [Nat.add_comm j i] at h2
  exact Nat.lt_of_le_of_lt (Int.natAbs_add_le _ _) (lb_add h1 h2)
theorem FB.add {i j : Nat} {x y : Rat} (hx : FB i x) (hy : FB j y) : FB (i + j + 1) (x + y) := by
  rw [← fr_add]
  exact FB.mk (Nat.mul_ne_zero x.den_nz y.den_nz) (hx.addN hy) (lb_up (hx.dens hy) (by omega))
theorem FB.neg {i : Nat} {x : Rat} (hx : FB i x) : FB i (-x) := ⟨by rw [Rat.neg_num, Int.natAbs_neg]; exact hx.1, by rw [Rat.neg_den]; exact hx.2⟩
theorem FB.sub {i j : Nat} {x y : Rat} (hx : FB i x) (hy : FB j y) : FB (i + j + 1) (x - y) := by
  rw [Rat.sub_eq_add_neg]; exact hx.add hy.neg
theorem FB.mul {i j : Nat} {x y : Rat} (hx : FB i x) (hy : FB j y) : FB (i + j) (x * y) := by
  rw [← fr_mul]
  exact FB.mk (Nat.mul_ne_zero x.den_nz y.den_nz) (by rw [Int.natAbs_mul]; exact lb_mul hx.1 hy.1) (hx.dens hy)
theorem FB.div {i j : Nat} {x y : Rat} (hx : FB i x) (hy : FB j y) (h0 : y.num ≠ 0) : FB (i + j) (x / y) := by
  rw [← fr_div x y h0]
  have hd := x.den_nz
  refine FB.mk (by rw [Int.natAbs_ne_zero]; exact Int.mul_ne_zero (by omega) h0) ?_ ?_
  · have := hx.cross hy
    split
    · rw [Int.natAbs_neg]; exact this
    · exact this
  · rw [Int.natAbs_mul, Int.natAbs_natCast]; exact lb_mul hx.2 hy.1
theorem FB.int {k : Nat} {z : Int} (h : z.natAbs < LB ^ (k + 1)) : FB (k + 1) (z : Rat) :=
  ⟨h, Nat.one_lt_pow (by omega) (by decide)⟩
/-! ### rounding -/
def rUp (m : Int) (q r d : Nat) : Bool :=
  if m = 1 then true else if m = 2 then decide (d ≤ r + r) else if m = 3 then decide (d < r + r) else if m = 4 then decide (d < r + r) || decide (r + r = d) && decide (q % 2 = 1) else false
def rN (m : Int) (a d : Nat) : Nat := if a % d ≠ 0 ∧ rUp m (a / d) (a % d) d = true then a / d + 1 else a / d
def rQ (m : Int) (x : Rat) : Int := if x.num < 0 then -((rN m x.num.natAbs x.den : Nat) : Int) else ((rN m x.num.natAbs x.den : Nat) : Int)
theorem rN_le (m : Int) (a d : Nat) : rN m a d ≤ a + 1 := by
  have := Nat.div_le_self a d
  rw [rN]; split <;> omega
end Go.Proofs.YtmkcoifdddldgaaGreatDoor

set_option linter.unusedVariables false
set_option linter.unusedSimpArgs false
namespace Go.Proofs.YtmkcoifdddldgaaGreatDoor
open Go Go.Lens
theorem rat_nd (q : Rat) : q = (q.num : Rat) / (q.den : Rat) := by rw [← Rat.mkRat_eq_div, Rat.mkRat_self]
theorem nat_ne {n : Nat} (h : n ≠ 0) : (n : Rat) ≠ 0 := fun e => h (by exact_mod_cast Rat.natCast_eq_zero_iff.1 e)
theorem divpow {a b : Rat} (hb : 0 < b) : ∀ n : Nat, (a / b) ^ n = a ^ n / b ^ n
  | 0 => by rw [Rat.pow_zero, Rat.pow_zero, Rat.pow_zero]; grind
  | n + 1 => by
    have hbn : 0 < b ^ n := Rat.pow_pos hb
    rw [Rat.pow_succ, Rat.pow_succ, Rat.pow_succ, divpow hb n]; grind
/-- the payment that pays back an amount, with interest -/
def lv (A r : Rat) (n : Nat) : Rat := if r = 0 then A / (n : Rat) else A * r / (1 - (1 / (1 + r)) ^ n)
theorem lv_made (A r : Rat) (n : Nat) (hr : 0 < r.num) (hn : 1 ≤ n) :
    mkRat (A.num * r.num * (((r.num.natAbs + r.den) ^ n : Nat) : Int)) (A.den * r.den * ((r.num.natAbs + r.den) ^ n - r.den ^ n)) = lv A r n ∧ r.den ^ n < (r.num.natAbs + r.den) ^ n := by
  have hlt : r.den ^ n < (r.num.natAbs + r.den) ^ n := Nat.pow_lt_pow_left (by omega) (by omega)
  refine ⟨?_, hlt⟩
  have hd := r.den_nz
  have hA := A.den_nz
  have hr0 : r ≠ 0 := fun e => by rw [e] at hr; simp at hr
  rw [lv, if_neg hr0, Rat.mkRat_eq_div]
  obtain ⟨D, hD⟩ : ∃ D, (r.num.natAbs + r.den) ^ n = r.den ^ n + D := ⟨_, (Nat.add_sub_cancel' (Nat.le_of_lt hlt)).symm⟩
  have hD0 : D ≠ 0 := by omega
  rw [hD, Nat.add_sub_cancel_left, ← hD]
  obtain ⟨s, hs⟩ : ∃ s : Nat, s = r.num.natAbs := ⟨_, rfl⟩
  have hsn : r.num = (s : Int) := by omega
  have e2 : r = (s : Rat) / (r.den : Rat) := by conv => lhs; rw [rat_nd r, hsn, Rat.intCast_natCast]
  have e1 := rat_nd A
  rw [← hs] at hD ⊢
  have ht0 := nat_ne hd
  have hA0 := nat_ne hA
  have hst : (0 : Rat) < ((s + r.den : Nat) : Rat) := by
    have : 0 < s + r.den := by omega
    exact_mod_cast this
  have hpq : ((s + r.den : Nat) : Rat) ^ n = (r.den : Rat) ^ n + (D : Rat) := by
    rw [← Rat.natCast_pow, hD, Rat.natCast_add, Rat.natCast_pow]
  have hP := Rat.pow_pos (n := n) hst
  have hDr := nat_ne hD0
  have eb : 1 / (1 + r) = (r.den : Rat) / ((s + r.den : Nat) : Rat) := by
    rw [Rat.natCast_add] at hst ⊢
    conv => lhs; rw [e2]
    have : (s : Rat) + (r.den : Rat) ≠ 0 := by grind
    grind
  rw [eb, divpow hst, Rat.intCast_mul, Rat.intCast_mul, hsn, Rat.intCast_natCast, Rat.intCast_natCast, Rat.natCast_mul, Rat.natCast_mul, Rat.natCast_pow]
  generalize (r.den : Rat) ^ n = Q at *
  generalize ((s + r.den : Nat) : Rat) ^ n = P at *
  generalize (D : Rat) = D' at *
  have e3 : A * r = (A.num : Rat) * s / ((A.den : Rat) * r.den) := by
    conv => lhs; rw [e1, e2]
    grind
  rw [e3]
  generalize (A.num : Rat) = a at *
  generalize (A.den : Rat) = b at *
  generalize (s : Rat) = s' at *
  generalize (r.den : Rat) = t at *
  subst hpq
  have hx : 1 - Q / (Q + D') = D' / (Q + D') := by grind
  rw [hx]
  grind
theorem lv_pow_lt (r : Rat) (n : Nat) (hr : 0 < r) (hn : 1 ≤ n) : 0 < 1 - (1 / (1 + r)) ^ n := by
  obtain ⟨m, rfl⟩ : ∃ m, n = m + 1 := ⟨n - 1, by omega⟩
  have h1 : 0 < 1 / (1 + r) := by
    rw [Rat.div_def, Rat.one_mul]; exact Rat.inv_pos.2 (by grind)
  have h2 : 1 / (1 + r) < 1 := by rw [Rat.div_lt_iff (by grind)]; grind
  generalize 1 / (1 + r) = b at *
  have h3 : ∀ m : Nat, b ^ m ≤ 1 := by
    intro m
    induction m with
    | zero => rw [Rat.pow_zero]; exact Rat.le_refl
    | succ m ih =>
      rw [Rat.pow_succ]
      have h4 : 0 < b ^ m := Rat.pow_pos h1
      have h5 : b ^ m * b ≤ b ^ m * 1 := Rat.mul_le_mul_of_nonneg_left (Rat.le_of_lt h2) (Rat.le_of_lt h4)
      grind
  have h6 : b ^ (m + 1) < 1 := by
    rw [Rat.pow_succ]
    have h7 : b ^ m * b ≤ 1 * b := Rat.mul_le_mul_of_nonneg_right (h3 m) (Rat.le_of_lt h1)
    grind
  grind
theorem rN_near (m : Int) (a d : Nat) (hd : 0 < d) : rN m a d * d < a + d ∧ a < rN m a d * d + d := by
  have h1 := Nat.div_add_mod a d
  have h2 := Nat.mod_lt a hd
  rw [Nat.mul_comm] at h1
  rw [rN]
  split
  · rw [Nat.add_mul, Nat.one_mul]; omega
  · omega
theorem rN_up (a d : Nat) (hd : 0 < d) : a ≤ rN 1 a d * d := by
  have h1 := Nat.div_add_mod a d
  have h2 := Nat.mod_lt a hd
  rw [Nat.mul_comm] at h1
  rw [rN]
  split
  · rw [Nat.add_mul, Nat.one_mul]; omega
  · rename_i h
    have : a % d = 0 := Classical.byContradiction fun h0 => h ⟨h0, rfl⟩
    omega
theorem rN_down (a d : Nat) : rN 0 a d * d ≤ a := by
  have h1 := Nat.div_add_mod a d
  rw [Nat.mul_comm] at h1
  rw [rN, if_neg (by rintro ⟨_, h⟩; simp [rUp] at h)]
  omega
theorem den_pos (q : Rat) : (0 : Rat) < (q.den : Rat) := by
  have : 0 < q.den := Nat.pos_iff_ne_zero.2 q.den_nz
  exact_mod_cast this
/-- a rounded fraction is less than one off -/
theorem rQ_near (m : Int) (q : Rat) : (rQ m q : Rat) - q < 1 ∧ q - (rQ m q : Rat) < 1 := by
  obtain ⟨h1, h2⟩ := rN_near m q.num.natAbs q.den (Nat.pos_iff_ne_zero.2 q.den_nz)
  have hz : (rQ m q * q.den < q.num + q.den) ∧ (q.num < rQ m q * q.den + q.den) := by
    rw [rQ]
    split
    · rename_i h
      rw [Int.neg_mul, ← Int.natCast_mul]
      omega
    · rw [← Int.natCast_mul]; omega
  obtain ⟨z1, z2⟩ := hz
  have e := rat_nd q
  have hd := den_pos q
  have y1 : (rQ m q : Rat) * (q.den : Rat) < (q.num : Rat) + (q.den : Rat) := by exact_mod_cast z1
  have y2 : (q.num : Rat) < (rQ m q : Rat) * (q.den : Rat) + (q.den : Rat) := by exact_mod_cast z2
  generalize (rQ m q : Rat) = k at *
  have e2 : q * (q.den : Rat) = (q.num : Rat) := by
    conv => lhs; lhs; rw [e]
    grind
  generalize (q.den : Rat) = d at *
  generalize (q.num : Rat) = n at *
  subst e2
  constructor
  · have : (k - q) * d < 1 * d := by grind
    exact (Rat.mul_lt_mul_right hd).1 this
  · have : (q - k) * d < 1 * d := by grind
    exact (Rat.mul_lt_mul_right hd).1 this
theorem rQ_up (q : Rat) (hq : 0 ≤ q.num) : q ≤ (rQ 1 q : Rat) := by
  have h1 := rN_up q.num.natAbs q.den (Nat.pos_iff_ne_zero.2 q.den_nz)
  have hz : q.num ≤ rQ 1 q * q.den := by
    rw [rQ, if_neg (by omega), ← Int.natCast_mul]; omega
  have e := rat_nd q
  have hd := den_pos q
  have y : (q.num : Rat) ≤ (rQ 1 q : Rat) * (q.den : Rat) := by exact_mod_cast hz
  generalize (rQ 1 q : Rat) = k at *
  have e2 : q * (q.den : Rat) = (q.num : Rat) := by
    conv => lhs; lhs; rw [e]
    grind
  rw [← e2] at y
  exact Rat.le_of_mul_le_mul_right y hd
theorem rQ_down (q : Rat) (hq : 0 ≤ q.num) : (rQ 0 q : Rat) ≤ q := by
  have h1 := rN_down q.num.natAbs q.den
  have hz : rQ 0 q * q.den ≤ q.num := by
    rw [rQ, if_neg (by omega), ← Int.natCast_mul]; omega
  have e := rat_nd q
  have hd := den_pos q
  have y : (rQ 0 q : Rat) * (q.den : Rat) ≤ (q.num : Rat) := by exact_mod_cast hz
  generalize (rQ 0 q : Rat) = k at *
  have e2 : q * (q.den : Rat) = (q.num : Rat) := by
    conv => lhs; lhs; rw [e]
    grind
  rw [← e2] at y
  exact Rat.le_of_mul_le_mul_right y hd
theorem rQ_nonneg (m : Int) (q : Rat) (hq : 0 ≤ q.num) : 0 ≤ rQ m q := by rw [rQ, if_neg (by omega)]; omega
/-! ### what is left of a loan -/
def leftQ (x r p : Rat) : Nat → Rat
  | 0 => x
  | k + 1 => leftQ x r p k + leftQ x r p k * r - p
def grownQ (r : Rat) : Nat → Rat
  | 0 => 0
  | k + 1 => grownQ r k + grownQ r k * r + 1
theorem left_eq (x r p : Rat) : ∀ k, leftQ x r p k = x * (1 + r) ^ k - p * grownQ r k
  | 0 => by rw [leftQ, grownQ, Rat.pow_zero]; grind
  | k + 1 => by rw [leftQ, left_eq x r p k, grownQ, Rat.pow_succ]; grind
theorem grown_eq (r : Rat) : ∀ k, grownQ r k * r = (1 + r) ^ k - 1
  | 0 => by rw [grownQ, Rat.pow_zero]; grind
  | k + 1 => by
    have h := grown_eq r k
    rw [grownQ, Rat.pow_succ]; grind
theorem grown_zero (k : Nat) : grownQ 0 k = (k : Rat) := by
  induction k with
  | zero => rfl
  | succ k ih => rw [grownQ, ih, Rat.natCast_add]; grind
theorem grown_pos (r : Rat) (hr : 0 ≤ r) : ∀ k, 0 ≤ grownQ r k ∧ (1 ≤ k → 0 < grownQ r k)
  | 0 => ⟨Rat.le_refl, fun h => by omega⟩
  | k + 1 => by
    obtain ⟨h, _⟩ := grown_pos r hr k
    have : 0 ≤ grownQ r k * r := Rat.mul_nonneg h hr
    rw [grownQ]
    exact ⟨by grind, fun _ => by grind⟩
theorem lv_grown (x r : Rat) (n : Nat) (hr : 0 ≤ r) (hn : 1 ≤ n) : x * (1 + r) ^ n = lv x r n * grownQ r n := by
  rw [lv]
  by_cases h0 : r = 0
  · subst h0
    rw [if_pos rfl, grown_zero]
    have hne := nat_ne (show n ≠ 0 by omega)
    have h1 : (1 + (0 : Rat)) ^ n = 1 := by
      have : (1 + (0 : Rat)) = 1 := by grind
      rw [this]
      clear hn hne
      induction n with
      | zero => rw [Rat.pow_zero]
      | succ n ih => rw [Rat.pow_succ, ih]; grind
    rw [h1]; grind
  · rw [if_neg h0]
    have hr' : 0 < r := by grind
    have h1 := lv_pow_lt r n hr' hn
    have h2 := grown_eq r n
    have hg : (0 : Rat) < 1 + r := by grind
    have hP := Rat.pow_pos (n := n) hg
    have e : (1 / (1 + r)) ^ n = 1 / (1 + r) ^ n := by
      rw [divpow hg]
      congr 1
      clear h1 h2 hP hn
      induction n with
      | zero => rw [Rat.pow_zero]
      | succ n ih => rw [Rat.pow_succ, ih]; grind
    rw [e] at h1 ⊢
    generalize (1 + r) ^ n = P at *
    generalize grownQ r n = G at *
    have hx : 1 - 1 / P = (P - 1) / P := by grind
    rw [hx] at h1 ⊢
    have hp1 : P - 1 ≠ 0 := by
      intro h; rw [h] at h1; grind
    rw [← h2]
    rw [← h2] at hp1
    have hG : G ≠ 0 := by intro h; rw [h] at hp1; grind
    grind
/-- what is left at the end is less than as many cents grown -/
theorem left_near (x r : Rat) (n : Nat) (m : Int) (hr : 0 ≤ r) (hn : 1 ≤ n) :
    leftQ x r (rQ m (lv x r n)) n < grownQ r n ∧ -(leftQ x r (rQ m (lv x r n)) n) < grownQ r n := by
  obtain ⟨h1, h2⟩ := rQ_near m (lv x r n)
  have h3 := lv_grown x r n hr hn
  have h4 := (grown_pos r hr n).2 hn
  rw [left_eq, h3]
  generalize (rQ m (lv x r n) : Rat) = k at *
  generalize lv x r n = L at *
  generalize grownQ r n = G at *
  constructor
  · have : (L - k) * G < 1 * G := (Rat.mul_lt_mul_right h4).2 h2
    grind
  · have : (k - L) * G < 1 * G := (Rat.mul_lt_mul_right h4).2 h1
    grind
end Go.Proofs.YtmkcoifdddldgaaGreatDoor

set_option linter.unusedVariables false
set_option linter.unusedSimpArgs false
namespace Go.Lens
open Go Go.RowKit
/-! ### jumps -/
def JumpQ (l : Nat) (J : St → Prop) (Q : Exit → St → Prop) : Exit → St → Prop
  | .goto l', s => l' = l ∧ J s
  | e, s => Q e s
theorem W.goto {C : Ctx} {st : St} {Q : Exit → St → Prop} {l : Nat} (h : Q (.goto l) st) : W C (.goto l) st Q := fun _ _ hr => wp_goto ⟨st, h, hr⟩
open Classical in
theorem W.jumps {C : Ctx} {c rest : Code} {st : St} {Q : Exit → St → Prop} (l : Nat) (hf : findLabel c l = some rest) (I : Nat → St → Prop)
    (pass : ∀ n s, I n s → W C rest s (JumpQ l (fun s' => ∃ m env0 objs0, m < n ∧ I m ⟨env0, objs0⟩ ∧ Fits C.k env0 objs0 s') Q))
    (first : (∀ n s, I n s → W C rest s (JumpQ l (fun s' => ∃ m env0 objs0, I m ⟨env0, objs0⟩ ∧ Fits C.k env0 objs0 s') Q)) → W C c st (JumpQ l (fun s' => ∃ m env0 objs0, I m ⟨env0, objs0⟩ ∧ Fits C.k env0 objs0 s') Q)) (hsv : C.sv = [] := by rfl) : W C (.scope c) st Q := by
  intro a w hrel
  let J : Act → World → Nat → Prop := fun a w n => ∃ st, I n st ∧ Rel C st a w
  have back : ∀ {e : Exit} {a' : Act} {w' : World} {D : St → Prop} {D' : Act → World → Prop}, (∀ s a' w', D s → Rel C s a' w' → D' a' w') → Post C (JumpQ l D Q) e a' w' → Exit.jump l D' (Post C Q) e a' w' := by
    intro e a' w' D D' hD h
    obtain ⟨s, h1, h2⟩ := h
    cases e with
    | goto l' => exact ⟨h1.1, hD s a' w' h1.2 h2⟩
    | _ => exact ⟨s, h1, h2⟩
  refine wp_scope_jumps l (fun a w => ∃ n, J a w n) (fun a w => if h : ∃ n, J a w n then Classical.choose (least h) else 0) hf ?_ ?_
  · refine wp_mono (first (fun n s hI => (pass n s hI).mono fun e s' h => ?_) a w hrel) fun e a' w' h => back ?_ h
    · cases e with
      | goto l' =>
        obtain ⟨h1, m, env0, objs0, _, h2, h3⟩ := h
        exact ⟨h1, m, env0, objs0, h2, h3⟩
      | _ => exact h
    · rintro s a' w' ⟨m, env0, objs0, h1, h2⟩ hr
      exact ⟨m, ⟨env0, objs0⟩, h1, hr.weak h2.1 h2.2.1 h2.2.2.1 h2.2.2.2 hsv⟩
  · intro a w hJ
    have hsp := Classical.choose_spec (least hJ)
    obtain ⟨⟨st1, hI, hR⟩, hmin⟩ := hsp
    refine wp_mono (pass _ st1 hI a w hR) fun e a' w' h => back ?_ h
    rintro s a' w' ⟨m, env0, objs0, hm, h1, h2⟩ hr
    have hJ' : J a' w' m := ⟨⟨env0, objs0⟩, h1, hr.weak h2.1 h2.2.1 h2.2.2.1 h2.2.2.2 hsv⟩
    have hex : ∃ n, J a' w' n := ⟨m, hJ'⟩
    refine ⟨hex, ?_⟩
    simp only [dif_pos hJ, dif_pos hex]
    exact Nat.lt_of_le_of_lt ((Classical.choose_spec (least hex)).2 m hJ') hm
theorem W.again {C : Ctx} {c body : Code} {st : St} {Q : Exit → St → Prop} (l : Nat) (hf : findLabel c l = some (.seq .skip body)) (I : Nat → St → Prop)
    (pass : ∀ n s, I n s → W C body s (JumpQ l (fun s' => ∃ m env0 objs0, m < n ∧ I m ⟨env0, objs0⟩ ∧ Fits C.k env0 objs0 s') Q))
    (first : (∀ n s, I n s → W C body s (JumpQ l (fun s' => ∃ m env0 objs0, I m ⟨env0, objs0⟩ ∧ Fits C.k env0 objs0 s') Q)) → W C c st (JumpQ l (fun s' => ∃ m env0 objs0, I m ⟨env0, objs0⟩ ∧ Fits C.k env0 objs0 s') Q)) (hsv : C.sv = [] := by rfl) : W C (.scope c) st Q :=
  W.jumps l hf I (fun n s hI => W.seq (W.skip (pass n s hI))) (fun _ => first fun n s hI => (pass n s hI).mono fun e s' h => by
    cases e with
    | goto l' =>
      obtain ⟨h1, m, env0, objs0, _, h2, h3⟩ := h
      exact ⟨h1, m, env0, objs0, h2, h3⟩
    | _ => exact h) hsv
/-! ### calls -/
/-- a call that tells a predicate of its plain result; lent slices are kept -/
theorem sx {C : Ctx} {ops : Array Oper} {o : Oper} {rest : List Oper} {env : List (Nat × AV)} {objs : List AObj} {Q : Exit → St → Prop} {x : Operand} {xs : Array Operand} {ts : Array TypeId} {f : FuncId} {fs cs avs avs' args args' : List AV} {R : AV → Prop} {L : List Nat} {d : Nat}
    (hs : Spec C.P f args' [] (fun r os => R r ∧ os = []))
    (hop : o.op = .call { callee := .value x, args := xs, argTypes := ts }) (hx : ev ⟨env, objs⟩ x = some (.func (.func f) fs cs)) (hxs : evL ⟨env, objs⟩ xs.toList = some avs) (ha : fs ++ avs ++ cs = avs')
    (hp : PassL objs 0 avs' args L [] []) (he : args = args') (hR : ∀ r, R r → r.plain = true ∧ r.noRow = true)
    (hg : gd ops ⟨env, objs⟩ o = some true) (hd : o.dst = some d) (hlt : Nat.blt d C.nt = true)
    (h : ∀ r, R r → WL C ops rest ⟨(d, r) :: env, objs⟩ Q) : WL C ops (o :: rest) ⟨env, objs⟩ Q := by
  subst ha; subst he
  refine WL.call false hs hop hx hxs hp (by simp) (by simp) (by simp) hg (fun t ht => by rw [hd] at ht; injection ht with ht; subst ht; exact Nat.le_of_ble_eq_true hlt) ?_
  rintro r' O' ⟨hr, rfl⟩
  obtain ⟨h1, h2⟩ := hR r' hr
  refine ⟨fun i _ _ _ _ _ hi => by simp at hi, AV.ge_plain _ _ h1, fun i ob _ hi => by simp at hi, .inr ⟨h2, by simp⟩, ?_⟩
  have := h r' hr
  simp only [wb, Bool.false_eq_true, if_false, List.drop_nil, List.map_nil, List.append_nil, AV.up_plain _ _ _ h1, hd]
  exact this
/-- a function that hands back a slice of its own -/
def Owns (P : Program) (f : FuncId) (args : List AV) (cs : List AV) (n : Nat) (full : Bool) (esz : Nat) (e : TypeId) : Prop :=
  Spec P f args [] (fun r os => r = .sl 0 0 0 n full ∧ os = [.cells cs 0 esz true (some e)])
theorem so1 {C : Ctx} {ops : Array Oper} {o : Oper} {rest : List Oper} {env : List (Nat × AV)} {objs : List AObj} {Q : Exit → St → Prop} {x : Operand} {xs : Array Operand} {ts : Array TypeId} {f : FuncId} {fs cs avs avs' : List AV} {d n esz m : Nat} {full : Bool} {e : TypeId} {ds : List AV}
    (hs : Owns C.P f avs' ds n full esz e)
    (hop : o.op = .call { callee := .value x, args := xs, argTypes := ts }) (hx : ev ⟨env, objs⟩ x = some (.func (.func f) fs cs)) (hxs : evL ⟨env, objs⟩ xs.toList = some avs) (ha : fs ++ avs ++ cs = avs')
    (hp : plainL avs' = true) (hm : objs.length = m)
    (hg : gd ops ⟨env, objs⟩ o = some true) (hd : o.dst = some d) (hlt : Nat.blt d C.nt = true)
    (h : WL C ops rest ⟨(d, .sl m 0 0 n full) :: env, objs ++ [.cells ds 0 esz true (some e)]⟩ Q) : WL C ops (o :: rest) ⟨env, objs⟩ Q := by
  subst ha; subst hm
  refine WL.call true hs hop hx hxs (PassL.of_plain hp) (by simp) (by simp) (by simp) hg (fun t ht => by rw [hd] at ht; injection ht with ht; subst ht; exact Nat.le_of_ble_eq_true hlt) ?_
  rintro r' O' ⟨rfl, rfl⟩
  refine ⟨fun i _ _ _ _ _ hi => by simp at hi, rfl, fun i ob _ hi => ?_, .inl rfl, ?_⟩
  · rcases i with _ | i
    · simp at hi; subst hi; rfl
    · simp at hi
  · simp only [wb, killL, if_true, List.drop_zero, List.length_nil, List.map_cons, List.map_nil, AObj.up, AV.up, Nat.sub_zero, Nat.add_zero, hd]
    exact h
theorem finO {T : Tab} {rs : List ResultVar} {st : St} {o ver esz n : Nat} {full : Bool} {cs : List AV} {e : TypeId} (h : resAV T st rs = some [.sl o ver 0 n full]) (hob : st.objs[o]? = some (.cells cs ver esz true (some e))) :
    Fin T rs 0 (fun r' os => r' = .sl 0 0 0 n full ∧ os = [.cells cs 0 esz true (some e)]) .ret st := by
  refine ⟨.inl rfl, _, _, [o], h, .own hob .nil, by simp, fun ob hob => by simp at hob, rfl, ?_⟩
  simp [List.getD, hob, AObj.fresh]
theorem finX {T : Tab} {rs : List ResultVar} {st : St} {R : AV → Prop} {cs cs' : List AV} (h : resAV T st rs = some cs) (hp : PackL st.objs 0 [] 0 cs cs' []) (hr : R (tupAV cs')) : Fin T rs 0 (fun r' os => R r' ∧ os = []) .ret st :=
  ⟨.inl rfl, cs, cs', [], h, hp, List.nodup_nil, fun ob hob => by simp at hob, hr, by simp⟩
theorem doesX {P : Program} {T : Tab} (ok : TabOK P T) {f : FuncId} {fn : Func} {c : Code} (hf : P.funcs[f]? = some fn) (hb : fn.body = some c) (hname : (fn.name == "runtime.NumGoroutine") = false)
    {nt : Nat} (hnt : fn.ntmps = nt) {rs : List ResultVar} (hrs : fn.results.toList = rs) {args : List AV} (hlen : Nat.ble args.length nt = true) {Q : AV → List AObj → Prop}
    (h : ∀ w0 H0 hk hj, W ⟨P, T, ok, nt, w0, 0, H0, lnOf [], hk, hj, []⟩ c ⟨envOf 0 args, []⟩ (Fin T rs 0 Q)) : Spec P f args [] Q :=
  Spec.of_W ok hf hb hname hnt hrs (Nat.le_of_ble_eq_true hlen) (fun _ h => by cases h) h
/-- the same, into a place that is kept free -/
theorem soS {C : Ctx} {ops : Array Oper} {o : Oper} {rest : List Oper} {env : List (Nat × AV)} {objs : List AObj} {Q : Exit → St → Prop} {x : Operand} {xs : Array Operand} {ts : Array TypeId} {f : FuncId} {fs cs avs avs' : List AV} {d n esz j : Nat} {full : Bool} {e : TypeId} {ds : List AV}
    (hs : Owns C.P f avs' ds n full esz e) (hjs : objs[j]? = some .slot) (hjk : C.k ≤ j)
    (hop : o.op = .call { callee := .value x, args := xs, argTypes := ts }) (hx : ev ⟨env, objs⟩ x = some (.func (.func f) fs cs)) (hxs : evL ⟨env, objs⟩ xs.toList = some avs) (ha : fs ++ avs ++ cs = avs')
    (hp : plainL avs' = true)
    (hg : gd ops ⟨env, objs⟩ o = some true) (hd : o.dst = some d) (hlt : Nat.blt d C.nt = true)
    (h : WL C ops rest ⟨(d, .sl j 1 0 n full) :: env, objs.set j (.cells ds 1 esz true (some e))⟩ Q) : WL C ops (o :: rest) ⟨env, objs⟩ Q := by
  subst ha
  intro a w ⟨H, hi⟩
  obtain ⟨vs, hrun, hrel⟩ := run_call hi hop hx hxs hs.1
  unfold wpList
  rw [gd_rel hg hi, if_pos rfl]
  refine .inl ?_
  unfold Oper.wp
  rw [hrun]
  simp only [Oper.upon]
  have hpl : PassL objs 0 (fs ++ avs ++ cs) (fs ++ avs ++ cs) [] [] [] := PassL.of_plain hp
  have hO := hi.objs.callee hpl (by simp) (by simp)
  have hra : RelL w (fs ++ avs ++ cs) (H.callee [] []) vs := by
    refine hpl.rel (Hc := H.callee [] []) hi.objs (fun b _ hb => hb.1) [] rfl rfl (fun o ho hw => hw.2 o ho rfl) (fun i o off hio => by simp at hio) hrel
  refine (hs.2 _ w vs hO hra).mono fun e' w' ⟨r, O', H', v, he, ⟨hr, hos⟩, hrv, hl⟩ => ?_
  subst he; subst hr; subst hos
  have hn : H.n = objs.length := hi.objs.n
  have hjl : j < objs.length := (List.getElem?_eq_some_iff.1 hjs).1
  have hv0 : H.ver j = 0 := hi.objs.rel j _ hjs
  have hwc : ∀ b, b < w.heap.size → (H'.wr b ↔ H.wr b) := fun b hb => (hl.wr b hb).trans ⟨fun h => h.1, fun h => ⟨h, fun o ho => by cases ho⟩⟩
  have hz0 := hl.ok.rel 0 (.cells ds 0 esz true (some e)) rfl
  have hnew : w.heap.size ≤ H'.blk 0 := hl.new 0 _ (by simp) rfl rfl
  let J : View := { n := H.n, blk := fun o => if o = j then H'.blk 0 else H.blk o, off := fun o => if o = j then H'.off 0 else H.off o, cap := fun o => if o = j then H'.cap 0 else H.cap o, ver := fun o => if o = j then 1 else H.ver o, wr := H'.wr }
  have hfrm : ∀ b, b < w.heap.size → w'.heap[b]? = w.heap[b]? := fun b hb => hl.frame b hb fun o ob ho => by simp at ho
  have hK : Keeps w H w' J := by
    refine ⟨fun ad u hcell hx => ?_, fun b hb h => (hwc b hb).1 h, Nat.le_refl _, fun o' ho' => ?_, fun o' ho' hvv => ?_⟩
    · rw [World.cell?_of_block (w := w) (hfrm _ (World.block_lt_of_cell? w ad hcell))]; exact hcell
    · by_cases e : o' = j
      · subst e; simp [J, hv0]
      · simp [J, e]
    · by_cases e : o' = j
      · subst e; simp [J, hv0] at hvv
      · simp [J, e]
  have hget : ∀ i ob, (objs.set j (.cells ds 1 esz true (some e)))[i]? = some ob → (i = j ∧ ob = .cells ds 1 esz true (some e)) ∨ (i ≠ j ∧ objs[i]? = some ob) := by
    intro i ob hob
    by_cases e : i = j
    · subst e
      rw [List.getElem?_set_self hjl] at hob
      injection hob with hob
      exact .inl ⟨rfl, hob.symm⟩
    · rw [List.getElem?_set_ne (Ne.symm e)] at hob
      exact .inr ⟨e, hob⟩
  have hlive : ∀ i ob, objs[i]? = some ob → ob.live = true → H.blk i < w.heap.size := fun i ob h1 h2 => hi.objs.lt _ (hi.objs.wr_blk h1 h2)
  have hinv : Inv C J ⟨env, objs.set j (.cells ds 1 esz true (some e))⟩ a w' := by
    refine hi.move (objs' := objs.set j (.cells ds 1 esz true (some e))) hK ⟨by simp [J, hn], fun i ob hob => ?_, fun i i' ob ob' h1 h2 l1 l2 hb => ?_, fun b hb => hl.ok.lt b hb⟩ (fun b hb => hwc b (Nat.lt_of_lt_of_le hb hi.le)) (by have := hi.klen; simp at this ⊢; omega) (fun x hx => by simp [J, show x ≠ j by omega]) (fun x cs ver esz flat own hx hob => ?_) (fun x hx => Outside.of_eq (hfrm _ (Nat.lt_of_lt_of_le (C.hk x hx) hi.le)) _ _) (fun i ob hob hl' => ?_) (fun b hb _ => hfrm b (Nat.lt_of_lt_of_le hb hi.le)) hl.size hl.os hl.tape hl.output
    · rcases hget i ob hob with ⟨rfl, rfl⟩ | ⟨hne, hob⟩
      · obtain ⟨_, q1, vs0, c0, e0, q2, q3, q4, q5⟩ := hz0
        refine ⟨by simp [J], by simpa [J] using q1, vs0, c0, e0, by simpa [J] using q2, ?_, by simpa [J] using q4, by simpa [J] using q5⟩
        exact RelL.keeps (w := w') (H := H'.flatIf true) (H' := J.flatIf true) _ ⟨fun _ _ h _ => h, fun b _ h => h, Nat.le_refl _, fun o ho => absurd ho (Nat.not_lt_zero _), fun o ho => absurd ho (Nat.not_lt_zero _)⟩ q3
      · by_cases hlv : ob.live = true
        · exact (hi.objs.rel i ob hob).keeps hK (by simp [J, hne]) (by simp [J, hne]) (by simp [J, hne]) (by simp [J, hne]) (fun h => (hwc _ (hlive i ob hob hlv)).2 h) (hfrm _ (hlive i ob hob hlv))
        · cases ob <;> first | trivial | (simp [AObj.live] at hlv; done) | (have := hi.objs.rel i _ hob; simpa [RelO, J, hne] using this)
    · rcases hget i ob h1 with ⟨e1, rfl⟩ | ⟨n1, g1⟩ <;> rcases hget i' ob' h2 with ⟨e2, rfl⟩ | ⟨n2, g2⟩
      · rw [e1, e2]
      · simp only [J, if_pos e1, if_neg n2] at hb
        have := hlive _ _ g2 l2; omega
      · simp only [J, if_pos e2, if_neg n1] at hb
        have := hlive _ _ g1 l1; omega
      · simp only [J, if_neg n1, if_neg n2] at hb
        exact hi.objs.inj _ _ _ _ g1 g2 l1 l2 hb
    · rcases hget x _ hob with ⟨rfl, _⟩ | ⟨_, hob⟩
      · omega
      · exact hi.lens x cs ver esz flat own hx hob
    · rcases hget i ob hob with ⟨rfl, _⟩ | ⟨hne, hob⟩
      · exact .inr (by simp only [J, if_true]; have := hi.le; omega)
      · simp only [J, if_neg hne]; exact hi.own i ob hob hl'
  have hval : RelV w' (.sl j 1 0 n full) J v := by
    obtain ⟨_, _, q3⟩ := hrv
    obtain ⟨ad, c, q4, q5, q6, q7⟩ := q3 hz0.1
    refine ⟨by simp [J, hn]; omega, by simp [J], fun _ => ⟨ad, c, q4, q5, ?_, ?_⟩⟩
    · simpa [J] using q6
    · simpa [J] using q7
  have := hinv.put o.dst (fun t ht => by rw [hd] at ht; injection ht with ht; subst ht; exact Nat.le_of_ble_eq_true hlt) hval
  rw [hd] at this
  refine h _ _ ⟨J, ?_⟩
  rw [hd]
  exact this
theorem MidVS.call {C : Ctx} {ops : Array Oper} {ds : List Nat} {env0 : List (Nat × AV)} {objsB : List AObj} {adst : List (Nat × AObj)} {K : List (Nat × AV) → Prop} {d : Nat} {o : Oper} {r : List (Nat × Oper)} {acc : List (Nat × AV)} {x : Operand} {xs : Array Operand} {ts : Array TypeId} {f : FuncId} {fs cs avs avs' : List AV} {m esz : Nat} {full : Bool} {e : TypeId} {us : List AV} (k n : Nat)
    (hs : Owns C.P f avs' us m full esz e) (ha : adst[k]? = some (d, .cells us 1 esz true (some e))) (hn : objsB.length + k = n) (hk : Nat.ble C.k n = true) (hd : o.dst = some d) (hg : o.guard = none) (hlt : Nat.blt d C.nt = true)
    (hop : o.op = .call { callee := .value x, args := xs, argTypes := ts }) (hx : ∀ mo more, ev ⟨(sel acc (depT ops o) ++ clean ds env0) ++ more, objsB ++ mo⟩ x = some (.func (.func f) fs cs)) (hxs : ∀ mo more, evL ⟨(sel acc (depT ops o) ++ clean ds env0) ++ more, objsB ++ mo⟩ xs.toList = some avs) (hav : fs ++ avs ++ cs = avs')
    (hp : plainL avs' = true) (h' : MidVS C ops ds env0 objsB adst K r ((d, .sl n 1 0 m full) :: acc)) : MidVS C ops ds env0 objsB adst K ((d, o) :: r) acc := by
  subst hn
  refine ⟨.sl (objsB.length + k) 1 0 m full, .inr ⟨k, _, ha, fun mo more hsl => ?_⟩, h'⟩
  have hs' : (objsB ++ mo)[objsB.length + k]? = some .slot := by rw [List.getElem?_append_right (by omega)]; simpa using hsl
  refine soS hs hs' (Nat.le_of_ble_eq_true hk) hop (hx mo more) (hxs mo more) hav hp (by unfold gd; rw [hg]) hd hlt ?_
  have he : (objsB ++ mo).set (objsB.length + k) (.cells us 1 esz true (some e)) = objsB ++ mo.set k (.cells us 1 esz true (some e)) := by
    rw [List.set_append_right _ _ (by omega)]; simp
  rw [he]
  exact WL.nil ⟨rfl, rfl⟩
end Go.Lens

set_option linter.unusedVariables false
set_option linter.unusedSimpArgs false
namespace Go.Proofs.YtmkcoifdddldgaaGreatDoor
open Go Go.Lens
theorem u64_shl (x n : Nat) (hn : n ≤ 64) : binAV .shl (.int .u64 (x : Int)) (.int .u64 (n : Int)) = some (.int .u64 ((x * 2 ^ n % 18446744073709551616 : Nat) : Int)) := by
  simp only [binAV, isShift, shAV, if_true]
  rw [if_neg (by omega)]
  have : min (n : Int).toNat IntKind.u64.bits = n := by simp [IntKind.bits]; omega
  rw [this, IntKind.wrap_u64]
  congr 2
theorem u64_shr (x n : Nat) (hn : n ≤ 64) : binAV .shr (.int .u64 (x : Int)) (.int .u64 (n : Int)) = some (.int .u64 ((x / 2 ^ n : Nat) : Int)) := by
  simp only [binAV, isShift, shAV, if_true]
  rw [if_neg (by omega)]
  have : min (n : Int).toNat IntKind.u64.bits = n := by simp [IntKind.bits]; omega
  rw [this, Int.fdiv_eq_ediv_of_nonneg _ (by exact_mod_cast Nat.zero_le _)]
  congr 2
theorem or_add {a b n : Nat} (ha : a < 2 ^ n) (hb : b % 2 ^ n = 0) : a ||| b = a + b := by
  have hq : b = 2 ^ n * (b / 2 ^ n) := by
    have := Nat.div_add_mod b (2 ^ n)
    omega
  rw [Nat.or_comm, hq, ← Nat.two_pow_add_eq_or_of_lt ha (b / 2 ^ n), Nat.add_comm]
theorem u64_or {a b n : Nat} (ha : a < 2 ^ n) (hb : b % 2 ^ n = 0) (ha' : a < 18446744073709551616) (hb' : b < 18446744073709551616) : binAV .or (.int .u64 (a : Int)) (.int .u64 (b : Int)) = some (.int .u64 ((a + b : Nat) : Int)) := by
  simp only [binAV, isShift, intAV, Bool.false_eq_true, if_false, if_true]
  rw [(bits_nat .u64 64 (by decide) (fun n h0 h1 => wrap_u64_id h0 (by omega)) a b (by omega) (by omega)).2, or_add ha hb]
theorem pow_dvd_mod {x n : Nat} (hn : n ≤ 64) : x * 2 ^ n % 18446744073709551616 % 2 ^ n = 0 := by
  have h : 18446744073709551616 = 2 ^ n * 2 ^ (64 - n) := by rw [← Nat.pow_add, show n + (64 - n) = 64 by omega]
  rw [h, Nat.mod_mul_right_mod, Nat.mul_mod_left]
/-- the limbs that moved tells -/
theorem padL_self {q : List Nat} (h : Small LB q) : padL q.length (val LB q) = q := by
  have h1 : (digs LB (val LB q)).length ≤ q.length := digs_length (by decide) (val_lt h)
  have key : ∀ (a b : List Nat), Small LB a → Small LB b → a.length = b.length → val LB a = val LB b → a = b := by
    intro a
    induction a with
    | nil => intro b _ _ hl _; rw [List.length_nil] at hl; exact (List.eq_nil_of_length_eq_zero hl.symm).symm
    | cons x a ih =>
      intro b ha hb hl hv
      rcases b with _ | ⟨y, b⟩
      · simp at hl
      · simp only [val] at hv
        have hx := ha x (by simp)
        have hy := hb y (by simp)
        have e1 := congrArg (· % LB) hv
        simp only [Nat.add_mul_mod_self_left, Nat.mod_eq_of_lt hx, Nat.mod_eq_of_lt hy] at e1
        subst e1
        have e2 : val LB a = val LB b := by
          have := Nat.add_left_cancel hv
          exact Nat.eq_of_mul_eq_mul_left (by decide) this
        rw [ih b (fun z hz => ha z (by simp [hz])) (fun z hz => hb z (by simp [hz])) (by simpa using hl) e2]
  refine key _ _ (padL_small _ _) h ?_ (padL_val _ _)
  rw [padL, List.length_append, List.length_replicate]; omega
theorem moved_owns (l : List Nat) (n : Nat) (hs : Small LB l) (hl : l.length ≤ 1000000) (hn : n ≤ 63) : Owns Tryz.prog 175 [.row (u64AV l) l.length, .int .u64 n] (u64AV (padL (l.length + 1) (val LB l * 2 ^ n))) (l.length + 1) true 1 121 := by
  obtain ⟨L, hL⟩ : ∃ L, L = l.length := ⟨_, rfl⟩
  have hL1 : l.length + 1 = L + 1 := by omega
  rw [hL1]
  have h2n : (2 : Nat) ^ n ≤ 2 ^ 63 := Nat.pow_le_pow_right (by decide) hn
  refine doesX tab_ok Tryz.func175 rfl rfl rfl rfl rfl fun w0 H0 hk hj => ?_
  --@ n 0
  refine W.seq (W.region ?_)
  refine z_p ?_
  refine WL.nil ?_
  refine W.seq (W.region ?_)
  refine z_p ?_
  first | refine z_n ?_ | refine z_m ?_ | refine z_k ?_
  refine z_i ?_
  refine sn (a_make64 (L + 1) rfl rfl rfl (by omega) rfl rfl rfl rfl rfl rfl (by omega)) (rfl : _ = AV.sl 0 0 0 (L + 1) true) (rfl : _ = [_]) rfl rfl rfl ?_
  refine z_p ?_
  refine WL.nil ?_
  refine W.seq (W.seq (W.region ?_))
  refine z_p ?_
  first | refine z_n ?_ | refine z_m ?_ | refine z_k ?_
  refine z_p ?_
  refine WL.nil ?_
  refine W.block ?_
  refine W.while (fun m st => ∃ (i : Nat) (pre : List Nat) (c : Nat), m = L - i ∧ i ≤ L ∧ pre.length = i ∧ Small LB pre ∧ c < 2 ^ n ∧ val LB pre + LB ^ i * c = pv LB l i * 2 ^ n ∧
      st = ⟨[(0, .row (u64AV l) l.length), (1, .int .u64 n), (5, .sl 0 0 0 (L + 1) true), (12, .row (u64AV l) l.length), (13, .int .i64 L), (14, .int .i64 i)], [.cells (u64AV ((pre ++ [c]) ++ List.replicate (L - i) 0)) 0 1 true (some 121)]⟩) L
    ⟨0, [], 0, by omega, by omega, rfl, (fun x hx => by cases hx), Nat.pow_pos (by decide), by simp [pv, val], rfl⟩ (by rw [hL]; exact (by refine ⟨?_, ?_, rfl, Nat.le_of_ble_eq_true rfl⟩ <;> repeat (first | exact trivial | exact rfl | refine ⟨rfl, ?_⟩ | refine ⟨.inr ⟨rfl, ?_⟩, ?_⟩ | refine ⟨.inl rfl, ?_⟩))) ?_
  rintro m _ ⟨i, pre, c, rfl, hi, hpl, hps, hc, hv, rfl⟩
  by_cases hlt : i < L
  · have hil : i < l.length := by omega
    have hxs := hs _ (List.getElem_mem hil)
    have hga : l.getD i 0 = l[i] := by simp [List.getD, hil]
    obtain ⟨x, hx⟩ : ∃ x, x = l[i] := ⟨_, rfl⟩
    have hget : (u64AV l)[i]? = some (.int .u64 (x : Nat)) := by rw [hx]; exact u64AV_get hil
    rw [← hx] at hxs hga
    simp only [LB] at hxs
    obtain ⟨lo, hlo⟩ : ∃ lo, lo = x * 2 ^ n % 18446744073709551616 := ⟨_, rfl⟩
    obtain ⟨up, hup⟩ : ∃ up, up = x * 2 ^ n / 18446744073709551616 := ⟨_, rfl⟩
    have hbal : lo + 18446744073709551616 * up = x * 2 ^ n := by rw [hlo, hup]; exact Nat.mod_add_div _ _
    have hlol : lo < 18446744073709551616 := hlo ▸ Nat.mod_lt _ (by decide)
    have hlod : lo % 2 ^ n = 0 := hlo ▸ pow_dvd_mod (by omega)
    have hupl : up < 2 ^ n := by
      rw [hup]
      refine Nat.div_lt_of_lt_mul ?_
      exact Nat.mul_lt_mul_of_pos_right hxs (Nat.pow_pos (by decide))
    have hshr : x / 2 ^ (64 - n) = up := by
      rw [hup]
      have h : 18446744073709551616 = 2 ^ (64 - n) * 2 ^ n := by rw [← Nat.pow_add, show 64 - n + n = 64 by omega]
      rw [h, Nat.mul_div_mul_right _ _ (Nat.pow_pos (by decide))]
    have hclo : c + lo < 18446744073709551616 := by
      have h1 : lo ≤ 18446744073709551616 - 2 ^ n := by
        have h : 18446744073709551616 = 2 ^ n * 2 ^ (64 - n) := by rw [← Nat.pow_add, show n + (64 - n) = 64 by omega]
        obtain ⟨q, hq⟩ := Nat.dvd_of_mod_eq_zero hlod
        rw [hq, h] at hlol ⊢
        have hq2 : q < 2 ^ (64 - n) := Nat.lt_of_mul_lt_mul_left hlol
        have hq3 : 2 ^ n * (q + 1) ≤ 2 ^ n * 2 ^ (64 - n) := Nat.mul_le_mul_left _ hq2
        rw [Nat.mul_add, Nat.mul_one] at hq3
        omega
      omega
    have hg1 : (u64AV ((pre ++ [c]) ++ List.replicate (L - i) 0))[i]? = some (.int .u64 (c : Nat)) := by
      have h1 : ((pre ++ [c]) ++ List.replicate (L - i) 0)[i]? = some c := by
        rw [List.append_assoc, List.getElem?_append_right (by omega), hpl, Nat.sub_self]; rfl
      exact u64AV_some h1
    have hst1 : ((u64AV ((pre ++ [c]) ++ List.replicate (L - i) 0)).set (0 + (i : Int).toNat * 1) (.int .u64 ((c + lo : Nat) : Int))) = u64AV ((pre ++ [c + lo]) ++ List.replicate (L - i) 0) := by
      rw [show 0 + (i : Int).toNat * 1 = i by simp, List.append_assoc, List.append_assoc]
      simp [u64AV, List.set_append, hpl]
    have hst2 : ((u64AV ((pre ++ [c + lo]) ++ List.replicate (L - i) 0)).set (0 + ((i + 1 : Nat) : Int).toNat * 1) (.int .u64 ((up : Nat) : Int))) = u64AV (((pre ++ [c + lo]) ++ [up]) ++ List.replicate (L - (i + 1)) 0) := by
      rw [show 0 + ((i + 1 : Nat) : Int).toNat * 1 = i + 1 by rw [Int.toNat_natCast]; omega, show L - i = L - (i + 1) + 1 by omega]
      exact u64AV_set (pre ++ [c + lo]) 0 _ up _ (by simp [hpl])
    refine W.seq (W.region ?_)
    refine z_T (show (i : Int) < L by omega) ?_
    refine WL.nil ?_
    refine W.seq (W.cond_true rfl (W.skip ?_))
    refine W.seq (W.block ?_)
    refine W.seq (W.region ?_)
    refine z_p ?_
    refine sp (v_indexAddr_row rfl rfl rfl rfl rfl rfl (by omega) (by omega) (u64AV_ne hil)) rfl rfl rfl ?_
    refine sp (v_load_radr rfl rfl rfl (loadc_at rfl (Nat.mul_one _) hget)) rfl rfl rfl ?_
    refine z_p ?_
    refine z_p ?_
    refine WL.nil ?_
    refine W.seq (W.region ?_)
    refine z_p ?_
    refine z_p ?_
    refine sp (v_indexAddr rfl rfl rfl rfl rfl rfl rfl (by omega) (by omega)) rfl rfl rfl ?_
    refine sp (v_load rfl rfl rfl rfl (loadc_i rfl (show 0 + (i : Int).toNat * 1 = i by simp) hg1)) rfl rfl rfl ?_
    refine z_p ?_
    refine z_p ?_
    refine sq (v_bin rfl rfl rfl (u64_shl x n (by omega))) (show _ = AV.int .u64 (lo : Nat) from congrArg (fun n : Nat => AV.int .u64 n) hlo.symm) rfl rfl rfl ?_
    refine sp (v_bin rfl rfl rfl (u64_or hc hlod (by omega) hlol)) rfl rfl rfl ?_
    refine sp (v_indexAddr rfl rfl rfl rfl rfl rfl rfl (by omega) (by omega)) rfl rfl rfl ?_
    refine ss (a_store1 rfl rfl rfl rfl trivial (fun _ => rfl) rfl rfl (by simp [u64AV]; omega)) (congrArg (fun q => [AObj.cells q 0 1 true (some 121)]) hst1) rfl rfl ?_
    refine WL.nil ?_
    refine W.region ?_
    refine z_p ?_
    refine z_p ?_
    refine sq (v_i64 rfl rfl rfl rfl (by omega) (by omega)) (show _ = AV.int .i64 ((i + 1 : Nat) : Int) from congrArg (AV.int .i64) (by omega)) rfl rfl rfl ?_
    refine z_p ?_
    refine z_p ?_
    refine sq (v_u64 rfl rfl rfl rfl (by omega) (by omega)) (show _ = AV.int .u64 ((64 - n : Nat) : Int) from congrArg (AV.int .u64) (by omega)) rfl rfl rfl ?_
    refine sq (v_bin rfl rfl rfl (u64_shr x (64 - n) (by omega))) (show _ = AV.int .u64 (up : Nat) from congrArg (fun n : Nat => AV.int .u64 n) hshr) rfl rfl rfl ?_
    refine sp (v_indexAddr rfl rfl rfl rfl rfl rfl rfl (by omega) (by omega)) rfl rfl rfl ?_
    refine ss (a_store1 rfl rfl rfl rfl trivial (fun _ => rfl) rfl rfl (by simp [u64AV]; omega)) (congrArg (fun q => [AObj.cells q 0 1 true (some 121)]) hst2) rfl rfl ?_
    refine WL.nil ?_
    refine W.region ?_
    refine z_i ?_
    refine z_p ?_
    refine WL.nil ?_
    refine ⟨L - (i + 1), _, _, by omega, ⟨i + 1, pre ++ [c + lo], up, rfl, by omega, by simp [hpl], ?_, hupl, ?_, rfl⟩, (by rw [hL]; exact (by refine ⟨?_, ?_, rfl, Nat.le_of_ble_eq_true rfl⟩ <;> repeat (first | exact trivial | exact rfl | refine ⟨rfl, ?_⟩ | refine ⟨.inr ⟨rfl, ?_⟩, ?_⟩ | refine ⟨.inl rfl, ?_⟩)))⟩
    · intro y hy
      rcases List.mem_append.1 hy with hy | hy
      · exact hps y hy
      · rw [List.mem_singleton] at hy; subst hy; simp only [LB]; exact hclo
    · rw [val_snoc, hpl, pv_succ, hga, Nat.add_mul, ← hv, Nat.pow_succ]
      have e := congrArg (LB ^ i * ·) hbal
      simp only [Nat.mul_add] at e
      rw [Nat.mul_add, Nat.mul_assoc (LB ^ i) LB up, Nat.mul_assoc (LB ^ i) x]
      simp only [LB] at e ⊢
      omega
  · have hie : i = L := by omega
    have hq : pre ++ [c] = padL (L + 1) (val LB l * 2 ^ n) := by
      have h1 : val LB (pre ++ [c]) = val LB l * 2 ^ n := by rw [val_snoc, hpl, hv, pv_all LB (by omega)]
      have h2 : Small LB (pre ++ [c]) := by
        intro y hy
        rcases List.mem_append.1 hy with hy | hy
        · exact hps y hy
        · rw [List.mem_singleton] at hy; subst hy; simp only [LB]; omega
      have e := padL_self h2
      rw [h1, show (pre ++ [c]).length = L + 1 by simp [hpl, hie]] at e
      exact e.symm
    have hfin : (u64AV ((pre ++ [c]) ++ List.replicate (L - i) 0)) = u64AV (padL (L + 1) (val LB l * 2 ^ n)) := by
      rw [hie, Nat.sub_self, hq]; simp
    rw [hfin]
    refine W.seq (W.region ?_)
    refine z_F (show ¬ (i : Int) < L by omega) ?_
    refine WL.nil ?_
    refine W.seq (W.cond_false rfl (W.exit ?_))
    refine W.seq (W.region ?_)
    refine z_p ?_
    refine z_p ?_
    refine WL.nil ?_
    exact W.ret (finO rfl rfl)
theorem moved_does (l : List Nat) (n : Nat) (hs : Small LB l) (hl : l.length ≤ 1000000) (hn : n ≤ 63) : Does Tryz.prog 175 [.row (u64AV l) l.length, .int .u64 n] (.row (u64AV (padL (l.length + 1) (val LB l * 2 ^ n))) (l.length + 1)) := by
  obtain ⟨L, hL⟩ : ∃ L, L = l.length := ⟨_, rfl⟩
  have hL1 : l.length + 1 = L + 1 := by omega
  rw [hL1]
  have h2n : (2 : Nat) ^ n ≤ 2 ^ 63 := Nat.pow_le_pow_right (by decide) hn
  refine does tab_ok Tryz.func175 rfl rfl rfl rfl rfl fun w0 H0 hk hj => ?_
  refine W.seq (W.region ?_)
  refine z_p ?_
  refine WL.nil ?_
  refine W.seq (W.region ?_)
  refine z_p ?_
  first | refine z_n ?_ | refine z_m ?_ | refine z_k ?_
  refine z_i ?_
  refine sn (a_make64 (L + 1) rfl rfl rfl (by omega) rfl rfl rfl rfl rfl rfl (by omega)) (rfl : _ = AV.sl 0 0 0 (L + 1) true) (rfl : _ = [_]) rfl rfl rfl ?_
  refine z_p ?_
  refine WL.nil ?_
  refine W.seq (W.seq (W.region ?_))
  refine z_p ?_
  first | refine z_n ?_ | refine z_m ?_ | refine z_k ?_
  refine z_p ?_
  refine WL.nil ?_
  refine W.block ?_
  refine W.while (fun m st => ∃ (i : Nat) (pre : List Nat) (c : Nat), m = L - i ∧ i ≤ L ∧ pre.length = i ∧ Small LB pre ∧ c < 2 ^ n ∧ val LB pre + LB ^ i * c = pv LB l i * 2 ^ n ∧
      st = ⟨[(0, .row (u64AV l) l.length), (1, .int .u64 n), (5, .sl 0 0 0 (L + 1) true), (12, .row (u64AV l) l.length), (13, .int .i64 L), (14, .int .i64 i)], [.cells (u64AV ((pre ++ [c]) ++ List.replicate (L - i) 0)) 0 1 true (some 121)]⟩) L
    ⟨0, [], 0, by omega, by omega, rfl, (fun x hx => by cases hx), Nat.pow_pos (by decide), by simp [pv, val], rfl⟩ (by rw [hL]; exact (by refine ⟨?_, ?_, rfl, Nat.le_of_ble_eq_true rfl⟩ <;> repeat (first | exact trivial | exact rfl | refine ⟨rfl, ?_⟩ | refine ⟨.inr ⟨rfl, ?_⟩, ?_⟩ | refine ⟨.inl rfl, ?_⟩))) ?_
  rintro m _ ⟨i, pre, c, rfl, hi, hpl, hps, hc, hv, rfl⟩
  by_cases hlt : i < L
  · have hil : i < l.length := by omega
    have hxs := hs _ (List.getElem_mem hil)
    have hga : l.getD i 0 = l[i] := by simp [List.getD, hil]
    obtain ⟨x, hx⟩ : ∃ x, x = l[i] := ⟨_, rfl⟩
    have hget : (u64AV l)[i]? = some (.int .u64 (x : Nat)) := by rw [hx]; exact u64AV_get hil
    rw [← hx] at hxs hga
    simp only [LB] at hxs
    obtain ⟨lo, hlo⟩ : ∃ lo, lo = x * 2 ^ n % 18446744073709551616 := ⟨_, rfl⟩
    obtain ⟨up, hup⟩ : ∃ up, up = x * 2 ^ n / 18446744073709551616 := ⟨_, rfl⟩
    have hbal : lo + 18446744073709551616 * up = x * 2 ^ n := by rw [hlo, hup]; exact Nat.mod_add_div _ _
    have hlol : lo < 18446744073709551616 := hlo ▸ Nat.mod_lt _ (by decide)
    have hlod : lo % 2 ^ n = 0 := hlo ▸ pow_dvd_mod (by omega)
    have hupl : up < 2 ^ n := by
      rw [hup]
      refine Nat.div_lt_of_lt_mul ?_
      exact Nat.mul_lt_mul_of_pos_right hxs (Nat.pow_pos (by decide))
    have hshr : x / 2 ^ (64 - n) = up := by
      rw [hup]
      have h : 18446744073709551616 = 2 ^ (64 - n) * 2 ^ n := by rw [← Nat.pow_add, show 64 - n + n = 64 by omega]
      rw [h, Nat.mul_div_mul_right _ _ (Nat.pow_pos (by decide))]
    have hclo : c + lo < 18446744073709551616 := by
      have h1 : lo ≤ 18446744073709551616 - 2 ^ n := by
        have h : 18446744073709551616 = 2 ^ n * 2 ^ (64 - n) := by rw [← Nat.pow_add, show n + (64 - n) = 64 by omega]
        obtain ⟨q, hq⟩ := Nat.dvd_of_mod_eq_zero hlod
        rw [hq, h] at hlol ⊢
        have hq2 : q < 2 ^ (64 - n) := Nat.lt_of_mul_lt_mul_left hlol
        have hq3 : 2 ^ n * (q + 1) ≤ 2 ^ n * 2 ^ (64 - n) := Nat.mul_le_mul_left _ hq2
        rw [Nat.mul_add, Nat.mul_one] at hq3
        omega
      omega
    have hg1 : (u64AV ((pre ++ [c]) ++ List.replicate (L - i) 0))[i]? = some (.int .u64 (c : Nat)) := by
      have h1 : ((pre ++ [c]) ++ List.replicate (L - i) 0)[i]? = some c := by
        rw [List.append_assoc, List.getElem?_append_right (by omega), hpl, Nat.sub_self]; rfl
      exact u64AV_some h1
    have hst1 : ((u64AV ((pre ++ [c]) ++ List.replicate (L - i) 0)).set (0 + (i : Int).toNat * 1) (.int .u64 ((c + lo : Nat) : Int))) = u64AV ((pre ++ [c + lo]) ++ List.replicate (L - i) 0) := by
      rw [show 0 + (i : Int).toNat * 1 = i by simp, List.append_assoc, List.append_assoc]
      simp [u64AV, List.set_append, hpl]
    have hst2 : ((u64AV ((pre ++ [c + lo]) ++ List.replicate (L - i) 0)).set (0 + ((i + 1 : Nat) : Int).toNat * 1) (.int .u64 ((up : Nat) : Int))) = u64AV (((pre ++ [c + lo]) ++ [up]) ++ List.replicate (L - (i + 1)) 0) := by
      rw [show 0 + ((i + 1 : Nat) : Int).toNat * 1 = i + 1 by rw [Int.toNat_natCast]; omega, show L - i = L - (i + 1) + 1 by omega]
      exact u64AV_set (pre ++ [c + lo]) 0 _ up _ (by simp [hpl])
    refine W.seq (W.region ?_)
    refine z_T (show (i : Int) < L by omega) ?_
    refine WL.nil ?_
    refine W.seq (W.cond_true rfl (W.skip ?_))
    refine W.seq (W.block ?_)
    refine W.seq (W.region ?_)
    refine z_p ?_
    refine sp (v_indexAddr_row rfl rfl rfl rfl rfl rfl (by omega) (by omega) (u64AV_ne hil)) rfl rfl rfl ?_
    refine sp (v_load_radr rfl rfl rfl (loadc_at rfl (Nat.mul_one _) hget)) rfl rfl rfl ?_
    refine z_p ?_
    refine z_p ?_
    refine WL.nil ?_
    refine W.seq (W.region ?_)
    refine z_p ?_
    refine z_p ?_
    refine sp (v_indexAddr rfl rfl rfl rfl rfl rfl rfl (by omega) (by omega)) rfl rfl rfl ?_
    refine sp (v_load rfl rfl rfl rfl (loadc_i rfl (show 0 + (i : Int).toNat * 1 = i by simp) hg1)) rfl rfl rfl ?_
    refine z_p ?_
    refine z_p ?_
    refine sq (v_bin rfl rfl rfl (u64_shl x n (by omega))) (show _ = AV.int .u64 (lo : Nat) from congrArg (fun n : Nat => AV.int .u64 n) hlo.symm) rfl rfl rfl ?_
    refine sp (v_bin rfl rfl rfl (u64_or hc hlod (by omega) hlol)) rfl rfl rfl ?_
    refine sp (v_indexAddr rfl rfl rfl rfl rfl rfl rfl (by omega) (by omega)) rfl rfl rfl ?_
    refine ss (a_store1 rfl rfl rfl rfl trivial (fun _ => rfl) rfl rfl (by simp [u64AV]; omega)) (congrArg (fun q => [AObj.cells q 0 1 true (some 121)]) hst1) rfl rfl ?_
    refine WL.nil ?_
    refine W.region ?_
    refine z_p ?_
    refine z_p ?_
    refine sq (v_i64 rfl rfl rfl rfl (by omega) (by omega)) (show _ = AV.int .i64 ((i + 1 : Nat) : Int) from congrArg (AV.int .i64) (by omega)) rfl rfl rfl ?_
    refine z_p ?_
    refine z_p ?_
    refine sq (v_u64 rfl rfl rfl rfl (by omega) (by omega)) (show _ = AV.int .u64 ((64 - n : Nat) : Int) from congrArg (AV.int .u64) (by omega)) rfl rfl rfl ?_
    refine sq (v_bin rfl rfl rfl (u64_shr x (64 - n) (by omega))) (show _ = AV.int .u64 (up : Nat) from congrArg (fun n : Nat => AV.int .u64 n) hshr) rfl rfl rfl ?_
    refine sp (v_indexAddr rfl rfl rfl rfl rfl rfl rfl (by omega) (by omega)) rfl rfl rfl ?_
    refine ss (a_store1 rfl rfl rfl rfl trivial (fun _ => rfl) rfl rfl (by simp [u64AV]; omega)) (congrArg (fun q => [AObj.cells q 0 1 true (some 121)]) hst2) rfl rfl ?_
    refine WL.nil ?_
    refine W.region ?_
    refine z_i ?_
    refine z_p ?_
    refine WL.nil ?_
    refine ⟨L - (i + 1), _, _, by omega, ⟨i + 1, pre ++ [c + lo], up, rfl, by omega, by simp [hpl], ?_, hupl, ?_, rfl⟩, (by rw [hL]; exact (by refine ⟨?_, ?_, rfl, Nat.le_of_ble_eq_true rfl⟩ <;> repeat (first | exact trivial | exact rfl | refine ⟨rfl, ?_⟩ | refine ⟨.inr ⟨rfl, ?_⟩, ?_⟩ | refine ⟨.inl rfl, ?_⟩)))⟩
    · intro y hy
      rcases List.mem_append.1 hy with hy | hy
      · exact hps y hy
      · rw [List.mem_singleton] at hy; subst hy; simp only [LB]; exact hclo
    · rw [val_snoc, hpl, pv_succ, hga, Nat.add_mul, ← hv, Nat.pow_succ]
      have e := congrArg (LB ^ i * ·) hbal
      simp only [Nat.mul_add] at e
      rw [Nat.mul_add, Nat.mul_assoc (LB ^ i) LB up, Nat.mul_assoc (LB ^ i) x]
      simp only [LB] at e ⊢
      omega
  · have hie : i = L := by omega
    have hq : pre ++ [c] = padL (L + 1) (val LB l * 2 ^ n) := by
      have h1 : val LB (pre ++ [c]) = val LB l * 2 ^ n := by rw [val_snoc, hpl, hv, pv_all LB (by omega)]
      have h2 : Small LB (pre ++ [c]) := by
        intro y hy
        rcases List.mem_append.1 hy with hy | hy
        · exact hps y hy
        · rw [List.mem_singleton] at hy; subst hy; simp only [LB]; omega
      have e := padL_self h2
      rw [h1, show (pre ++ [c]).length = L + 1 by simp [hpl, hie]] at e
      exact e.symm
    have hfin : (u64AV ((pre ++ [c]) ++ List.replicate (L - i) 0)) = u64AV (padL (L + 1) (val LB l * 2 ^ n)) := by
      rw [hie, Nat.sub_self, hq]; simp
    rw [hfin]
    refine W.seq (W.region ?_)
    refine z_F (show ¬ (i : Int) < L by omega) ?_
    refine WL.nil ?_
    refine W.seq (W.cond_false rfl (W.exit ?_))
    refine W.seq (W.region ?_)
    refine z_p ?_
    refine z_p ?_
    refine WL.nil ?_
    have hpl2 : (padL (L + 1) (val LB l * 2 ^ n)).length = L + 1 := by rw [← hq]; simp [hpl, hie]
    refine W.ret (fin (cs := [_]) rfl (.shut (.sl rfl (by simp [u64AV, hpl2]) (by simp)) .nil) ?_)
    simp [tupAV, List.take_of_length_le, u64AV, hpl2]
end Go.Proofs.YtmkcoifdddldgaaGreatDoor

set_option linter.unusedVariables false
set_option linter.unusedSimpArgs false
namespace Go.Proofs.YtmkcoifdddldgaaGreatDoor
open Go Go.Lens
theorem lead3 {B : Nat} {u : List Nat} {n : Nat} (hs : Small B u) (hl : u.length = n + 1) (hn : 2 ≤ n) : val B u = pv B u (n - 2) + B ^ (n - 2) * (u.getD (n - 2) 0 + B * (u.getD (n - 1) 0 + B * u.getD n 0)) := by
  have h1 := pv_succ B u n
  have h2 := pv_succ B u (n - 1)
  have h3 := pv_succ B u (n - 2)
  rw [show n - 2 + 1 = n - 1 by omega] at h3
  rw [show n - 1 + 1 = n by omega] at h2
  rw [pv_all B (show u.length ≤ n + 1 by omega)] at h1
  have e1 : B ^ (n - 2) * B = B ^ (n - 1) := by rw [← Nat.pow_succ, Nat.succ_eq_add_one, show n - 2 + 1 = n - 1 by omega]
  have e2 : B ^ (n - 1) * B = B ^ n := by rw [← Nat.pow_succ, Nat.succ_eq_add_one, show n - 1 + 1 = n by omega]
  rw [h1, h2, h3]
  simp only [Nat.mul_add, ← Nat.mul_assoc]
  rw [e1, e2]
  omega
theorem lead2 {B : Nat} {d : List Nat} {n : Nat} (hl : d.length = n) (hn : 2 ≤ n) : B ^ (n - 2) * (d.getD (n - 2) 0 + B * d.getD (n - 1) 0) ≤ val B d := by
  have h2 := pv_succ B d (n - 1)
  have h3 := pv_succ B d (n - 2)
  rw [show n - 2 + 1 = n - 1 by omega] at h3
  rw [show n - 1 + 1 = n by omega, pv_all B (show d.length ≤ n by omega)] at h2
  rw [h2, h3, Nat.mul_add, ← Nat.mul_assoc]
  have e1 : B ^ (n - 2) * B = B ^ (n - 1) := by rw [← Nat.pow_succ, Nat.succ_eq_add_one, show n - 2 + 1 = n - 1 by omega]
  rw [e1]
  omega
/-- too many -/
theorem too_many {u d : List Nat} {n m : Nat} (hu : Small LB u) (hl : u.length = n + 1) (hld : d.length = n) (hn : 2 ≤ n)
    (h : u.getD (n - 2) 0 + LB * (u.getD (n - 1) 0 + LB * u.getD n 0) < m * (d.getD (n - 2) 0 + LB * d.getD (n - 1) 0)) : val LB u / val LB d < m := by
  have h1 := lead3 hu hl hn
  have h2 := lead2 (B := LB) hld hn
  have h3 := pv_lt hu (n - 2) (by omega)
  generalize u.getD (n - 2) 0 + LB * (u.getD (n - 1) 0 + LB * u.getD n 0) = A at *
  generalize d.getD (n - 2) 0 + LB * d.getD (n - 1) 0 = E at *
  have h4 : LB ^ (n - 2) * (A + 1) ≤ LB ^ (n - 2) * (m * E) := Nat.mul_le_mul_left _ h
  have h5 : m * (LB ^ (n - 2) * E) ≤ m * val LB d := Nat.mul_le_mul_left _ h2
  rw [Nat.mul_left_comm] at h5
  rw [Nat.mul_add, Nat.mul_one] at h4
  have hlt : val LB u < m * val LB d := by omega
  have hd : 0 < val LB d := by
    rcases Nat.eq_zero_or_pos (val LB d) with h0 | h0
    · rw [h0] at hlt; simp at hlt
    · exact h0
  exact (Nat.div_lt_iff_lt_mul hd).2 hlt
/-- not by far -/
theorem not_far {u d : List Nat} {n m : Nat} (hu : Small LB u) (hd : Small LB d) (hl : u.length = n + 1) (hld : d.length = n) (hn : 2 ≤ n) (hm : m < LB)
    (h : m * d.getD (n - 1) 0 ≤ u.getD n 0 * LB + u.getD (n - 1) 0) : m * val LB d < val LB u + LB ^ n := by
  have h1 := pv_succ LB u n
  have h2 := pv_succ LB u (n - 1)
  have h3 := pv_succ LB d (n - 1)
  rw [show n - 1 + 1 = n by omega] at h2 h3
  rw [pv_all LB (show u.length ≤ n + 1 by omega)] at h1
  rw [pv_all LB (show d.length ≤ n by omega)] at h3
  have h4 := pv_lt hd (n - 1) (by omega)
  have e1 : LB ^ (n - 1) * LB = LB ^ n := by rw [← Nat.pow_succ, Nat.succ_eq_add_one, show n - 1 + 1 = n by omega]
  have h5 : LB ^ (n - 1) * (m * d.getD (n - 1) 0) ≤ LB ^ (n - 1) * (u.getD n 0 * LB + u.getD (n - 1) 0) := Nat.mul_le_mul_left _ h
  have h6 : m * pv LB d (n - 1) ≤ LB * pv LB d (n - 1) := Nat.mul_le_mul_right _ (by omega)
  have h7 : LB * (pv LB d (n - 1) + 1) ≤ LB * LB ^ (n - 1) := Nat.mul_le_mul_left _ h4
  rw [Nat.mul_comm LB (LB ^ (n - 1)), e1] at h7
  rw [h1, h2, h3, Nat.mul_add, Nat.mul_left_comm m]
  rw [Nat.mul_add (LB ^ (n - 1)), Nat.mul_comm (u.getD n 0) LB, ← Nat.mul_assoc (LB ^ (n - 1)) LB, e1] at h5
  rw [Nat.mul_add, Nat.mul_one] at h7
  have : 0 < LB := by decide
  omega
def Guess (u d : List Nat) (r : AV) : Prop := ∃ k : Nat, r = .int .u64 k ∧ k < LB ∧ val LB u / val LB d ≤ k ∧ k * val LB d < val LB u + LB ^ d.length
theorem guess_spec (u d : List Nat) (n : Nat) (hu : Small LB u) (hd : Small LB d) (hlu : u.length = n + 1) (hld : d.length = n) (hn : 2 ≤ n) (hnM : n ≤ 1000000) (hd1 : d.getD (n - 1) 0 ≠ 0) (hq : val LB u / val LB d < LB) :
    Go.Lens.Spec Tryz.prog 176 [.row (u64AV u) u.length, .row (u64AV d) d.length] [] (fun r os => Guess u d r ∧ os = []) := by
  have gu := fun i (h : i < u.length) => u64AV_get h
  have gd := fun i (h : i < d.length) => u64AV_get h
  have eu : ∀ i (h : i < u.length), u[i] = u.getD i 0 := fun i h => by simp [List.getD, h]
  have ed : ∀ i (h : i < d.length), d[i] = d.getD i 0 := fun i h => by simp [List.getD, h]
  have g0 := gu n (by omega)
  have g1 := gu (n - 1) (by omega)
  have g2 := gu (n - 2) (by omega)
  have k1 := gd (n - 1) (by omega)
  have k2 := gd (n - 2) (by omega)
  rw [eu] at g0 g1 g2
  rw [ed] at k1 k2
  have nf := fun m h0 h => not_far (m := m) hu hd hlu hld hn h0 h
  have tm := fun m h => too_many (m := m) hu hlu hld hn h
  have b0 := small_getD hu n
  have b1 := small_getD hu (n - 1)
  have b2 := small_getD hu (n - 2)
  have c1 := small_getD hd (n - 1)
  have c2 := small_getD hd (n - 2)
  obtain ⟨top, et⟩ : ∃ x, x = u.getD n 0 := ⟨_, rfl⟩
  obtain ⟨nxt, en⟩ : ∃ x, x = u.getD (n - 1) 0 := ⟨_, rfl⟩
  obtain ⟨thr, eth⟩ : ∃ x, x = u.getD (n - 2) 0 := ⟨_, rfl⟩
  obtain ⟨d1, e1⟩ : ∃ x, x = d.getD (n - 1) 0 := ⟨_, rfl⟩
  obtain ⟨d2, e2⟩ : ∃ x, x = d.getD (n - 2) 0 := ⟨_, rfl⟩
  rw [← et] at g0 b0 tm nf
  rw [← en] at g1 b1 tm nf
  rw [← eth] at g2 b2 tm
  rw [← e1] at k1 c1 tm hd1 nf
  rw [← e2] at k2 c2 tm
  obtain ⟨q, eq⟩ : ∃ q, q = val LB u / val LB d := ⟨_, rfl⟩
  have hG : ∀ k : Nat, k < LB → q ≤ k → k * d1 ≤ top * LB + nxt → Guess u d (.int .u64 k) := fun k h1 h2 h3 => ⟨k, rfl, h1, by rw [← eq]; exact h2, by rw [hld]; exact nf k h1 h3⟩
  clear nf
  rw [← eq] at tm hq
  clear gu gd eu ed et en eth e1 e2 eq
  have hni : ((n : Nat) : Int) - 1 = ((n - 1 : Nat) : Int) := by omega
  have hnj : ((n : Nat) : Int) - 2 = ((n - 2 : Nat) : Int) := by omega
  simp only [LB] at b0 b1 b2 c1 c2 hq tm hG
  refine doesX tab_ok Tryz.func176 rfl rfl rfl rfl rfl fun w0 H0 hk hj => ?_
  refine W.seq (W.region ?_)
  refine z_p ?_
  refine WL.nil ?_
  refine W.again 0 (by rfl) (fun m st => ∃ rest : Nat, m < 18446744073709551616 ∧ rest < 18446744073709551616 ∧ m * d1 + rest = top * 18446744073709551616 + nxt ∧ q ≤ m ∧
      st = ⟨[(1, .row (u64AV d) d.length), (5, .int .i64 n), (8, .int .u64 thr), (9, .int .u64 m), (10, .int .u64 rest)], []⟩) ?_ ?_
  · rintro m _ ⟨rest, hm, hr, hbal, hqm, rfl⟩
    have hmul := mul64_spec m d2 (by omega) (by omega)
    obtain ⟨hi, ehi⟩ : ∃ x, x = m * d2 / 18446744073709551616 := ⟨_, rfl⟩
    obtain ⟨lo, elo⟩ : ∃ x, x = m * d2 % 18446744073709551616 := ⟨_, rfl⟩
    have hml : lo + 18446744073709551616 * hi = m * d2 := by rw [ehi, elo]; exact Nat.mod_add_div _ _
    have hlo : lo < 18446744073709551616 := elo ▸ Nat.mod_lt _ (by decide)
    rw [← ehi, ← elo] at hmul
    have hadd := add64_ext rest d1 0 (by decide)
    rw [Nat.add_zero] at hadd
    obtain ⟨sm, esm⟩ : ∃ x, x = (rest + d1) % 18446744073709551616 := ⟨_, rfl⟩
    obtain ⟨cy, ecy⟩ : ∃ x, x = (rest + d1) / 18446744073709551616 := ⟨_, rfl⟩
    have hsc : sm + 18446744073709551616 * cy = rest + d1 := by rw [esm, ecy]; exact Nat.mod_add_div _ _
    have hsm : sm < 18446744073709551616 := esm ▸ Nat.mod_lt _ (by decide)
    rw [← esm, ← ecy] at hadd
    by_cases hA : hi < rest
    · skip
      refine W.seq (W.region ?_)
      refine z_p ?_
      refine z_p ?_
      refine z_p ?_
      refine sq (v_i64 rfl rfl rfl rfl (by omega) (by omega)) (show _ = AV.int .i64 ((n - 2 : Nat) : Int) from congrArg (AV.int .i64) hnj) rfl rfl rfl ?_
      refine sp (v_indexAddr_row rfl rfl rfl rfl rfl rfl (by omega) (by omega) (u64AV_ne (i := n - 2) (by omega))) rfl rfl rfl ?_
      refine sp (v_load_radr rfl rfl rfl (loadc_at rfl (Nat.mul_one _) k2)) rfl rfl rfl ?_
      refine z_c (hmul) ?_
      refine z_p ?_
      refine z_p ?_
      refine z_p ?_
      refine z_p ?_
      refine z_p ?_
      refine WL.nil ?_
      refine W.seq (W.seq (W.region ?_))
      refine z_p ?_
      refine z_p ?_
      refine z_T (show (hi : Int) < rest by omega) ?_
      refine z_p ?_
      refine z_o ?_
      refine z_o ?_
      refine z_o ?_
      refine z_o ?_
      refine z_o ?_
      refine z_o ?_
      refine z_o ?_
      refine z_o ?_
      refine z_p ?_
      refine WL.nil ?_
      refine W.cond_true rfl ?_
      refine W.seq (W.region ?_)
      refine z_p ?_
      refine z_p ?_
      refine WL.nil ?_
      exact W.ret (finX (cs := [.int .u64 (m : Nat)]) rfl (.shut (.plain rfl) .nil) (hG m hm hqm (by omega)))
    · by_cases hB : hi = rest ∧ lo ≤ thr
      · obtain ⟨hB1, hB2⟩ := hB
        refine W.seq (W.region ?_)
        refine z_p ?_
        refine z_p ?_
        refine z_p ?_
        refine sq (v_i64 rfl rfl rfl rfl (by omega) (by omega)) (show _ = AV.int .i64 ((n - 2 : Nat) : Int) from congrArg (AV.int .i64) hnj) rfl rfl rfl ?_
        refine sp (v_indexAddr_row rfl rfl rfl rfl rfl rfl (by omega) (by omega) (u64AV_ne (i := n - 2) (by omega))) rfl rfl rfl ?_
        refine sp (v_load_radr rfl rfl rfl (loadc_at rfl (Nat.mul_one _) k2)) rfl rfl rfl ?_
        refine z_c (hmul) ?_
        refine z_p ?_
        refine z_p ?_
        refine z_p ?_
        refine z_p ?_
        refine z_p ?_
        refine WL.nil ?_
        refine W.seq (W.seq (W.region ?_))
        refine z_p ?_
        refine z_p ?_
        refine z_F (show ¬ (hi : Int) < rest by omega) ?_
        refine z_p ?_
        refine z_p ?_
        refine z_p ?_
        refine sq (v_pure rfl) (show _ = AV.bool true from congrArg AV.bool (beq_iff_eq.2 (by omega))) rfl rfl rfl ?_
        refine z_p ?_
        refine z_p ?_
        refine z_p ?_
        refine z_T (show (lo : Int) ≤ thr by omega) ?_
        refine z_p ?_
        refine z_p ?_
        refine WL.nil ?_
        refine W.cond_true rfl ?_
        refine W.seq (W.region ?_)
        refine z_p ?_
        refine z_p ?_
        refine WL.nil ?_
        exact W.ret (finX (cs := [.int .u64 (m : Nat)]) rfl (.shut (.plain rfl) .nil) (hG m hm hqm (by omega)))
      · have hqm1 : q < m := by
          refine tm m ?_
          rw [Nat.mul_add m, Nat.mul_left_comm m]
          omega
        have hmm : ((m : Nat) : Int) - 1 = ((m - 1 : Nat) : Int) := by omega
        have hmul2 : (m - 1) * d1 + (rest + d1) = top * 18446744073709551616 + nxt := by
          have : m * d1 = (m - 1) * d1 + d1 := by rw [← Nat.succ_mul, Nat.succ_eq_add_one, show m - 1 + 1 = m by omega]
          omega
        by_cases hE : hi = rest
        refine W.seq (W.region ?_)
        refine z_p ?_
        refine z_p ?_
        refine z_p ?_
        refine sq (v_i64 rfl rfl rfl rfl (by omega) (by omega)) (show _ = AV.int .i64 ((n - 2 : Nat) : Int) from congrArg (AV.int .i64) hnj) rfl rfl rfl ?_
        refine sp (v_indexAddr_row rfl rfl rfl rfl rfl rfl (by omega) (by omega) (u64AV_ne (i := n - 2) (by omega))) rfl rfl rfl ?_
        refine sp (v_load_radr rfl rfl rfl (loadc_at rfl (Nat.mul_one _) k2)) rfl rfl rfl ?_
        refine z_c (hmul) ?_
        refine z_p ?_
        refine z_p ?_
        refine z_p ?_
        refine z_p ?_
        refine z_p ?_
        refine WL.nil ?_
        refine W.seq (W.seq (W.region ?_))
        refine z_p ?_
        refine z_p ?_
        refine z_F (show ¬ (hi : Int) < rest by omega) ?_
        refine z_p ?_
        refine z_p ?_
        refine z_p ?_
        refine sq (v_pure rfl) (show _ = AV.bool true from congrArg AV.bool (beq_iff_eq.2 (by omega))) rfl rfl rfl ?_
        refine z_p ?_
        refine z_p ?_
        refine z_p ?_
        refine z_F (show ¬ (lo : Int) ≤ thr by omega) ?_
        refine z_p ?_
        refine z_p ?_
        refine WL.nil ?_
        refine W.cond_false rfl (W.skip ?_)
        rotate_left 1
        refine W.seq (W.region ?_)
        refine z_p ?_
        refine z_p ?_
        refine z_p ?_
        refine sq (v_i64 rfl rfl rfl rfl (by omega) (by omega)) (show _ = AV.int .i64 ((n - 2 : Nat) : Int) from congrArg (AV.int .i64) hnj) rfl rfl rfl ?_
        refine sp (v_indexAddr_row rfl rfl rfl rfl rfl rfl (by omega) (by omega) (u64AV_ne (i := n - 2) (by omega))) rfl rfl rfl ?_
        refine sp (v_load_radr rfl rfl rfl (loadc_at rfl (Nat.mul_one _) k2)) rfl rfl rfl ?_
        refine z_c (hmul) ?_
        refine z_p ?_
        refine z_p ?_
        refine z_p ?_
        refine z_p ?_
        refine z_p ?_
        refine WL.nil ?_
        refine W.seq (W.seq (W.region ?_))
        refine z_p ?_
        refine z_p ?_
        refine z_F (show ¬ (hi : Int) < rest by omega) ?_
        refine z_p ?_
        refine z_p ?_
        refine z_p ?_
        refine sq (v_pure rfl) (show _ = AV.bool false from congrArg AV.bool (beq_eq_false_iff_ne.2 (by omega))) rfl rfl rfl ?_
        refine z_p ?_
        refine z_o ?_
        refine z_o ?_
        refine z_o ?_
        refine z_p ?_
        refine z_p ?_
        refine WL.nil ?_
        refine W.cond_false rfl (W.skip ?_)
        all_goals
          refine W.seq (W.region ?_)
          refine z_p ?_
          refine sq (v_u64 rfl rfl rfl rfl (by omega) (by omega)) (show _ = AV.int .u64 ((m - 1 : Nat) : Int) from congrArg (AV.int .u64) hmm) rfl rfl rfl ?_
          refine z_p ?_
          refine WL.nil ?_
          refine W.seq (W.region ?_)
          refine z_p ?_
          refine z_p ?_
          refine z_p ?_
          refine sq (v_i64 rfl rfl rfl rfl (by omega) (by omega)) (show _ = AV.int .i64 ((n - 1 : Nat) : Int) from congrArg (AV.int .i64) hni) rfl rfl rfl ?_
          refine sp (v_indexAddr_row rfl rfl rfl rfl rfl rfl (by omega) (by omega) (u64AV_ne (i := n - 1) (by omega))) rfl rfl rfl ?_
          refine sp (v_load_radr rfl rfl rfl (loadc_at rfl (Nat.mul_one _) k1)) rfl rfl rfl ?_
          refine sp (v_ext (hadd) rfl rfl rfl) rfl rfl rfl ?_
          refine z_p ?_
          refine z_p ?_
          refine z_p ?_
          refine z_p ?_
          refine z_p ?_
          refine WL.nil ?_
          refine W.seq (W.region ?_)
          refine z_p ?_
          refine z_p ?_
          refine WL.nil ?_
          by_cases hcy : cy = 0
          · have hsm2 : sm = rest + d1 := by omega
            refine W.seq (W.seq (W.region ?_))
            refine z_p ?_
            refine sq (v_pure rfl) (show _ = AV.bool true from congrArg AV.bool (beq_iff_eq.2 (by omega))) rfl rfl rfl ?_
            refine WL.nil ?_
            exact W.cond_true rfl (W.goto ⟨rfl, m - 1, _, _, by omega, ⟨sm, by omega, hsm, by omega, by omega, rfl⟩, (by refine ⟨?_, ?_, rfl, Nat.le_of_ble_eq_true rfl⟩ <;> repeat (first | exact trivial | exact rfl | refine ⟨rfl, ?_⟩ | refine ⟨.inr ⟨rfl, ?_⟩, ?_⟩ | refine ⟨.inl rfl, ?_⟩))⟩)
          · skip
            refine W.seq (W.seq (W.region ?_))
            refine z_p ?_
            refine sq (v_pure rfl) (show _ = AV.bool false from congrArg AV.bool (beq_eq_false_iff_ne.2 (by omega))) rfl rfl rfl ?_
            refine WL.nil ?_
            refine W.cond_false rfl (W.skip ?_)
            refine W.seq (W.region ?_)
            refine z_p ?_
            refine z_p ?_
            refine WL.nil ?_
            exact W.ret (finX (cs := [.int .u64 ((m - 1 : Nat) : Int)]) rfl (.shut (.plain rfl) .nil) (hG (m - 1) (by omega) (by omega) (by omega)))
  · intro hpass
    refine W.seq (W.region ?_)
    refine z_p ?_
    first | refine sq (v_len rfl rfl rfl rfl ⟨_, rfl⟩ ⟨_, _, _, _, rfl⟩) (show _ = AV.int .i64 (n : Nat) from congrArg (AV.int .i64) (by rw [hld])) rfl rfl rfl ?_ | refine sq (v_len rfl rfl rfl rfl ⟨_, rfl⟩ trivial) (show _ = AV.int .i64 (n : Nat) from congrArg (AV.int .i64) (by rw [hld])) rfl rfl rfl ?_
    refine z_p ?_
    refine WL.nil ?_
    refine W.seq (W.middleS mixed [] [17, 18, 19, 20, 21, 22, 23, 24, 25, 26, 27, 28, 29, 30] [4, 5, 6, 7, 8, 9, 10, 11, 12, 13] [] [0, 1, 2, 3] 2 rfl rfl rfl rfl rfl rfl rfl rfl rfl rfl ?_)
    apply MidVS.step
    · rfl
    · intro mo more
      refine z_p ?_
      exact z_e
    apply MidVS.step
    · rfl
    · intro mo more
      refine z_p ?_
      exact z_e
    apply MidVS.step
    · rfl
    · intro mo more
      refine sp (v_indexAddr_row rfl rfl rfl rfl rfl rfl (by omega) (by omega) (u64AV_ne (i := n) (by omega))) rfl rfl rfl ?_
      exact z_e
    apply MidVS.step
    · rfl
    · intro mo more
      refine sp (v_load_radr rfl rfl rfl (loadc_at rfl (Nat.mul_one _) g0)) rfl rfl rfl ?_
      exact z_e
    refine MidVS.done ?_
    apply MidP.step
    · intro objs more
      refine z_p ?_
      exact z_e
    apply MidP.step
    · intro objs more
      refine z_p ?_
      exact z_e
    apply MidP.step
    · intro objs more
      refine sq (v_i64 rfl rfl rfl rfl (by omega) (by omega)) (show _ = AV.int .i64 ((n - 1 : Nat) : Int) from congrArg (AV.int .i64) hni) rfl rfl rfl ?_
      exact z_e
    apply MidP.step
    · intro objs more
      refine sp (v_indexAddr_row rfl rfl rfl rfl rfl rfl (by omega) (by omega) (u64AV_ne (i := n - 1) (by omega))) rfl rfl rfl ?_
      exact z_e
    apply MidP.step
    · intro objs more
      refine sp (v_load_radr rfl rfl rfl (loadc_at rfl (Nat.mul_one _) g1)) rfl rfl rfl ?_
      exact z_e
    apply MidP.step
    · intro objs more
      refine z_p ?_
      exact z_e
    apply MidP.step
    · intro objs more
      refine z_p ?_
      exact z_e
    apply MidP.step
    · intro objs more
      refine sq (v_i64 rfl rfl rfl rfl (by omega) (by omega)) (show _ = AV.int .i64 ((n - 2 : Nat) : Int) from congrArg (AV.int .i64) hnj) rfl rfl rfl ?_
      exact z_e
    apply MidP.step
    · intro objs more
      refine sp (v_indexAddr_row rfl rfl rfl rfl rfl rfl (by omega) (by omega) (u64AV_ne (i := n - 2) (by omega))) rfl rfl rfl ?_
      exact z_e
    apply MidP.step
    · intro objs more
      refine sp (v_load_radr rfl rfl rfl (loadc_at rfl (Nat.mul_one _) g2)) rfl rfl rfl ?_
      exact z_e
    refine MidP.done ?_
    apply MidMP.val rfl
    · intro more
      refine z_p ?_
      exact z_e
    apply MidMP.val rfl
    · intro more
      refine z_p ?_
      exact z_e
    refine MidMP.done ?_
    refine MidFS.done ?_
    refine z_p ?_
    refine WL.nil ?_
    by_cases htop : top ≥ d1
    · skip
      refine W.seq (W.seq (W.region ?_))
      refine z_p ?_
      refine z_p ?_
      refine z_p ?_
      refine sq (v_i64 rfl rfl rfl rfl (by omega) (by omega)) (show _ = AV.int .i64 ((n - 1 : Nat) : Int) from congrArg (AV.int .i64) hni) rfl rfl rfl ?_
      refine sp (v_indexAddr_row rfl rfl rfl rfl rfl rfl (by omega) (by omega) (u64AV_ne (i := n - 1) (by omega))) rfl rfl rfl ?_
      refine sp (v_load_radr rfl rfl rfl (loadc_at rfl (Nat.mul_one _) k1)) rfl rfl rfl ?_
      refine z_T (show (top : Int) ≥ d1 by omega) ?_
      refine WL.nil ?_
      refine W.cond_true rfl ?_
      refine W.seq (W.region ?_)
      refine z_p ?_
      refine WL.nil ?_
      exact W.ret (finX (cs := [.int .u64 ((18446744073709551615 : Nat) : Int)]) rfl (.shut (.plain rfl) .nil) (hG 18446744073709551615 (by decide) (by omega) (by omega)))
    · have hdiv := div64_spec top nxt d1 (by omega) (by omega) (by omega)
      obtain ⟨q0, eq0⟩ : ∃ x, x = (top * 18446744073709551616 + nxt) / d1 := ⟨_, rfl⟩
      obtain ⟨r0, er0⟩ : ∃ x, x = (top * 18446744073709551616 + nxt) % d1 := ⟨_, rfl⟩
      have hb : q0 * d1 + r0 = top * 18446744073709551616 + nxt := by rw [eq0, er0, Nat.mul_comm]; exact Nat.div_add_mod _ _
      have hr0 : r0 < d1 := er0 ▸ Nat.mod_lt _ (by omega)
      have hq0 : q0 < 18446744073709551616 := by
        rw [eq0]
        refine Nat.div_lt_of_lt_mul ?_
        have : (top + 1) * 18446744073709551616 ≤ d1 * 18446744073709551616 := Nat.mul_le_mul_right _ (by omega)
        omega
      rw [← eq0, ← er0] at hdiv
      have hqq : q < q0 + 1 := by
        refine tm (q0 + 1) ?_
        have h1 : (q0 + 1) * d1 = q0 * d1 + d1 := by rw [Nat.add_mul, Nat.one_mul]
        have h2 : top * 18446744073709551616 + nxt + 1 ≤ (q0 + 1) * d1 := by omega
        have h3 := Nat.mul_le_mul_left 18446744073709551616 h2
        rw [Nat.mul_add (q0 + 1), Nat.mul_left_comm (q0 + 1)]
        omega
      refine W.seq (W.seq (W.region ?_))
      refine z_p ?_
      refine z_p ?_
      refine z_p ?_
      refine sq (v_i64 rfl rfl rfl rfl (by omega) (by omega)) (show _ = AV.int .i64 ((n - 1 : Nat) : Int) from congrArg (AV.int .i64) hni) rfl rfl rfl ?_
      refine sp (v_indexAddr_row rfl rfl rfl rfl rfl rfl (by omega) (by omega) (u64AV_ne (i := n - 1) (by omega))) rfl rfl rfl ?_
      refine sp (v_load_radr rfl rfl rfl (loadc_at rfl (Nat.mul_one _) k1)) rfl rfl rfl ?_
      refine z_F (show ¬ (top : Int) ≥ d1 by omega) ?_
      refine WL.nil ?_
      refine W.cond_false rfl (W.skip ?_)
      refine W.seq (W.region ?_)
      refine z_p ?_
      refine z_p ?_
      refine z_p ?_
      refine z_p ?_
      refine sq (v_i64 rfl rfl rfl rfl (by omega) (by omega)) (show _ = AV.int .i64 ((n - 1 : Nat) : Int) from congrArg (AV.int .i64) hni) rfl rfl rfl ?_
      refine sp (v_indexAddr_row rfl rfl rfl rfl rfl rfl (by omega) (by omega) (u64AV_ne (i := n - 1) (by omega))) rfl rfl rfl ?_
      refine sp (v_load_radr rfl rfl rfl (loadc_at rfl (Nat.mul_one _) k1)) rfl rfl rfl ?_
      refine z_c (hdiv) ?_
      refine z_p ?_
      refine z_p ?_
      refine z_p ?_
      refine z_p ?_
      refine z_p ?_
      refine WL.nil ?_
      refine W.seq (W.label ?_)
      exact W.fits (by refine ⟨?_, ?_, rfl, Nat.le_of_ble_eq_true rfl⟩ <;> repeat (first | exact trivial | exact rfl | refine ⟨rfl, ?_⟩ | refine ⟨.inr ⟨rfl, ?_⟩, ?_⟩ | refine ⟨.inl rfl, ?_⟩)) (hpass q0 _ ⟨r0, hq0, by omega, hb, by omega, rfl⟩)
end Go.Proofs.YtmkcoifdddldgaaGreatDoor
