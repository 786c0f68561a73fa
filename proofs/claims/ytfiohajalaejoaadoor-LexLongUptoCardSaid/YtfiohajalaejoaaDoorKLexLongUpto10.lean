/- Lens, part 16: what comes in, and what a law's row asks. lex: Join; layer 8: wakes, LexTells. Layer 8: wakes, LexTells. Lens, part 17: a law's row out of what the law answers. Lens, part 27: the row of a law that asks for the bound. Texts put together. strings.Repeat. LexLong: a text that is too long; Join of anything. -/
import Derived.Test.YtfiohajalaejoaaDoorKLexLongUpto9
import Derived.Carry
import Derived.WalkKit
import Derived.ProofKit
import Derived.ChangeOld
import Derived.ChangeArms
import Derived.OpenShut
import Derived.DataElems
import Derived.SizedLaws
import Derived.Lay
import Derived.LaidOnce
import Derived.SevenTiedAt
import Derived.Deep.DeepHandedRow
import Derived.Test.YtfiohajalaejoaaDoorRows

set_option linter.unusedVariables false
set_option linter.unusedSimpArgs false
namespace Go.Lens
open Go Go.RowKit

mutual
/-- the data that came in, as abstract values -/
def avOf {H : Type} : DataW H → List AV
  | .lit (.int k n) => [.int k n]
  | .lit (.bool b) => [.bool b]
  | .lit (.string l) => [.str l]
  | .nil => [.nils]
  | .slice ds _ => [.row (avOfL ds) ds.length]
  | .agg ds => avOfL ds
  | _ => [.any]
def avOfL {H : Type} : List (DataW H) → List AV
  | [] => []
  | d :: ds => avOf d ++ avOfL ds
end

/-- what is left behind by a call to which nothing was handed to be written -/
theorem Left.below {w : World} {H : View} {w' : World} {H' : View} (h : Left w H [] w' H' []) : Below w.heap.size w w' :=
  ⟨h.os, h.tape, h.output, h.size, fun k hk => h.frame k hk (fun o ob ho => by simp at ho)⟩

/-- the view of a call's beginning: nothing is known, nothing may be written -/
def View.none : View := ⟨0, fun _ => 0, fun _ => 0, fun _ => 0, fun _ => 0, fun _ => False⟩
theorem Objs.none (w : World) : Objs w View.none [] := ⟨rfl, fun o ob h => by simp at h, fun o o' ob ob' h => by simp at h, fun b h => h.elim⟩

/-- a law that answers true leaves the world as it was -/
theorem Does.calls {P : Program} {f : FuncId} {args : List AV} {r : AV} (h : Does P f args r) {w : World} {vs : List Value} (hr : RelL w args View.none vs) :
    Calls P f vs.toArray w fun e w' => ∃ v H', e = .returned v ∧ RelV w' r H' v ∧ Below w.heap.size w w' := by
  refine (h.2 View.none w vs (Objs.none w) hr).mono fun e w' ⟨r', os, H', v, he, ⟨h1, h2⟩, h3, h4⟩ => ?_
  subst h1; subst h2
  exact ⟨v, H', he, h3, h4.below⟩

/-- the fields lie one behind the other, and fill the whole -/
def tiles (T : Tab) (size : Nat) : Nat → List (Nat × TypeId) → Bool
  | n, [] => n == size
  | n, (off, t) :: fs => off == n && (match T.at t with | some y => tiles T size (n + y.size) fs | none => false)
/-- a type of whole numbers, truth values, strings, and of structs, arrays and slices of such -/
def goodT (T : Tab) : Nat → TypeId → Bool
  | 0, _ => false
  | f + 1, t => match T.at t with
    | some y => (match y.k with
      | .int _ => y.size == 1
      | .bool => y.size == 1
      | .string => y.size == 1
      | .slice e => y.size == 1 && goodT T f e
      | .array n e => goodT T f e && (match T.at e with | some ye => y.size == n * ye.size | none => false)
      | .struct fs => tiles T y.size 0 fs && fs.all (fun q => goodT T f q.2)
      | _ => false)
    | none => false

theorem mapM_some {α β : Type} {f : α → Option β} : ∀ {l : List α} {r : List β}, l.mapM f = some r → l.length = r.length ∧ ∀ (j : Nat) (x : α), l[j]? = some x → ∃ y, r[j]? = some y ∧ f x = some y
  | [], r, h => by simp at h; subst h; exact ⟨rfl, fun j x h => by simp at h⟩
  | a :: l, r, h => by
    simp only [List.mapM_cons, Option.bind_eq_bind, Option.pure_def] at h
    obtain ⟨b, h1, h2⟩ := Option.bind_eq_some_iff.1 h
    obtain ⟨r', h3, h4⟩ := Option.bind_eq_some_iff.1 h2
    injection h4 with h4; subst h4
    obtain ⟨k1, k2⟩ := mapM_some h3
    refine ⟨by simp [k1], fun j x hj => ?_⟩
    cases j with
    | zero => simp at hj; subst hj; exact ⟨b, rfl, h1⟩
    | succ j => simpa using k2 j x (by simpa using hj)

theorem tabTy {P : Program} {T : Tab} (ok : TabOK P T) {t : TypeId} {y : Ty} (h : T.at t = some y) : ∃ d i, P.underlying t = some d ∧ P.info? t = some i ∧ y.k = kOf d ∧ y.size = i.size ∧ y.bytes = i.bytes ∧ y.zero = i.zero.map fun z => z.cells.toList := tyOf_spec (ok t y h)
theorem cellsOf_tab {P : Program} {T : Tab} (ok : TabOK P T) {t : TypeId} {y : Ty} (h : T.at t = some y) : P.cellsOf t = y.size := by
  obtain ⟨d, i, _, hi, _, hs, _⟩ := tabTy ok h
  simp [Program.cellsOf, hi, hs]

theorem avOfL_append {H : Type} : ∀ (a b : List (DataW H)), avOfL (a ++ b) = avOfL a ++ avOfL b
  | [], b => by simp [avOfL]
  | d :: a, b => by simp [avOfL, avOfL_append a b, List.append_assoc]

/-- cells that are read in pieces -/
theorem pieces_rel {H : Type} {w : World} : ∀ (xs : List (DataW H × List MemPlace)) (L : Nat → List Value), (∀ i x, xs[i]? = some x → RelL w (avOf x.1) View.none (L i)) →
    RelL w (avOfL (xs.map (·.1))) View.none ((List.range xs.length).flatMap L)
  | [], L, _ => by simp [avOfL, RelL]
  | x :: xs, L, h => by
    rw [List.length_cons, List.range_succ_eq_map]
    simp only [List.map_cons, avOfL, List.flatMap_cons, List.flatMap_map]
    exact (h 0 x rfl).append (pieces_rel xs (fun i => L (i + 1)) fun i y hy => h (i + 1) y (by simpa using hy))
theorem chunks {k : Nat} : ∀ (n : Nat) (cs : List Value), cs.length = n * k → (List.range n).flatMap (fun i => (cs.drop (i * k)).take k) = cs
  | 0, cs, h => by
    have : cs = [] := List.length_eq_zero_iff.1 (by simpa using h)
    subst this; rfl
  | n + 1, cs, h => by
    rw [List.range_succ_eq_map]
    simp only [List.flatMap_cons, List.flatMap_map, Nat.zero_mul, List.drop_zero]
    have e := chunks n (cs.drop k) (by rw [List.length_drop, h, Nat.succ_mul, Nat.add_sub_cancel])
    have e2 : (fun i => (cs.drop (Nat.succ i * k)).take k) = fun i => ((cs.drop k).drop (i * k)).take k := by
      funext i; rw [List.drop_drop, Nat.succ_mul, Nat.add_comm]
    rw [e2, e, List.take_append_drop]

/-- what a reading of an argument tells -/
theorem trod_rel {H : Type} {enc : TypeId × Value → H} {P : Program} {T : Tab} (ok : TabOK P T) {w : World} : ∀ (fuel g : Nat) (t : TypeId) (cs : List Value) (d : DataW H) (ps : List MemPlace),
    DataW.trod enc P w 0 (fun _ => true) true fuel t cs = some (d, ps) → goodT T g t = true → RelL w (avOf d) View.none cs ∧ cs.length = P.cellsOf t := by
  intro fuel
  induction fuel with
  | zero => intro g t cs d ps h; simp [DataW.trod] at h
  | succ fuel ih =>
    intro g t cs d ps h hg
    cases g with
    | zero => simp [goodT] at hg
    | succ g =>
      simp only [goodT] at hg
      cases hy : T.at t with
      | none => rw [hy] at hg; cases hg
      | some y =>
        rw [hy] at hg
        obtain ⟨dd, inf, hd, _, hk, _⟩ := tabTy ok hy
        have hcell := cellsOf_tab ok hy
        simp only [hk] at hg
        cases dd <;> simp only [kOf] at hg <;> try (cases hg; done)
        case int k =>
          have hsz : y.size = 1 := by simpa using hg
          rcases cs with _ | ⟨v, _ | ⟨v2, r⟩⟩
          · simp [DataW.trod, hd] at h
          · cases v <;> simp only [DataW.trod, hd] at h <;> try (simp at h; done)
            split at h
            · rename_i hq
              injection h with h; injection h with h1 h2
              subst h1
              obtain ⟨rfl, _⟩ := hq
              exact ⟨RelL_cons rfl RelL_nil, by rw [hcell, hsz]; rfl⟩
            · cases h
          · simp [DataW.trod, hd] at h
        case bool =>
          have hsz : y.size = 1 := by simpa using hg
          rcases cs with _ | ⟨v, _ | ⟨v2, r⟩⟩
          · simp [DataW.trod, hd] at h
          · cases v <;> simp only [DataW.trod, hd] at h <;> try (simp at h; done)
            injection h with h; injection h with h1 h2
            subst h1
            exact ⟨RelL_cons rfl RelL_nil, by rw [hcell, hsz]; rfl⟩
          · simp [DataW.trod, hd] at h
        case string =>
          have hsz : y.size = 1 := by simpa using hg
          rcases cs with _ | ⟨v, _ | ⟨v2, r⟩⟩
          · simp [DataW.trod, hd] at h
          · cases v <;> simp only [DataW.trod, hd] at h <;> try (simp at h; done)
            split at h
            · injection h with h; injection h with h1 h2
              subst h1
              exact ⟨RelL_cons rfl RelL_nil, by rw [hcell, hsz]; rfl⟩
            · cases h
          · simp [DataW.trod, hd] at h
        case slice e =>
          have hsz : y.size = 1 := by simp at hg; exact hg.1
          have hge : goodT T g e = true := by simp at hg; exact hg.2
          rcases DataW.trod_slice hd h with ⟨rfl, hx⟩ | ⟨a, len, cap, elems, rest, m, hm, rfl, hx, _, hl, _, hlen, hel, _, _⟩
          · injection hx with h1 h2
            subst h1
            exact ⟨RelL_cons rfl RelL_nil, by rw [hcell, hsz]; rfl⟩
          · injection hx with h1 h2
            subst h1
            obtain rfl : fuel = m := by omega
            refine ⟨RelL_cons ?_ RelL_nil, by rw [hcell, hsz]; rfl⟩
            have hp : ∀ i x, elems[i]? = some x → RelL w (avOf x.1) View.none ((w.cells? 0 (a.add (i * P.cellsOf e)) (P.cellsOf e)).getD []) := by
              intro i x hx
              have hi : i < len := by rw [← hlen]; exact (List.getElem?_eq_some_iff.1 hx).1
              have hh := hel i hi
              rw [hx] at hh
              obtain ⟨cs, h1, h2⟩ := Option.bind_eq_some_iff.1 hh
              rw [h1]
              exact (ih g e cs x.1 x.2 h2 hge).1
            have hr := pieces_rel elems _ hp
            refine ⟨some a, cap, _, by rw [List.length_map, hlen], by rw [List.length_map, hlen]; exact hl, hr, fun _ => ⟨a, rfl, ?_, id⟩⟩
            have hat : ∀ n, n ≤ elems.length → At w a ((List.range n).flatMap fun i => (w.cells? 0 (a.add (i * P.cellsOf e)) (P.cellsOf e)).getD []) ∧ ((List.range n).flatMap fun i => (w.cells? 0 (a.add (i * P.cellsOf e)) (P.cellsOf e)).getD []).length = n * P.cellsOf e := by
              intro n
              induction n with
              | zero => intro _; exact ⟨fun j u h => by simp at h, by simp⟩
              | succ n ihn =>
                intro hn
                obtain ⟨k1, k2⟩ := ihn (by omega)
                have hh := hel n (by omega)
                rw [List.getElem?_eq_getElem (by omega)] at hh
                obtain ⟨cs, h1, h2⟩ := Option.bind_eq_some_iff.1 hh
                obtain ⟨_, hcl, hcc⟩ := World.cells?_some h1
                rw [List.range_succ, List.flatMap_append]
                simp only [List.flatMap_cons, List.flatMap_nil, List.append_nil]
                rw [h1, Option.getD_some]
                refine ⟨fun j u hj => ?_, by rw [List.length_append, k2, hcl, Nat.succ_mul]⟩
                by_cases hjl : j < n * P.cellsOf e
                · rw [List.getElem?_append_left (by rw [k2]; exact hjl)] at hj
                  exact k1 j u hj
                · rw [List.getElem?_append_right (by rw [k2]; omega), k2] at hj
                  have hlt : j - n * P.cellsOf e < P.cellsOf e := by
                    have := (List.getElem?_eq_some_iff.1 hj).1; rw [hcl] at this; exact this
                  have := hcc _ hlt
                  rw [hj, Addr.add_add] at this
                  rw [← this]
                  congr 2; omega
            exact (hat elems.length (Nat.le_refl _)).1
        case array n e =>
          obtain ⟨xs, m, hm, hx, hl, hxl, hel⟩ := DataW.trod_array hd h
          injection hx with h1 h2
          subst h1
          obtain rfl : fuel = m := by omega
          refine ⟨?_, hl⟩
          cases he : T.at e with
          | none => rw [he] at hg; simp at hg
          | some ye =>
            rw [he] at hg
            simp only [Bool.and_eq_true, beq_iff_eq] at hg
            have hce := cellsOf_tab ok he
            have hr := pieces_rel xs (fun i => (cs.drop (i * P.cellsOf e)).take (P.cellsOf e)) fun i x hx => by
              have hi : i < n := by rw [← hxl]; exact (List.getElem?_eq_some_iff.1 hx).1
              exact (ih g e _ x.1 x.2 ((hel i hi).trans hx) hg.1).1
            rw [hxl, chunks n cs (by rw [hl, hcell, hce]; exact hg.2)] at hr
            exact hr
        case struct fs =>
          obtain ⟨xs, m, hm, hx, hl, hxl, hel⟩ := DataW.trod_struct hd h
          injection hx with h1 h2
          subst h1
          obtain rfl : fuel = m := by omega
          refine ⟨?_, hl⟩
          simp only [Bool.and_eq_true] at hg
          have hgo : ∀ (l : List Field) (n : Nat) (ys : List (DataW H × List MemPlace)), tiles T y.size n (l.map fun f => (f.offset, f.type)) = true → (∀ f, f ∈ l → goodT T g f.type = true) → ys.length = l.length →
              (∀ (i : Nat) (f : Field), l[i]? = some f → DataW.trod enc P w 0 (fun _ => true) true fuel f.type ((cs.drop f.offset).take (P.cellsOf f.type)) = ys[i]?) → RelL w (avOfL (ys.map (·.1))) View.none (cs.drop n) := by
            intro l
            induction l with
            | nil =>
              intro n ys ht _ hyl _
              have : ys = [] := List.length_eq_zero_iff.1 hyl
              subst this
              have hn : n = y.size := by simpa [tiles] using ht
              rw [List.drop_of_length_le (by rw [hl, hcell, hn]; exact Nat.le_refl _)]
              exact rfl
            | cons f l ihl =>
              intro n ys ht hgd hyl hel
              cases ys with
              | nil => simp at hyl
              | cons x ys =>
                simp only [List.map_cons, tiles, Bool.and_eq_true, beq_iff_eq] at ht
                obtain ⟨hoff, ht⟩ := ht
                cases hfy : T.at f.type with
                | none => rw [hfy] at ht; cases ht
                | some yf =>
                  rw [hfy] at ht
                  have h0 := hel 0 f rfl
                  rw [hoff] at h0
                  have hx0 := (ih g f.type _ x.1 x.2 (h0.trans rfl) (hgd f (List.mem_cons_self ..))).1
                  have hr := ihl (n + yf.size) ys ht (fun f' hf' => hgd f' (List.mem_cons_of_mem _ hf')) (by simpa using hyl) fun i f' hf' => by simpa using hel (i + 1) f' (by simpa using hf')
                  rw [List.map_cons, avOfL]
                  have e : cs.drop n = (cs.drop n).take (P.cellsOf f.type) ++ cs.drop (n + yf.size) := by
                    rw [cellsOf_tab ok hfy, ← List.drop_drop, List.take_append_drop]
                  rw [e]
                  exact hx0.append hr
          have := hgo fs.toList 0 xs hg.1 (fun f hf => by
            have := List.all_eq_true.1 hg.2 (f.offset, f.type) (List.mem_map.2 ⟨f, hf, rfl⟩)
            exact this) (by simpa using hxl) (fun i f hf => hel i f (by simpa using hf))
          rw [List.drop_zero] at this
          exact this

/-- an argument, as an abstract value -/
def avArg {H : Type} : DataW H → AV
  | .agg ds => .agg (avOfL ds)
  | d => (avOf d).headD .any

theorem arg_rel {H : Type} {enc : TypeId × Value → H} {P : Program} {T : Tab} (ok : TabOK P T) {w w' : World} {r : Reach} {base g : Nat} {t : TypeId} {v : Value} {d : DataW H} {ps : List MemPlace} (hok : Value.okWide P w' r base t v)
    (h : DataW.Trod enc P w 0 (fun _ => true) true t v d ps) (hg : goodT T g t = true) : RelV w (avArg d) View.none v := by
  obtain ⟨fuel, h⟩ := h
  obtain ⟨hr, _⟩ := trod_rel ok fuel g t _ d ps h hg
  cases g with
  | zero => simp [goodT] at hg
  | succ g =>
    simp only [goodT] at hg
    cases hy : T.at t with
    | none => rw [hy] at hg; cases hg
    | some y =>
      rw [hy] at hg
      obtain ⟨dd, inf, hd, _, hk, _⟩ := tabTy ok hy
      simp only [hk] at hg
      cases dd <;> simp only [kOf] at hg <;> try (cases hg; done)
      case int k =>
        obtain ⟨n, h1, h2, _⟩ := DataW.trod_int hd h
        injection h2 with h2 h3; subst h2
        obtain ⟨u, vs, e, hu, e2⟩ := hr
        simp only [RelV] at hu; subst hu
        cases v <;> simp_all [Value.cells, Value.okWide, Cell.okWide, Cell.ok, avArg, avOf, RelV]
      case bool =>
        obtain ⟨n, h1, h2⟩ := DataW.trod_bool hd h
        injection h2 with h2 h3; subst h2
        obtain ⟨u, vs, e, hu, e2⟩ := hr
        simp only [RelV] at hu; subst hu
        cases v <;> simp_all [Value.cells, Value.okWide, Cell.okWide, Cell.ok, avArg, avOf, RelV]
      case string =>
        obtain ⟨n, h1, h2, _⟩ := DataW.trod_string hd h
        injection h2 with h2 h3; subst h2
        obtain ⟨u, vs, e, hu, e2⟩ := hr
        simp only [RelV] at hu; subst hu
        cases v <;> simp_all [Value.cells, Value.okWide, Cell.okWide, Cell.ok, avArg, avOf, RelV]
      case slice e =>
        have hv : v.cells.toList = [v] := by
          simp only [Value.okWide, hd, Cell.okWide] at hok
          cases v <;> simp_all [Cell.ok, Value.cells]
        rw [hv] at hr
        rcases DataW.trod_slice hd h with ⟨_, hx⟩ | ⟨a, len, cap, elems, rest, m, _, _, hx, _⟩
        · injection hx with h1 h2
          subst h1
          obtain ⟨u, vs, e, hu, _⟩ := hr
          injection e with e _; subst e
          exact hu
        · injection hx with h1 h2
          subst h1
          obtain ⟨u, vs, e, hu, _⟩ := hr
          injection e with e _; subst e
          exact hu
      case array n e =>
        obtain ⟨xs, m, _, hx, _⟩ := DataW.trod_array hd h
        injection hx with h1 h2
        subst h1
        simp only [Value.okWide, hd] at hok
        obtain ⟨cs, rfl, _⟩ := hok
        exact ⟨cs.toList, rfl, hr⟩
      case struct fs =>
        obtain ⟨xs, m, _, hx, _⟩ := DataW.trod_struct hd h
        injection hx with h1 h2
        subst h1
        simp only [Value.okWide, hd] at hok
        obtain ⟨cs, rfl, _⟩ := hok
        exact ⟨cs.toList, rfl, hr⟩

theorem args_rel {H : Type} {enc : TypeId × Value → H} {P : Program} {T : Tab} (ok : TabOK P T) {w w' : World} {r : Reach} {base g : Nat} : ∀ {ts : List TypeId} {vs : List Value} {ds : List (DataW H)} {ps : List MemPlace},
    (∀ (j : Nat) t v, ts[j]? = some t → vs[j]? = some v → Value.okWide P w' r base t v) → DataW.TrodAll enc P w 0 (fun _ => true) true ts vs ds ps → ts.all (goodT T g) = true → RelL w (ds.map avArg) View.none vs
  | [], [], [], _, _, _, _ => rfl
  | t :: ts, v :: vs, d :: ds, _, hok, ⟨p, q, h1, h2, _⟩, hg => by
    simp only [List.all_cons, Bool.and_eq_true] at hg
    exact RelL_cons (arg_rel ok (hok 0 t v rfl rfl) h1 hg.1) (args_rel ok (fun j t v ht hv => hok (j + 1) t v (by simpa using ht) (by simpa using hv)) h2 hg.2)
  | [], [], _ :: _, _, _, h, _ => h.elim
  | [], _ :: _, _, _, _, h, _ => h.elim
  | _ :: _, [], _, _, _, h, _ => h.elim
  | _ :: _, _ :: _, [], _, _, h, _ => h.elim

/-- what a type says of data -/
def shapes {H : Type} (p : TypeId → DataW H → Prop) : List TypeId → List (DataW H) → Prop
  | [], ds => ds = []
  | t :: ts, ds => ∃ d r, ds = d :: r ∧ p t d ∧ shapes p ts r
def shapeT {H : Type} (T : Tab) : Nat → TypeId → DataW H → Prop
  | 0, _, _ => True
  | f + 1, t, d => match T.at t with
    | some y => (match y.k with
      | .int k => ∃ n, d = .lit (.int k n) ∧ (Lit.int k n).wf = true
      | .bool => ∃ b, d = .lit (.bool b)
      | .string => ∃ l, d = .lit (.string l) ∧ l.length ≤ maxLen
      | .slice e => d = .nil ∨ ∃ ds rest, d = .slice ds rest ∧ ds.length ≤ maxLen ∧ ∀ x ∈ ds, shapeT T f e x
      | .array n e => ∃ ds, d = .agg ds ∧ ds.length = n ∧ ∀ x ∈ ds, shapeT T f e x
      | .struct fs => ∃ ds, d = .agg ds ∧ shapes (shapeT T f) (fs.map (·.2)) ds
      | _ => True)
    | none => True

theorem shapes_of {H : Type} {p : TypeId → DataW H → Prop} : ∀ {ts : List TypeId} {ds : List (DataW H)}, ts.length = ds.length → (∀ (j : Nat) t d, ts[j]? = some t → ds[j]? = some d → p t d) → shapes p ts ds
  | [], [], _, _ => rfl
  | t :: ts, d :: ds, hl, h => ⟨d, ds, rfl, h 0 t d rfl rfl, shapes_of (by simpa using hl) fun j t d ht hd => h (j + 1) t d (by simpa using ht) (by simpa using hd)⟩
  | [], _ :: _, hl, _ => by simp at hl
  | _ :: _, [], hl, _ => by simp at hl

theorem trod_shape {H : Type} {enc : TypeId × Value → H} {P : Program} {T : Tab} (ok : TabOK P T) {w : World} : ∀ (fuel g : Nat) (t : TypeId) (cs : List Value) (x : DataW H × List MemPlace),
    DataW.trod enc P w 0 (fun _ => true) true fuel t cs = some x → shapeT T g t x.1 := by
  intro fuel
  induction fuel with
  | zero => intro g t cs x h; simp [DataW.trod] at h
  | succ fuel ih =>
    intro g t cs x h
    cases g with
    | zero => trivial
    | succ g =>
      simp only [shapeT]
      cases hy : T.at t with
      | none => trivial
      | some y =>
        obtain ⟨dd, inf, hd, _, hk, _⟩ := tabTy ok hy
        simp only [hk]
        cases dd <;> simp only [kOf]
        case int k => obtain ⟨n, _, rfl, hw⟩ := DataW.trod_int hd h; exact ⟨n, rfl, hw⟩
        case bool => obtain ⟨n, _, rfl⟩ := DataW.trod_bool hd h; exact ⟨n, rfl⟩
        case string => obtain ⟨s, _, rfl, hs⟩ := DataW.trod_string hd h; exact ⟨_, rfl, hs⟩
        case slice e =>
          rcases DataW.trod_slice hd h with ⟨_, rfl⟩ | ⟨a, len, cap, elems, rest, m, hm, _, rfl, _, hl, hc, hlen, hel, _, _⟩
          · exact .inl rfl
          · obtain rfl : fuel = m := by omega
            refine .inr ⟨_, _, rfl, by rw [List.length_map, hlen]; exact Nat.le_trans hl hc, fun d hd => ?_⟩
            obtain ⟨z, hz, rfl⟩ := List.mem_map.1 hd
            obtain ⟨i, hi⟩ := List.getElem?_of_mem hz
            have hh := hel i (by rw [← hlen]; exact (List.getElem?_eq_some_iff.1 hi).1)
            rw [hi] at hh
            obtain ⟨cs', _, h2⟩ := Option.bind_eq_some_iff.1 hh
            exact ih g e cs' z h2
        case array n e =>
          obtain ⟨xs, m, hm, rfl, _, hxl, hel⟩ := DataW.trod_array hd h
          obtain rfl : fuel = m := by omega
          refine ⟨_, rfl, by rw [List.length_map, hxl], fun d hd => ?_⟩
          obtain ⟨z, hz, rfl⟩ := List.mem_map.1 hd
          obtain ⟨i, hi⟩ := List.getElem?_of_mem hz
          have hh := hel i (by rw [← hxl]; exact (List.getElem?_eq_some_iff.1 hi).1)
          rw [hi] at hh
          exact ih g e _ z hh
        case struct fs =>
          obtain ⟨xs, m, hm, rfl, _, hxl, hel⟩ := DataW.trod_struct hd h
          obtain rfl : fuel = m := by omega
          refine ⟨_, rfl, shapes_of (by simp [hxl]) fun j t d ht hd => ?_⟩
          simp only [List.map_map, List.getElem?_map, Option.map_eq_some_iff, Array.getElem?_toList] at ht hd
          obtain ⟨f, hf, rfl⟩ := ht
          obtain ⟨z, hz, rfl⟩ := hd
          exact ih g _ _ z ((hel j f hf).trans hz)

theorem args_shape {H : Type} {enc : TypeId × Value → H} {P : Program} {T : Tab} (ok : TabOK P T) {w : World} {g : Nat} : ∀ {ts : List TypeId} {vs : List Value} {ds : List (DataW H)} {ps : List MemPlace},
    DataW.TrodAll enc P w 0 (fun _ => true) true ts vs ds ps → shapes (shapeT T g) ts ds
  | [], [], [], _, _ => rfl
  | t :: ts, v :: vs, d :: ds, _, ⟨p, q, ⟨fuel, h1⟩, h2, _⟩ => ⟨d, ds, rfl, trod_shape ok fuel g t _ (d, p) h1, args_shape ok h2⟩
  | [], [], _ :: _, _, h => h.elim
  | [], _ :: _, _, _, h => h.elim
  | _ :: _, [], _, _, h => h.elim
  | _ :: _, _ :: _, [], _, h => h.elim
theorem shapes.length {H : Type} {p : TypeId → DataW H → Prop} : ∀ {ts : List TypeId} {ds : List (DataW H)}, shapes p ts ds → ds.length = ts.length
  | [], _, h => by cases h; rfl
  | _ :: _, _, ⟨_, _, rfl, _, h⟩ => by simp [shapes.length h]

/-- the arguments read behind the call as they did ahead of it -/
theorem Below.trodAll {H : Type} {enc : TypeId × Value → H} {P : Program} (hl : laidOutB P = true) {W W' : World} (hb : Below W.heap.size W W') : ∀ {ts : List TypeId} {vs : List Value} {ds : List (DataW H)} {ps : List MemPlace},
    ts.all (fun t => P.readableRec t && decide (t < P.types.size)) = true → DataW.TrodAll enc P W 0 (fun _ => true) true ts vs ds ps → DataW.TrodAll enc P W' 0 (fun b => decide (b < W.heap.size)) true ts vs ds ps
  | [], [], [], _, _, h => h
  | t :: ts, v :: vs, d :: ds, _, hg, ⟨p, q, h1, h2, e⟩ => by
    simp only [List.all_cons, Bool.and_eq_true, decide_eq_true_eq] at hg
    refine ⟨p, q, Below.trod hl hg.1.1 hg.1.2 h1 hb ?_, Below.trodAll hl hb hg.2 h2, e⟩
    obtain ⟨m, hm⟩ := h1
    exact DataW.trod_lt m _ _ _ hm
  | [], [], _ :: _, _, _, h => h.elim
  | [], _ :: _, _, _, _, h => h.elim
  | _ :: _, [], _, _, _, h => h.elim
  | _ :: _, _ :: _, [], _, _, h => h.elim

/-- the first so many -/
theorem min_nat (n k : Nat) : AV.int .i64 (if (k : Int) < (n : Int) then (k : Int) else (n : Int)) = .int .i64 ((min n k : Nat) : Int) := by
  congr 1
  split
  · rw [Nat.min_eq_right (by omega)]
  · rw [Nat.min_eq_left (by omega)]
theorem str_take3 (s : List UInt8) (k : Nat) : AV.str ((s.drop 0).take (((min s.length k : Nat) : Int).toNat - 0)) = .str (s.take k) := by
  congr 1
  rw [Int.toNat_natCast, Nat.sub_zero, List.drop_zero]
  rcases Nat.le_total s.length k with h | h
  · rw [Nat.min_eq_left h, List.take_of_length_le (Nat.le_refl _), List.take_of_length_le h]
  · rw [Nat.min_eq_right h]
end Go.Lens

set_option linter.unusedVariables false
set_option linter.unusedSimpArgs false
namespace Go.Proofs.YtfiohajalaejoaaDoor
open Go Go.Lens

/-! ### reckoned -/
def skipN : Nat → List UInt8 → List UInt8
  | 0, s => s
  | n + 1, s => match s.dropWhile isBlank with | [] => [] | c :: r => if c = 35 then skipN n (r.dropWhile (· != 10)) else c :: r
theorem skipN_eq : ∀ (n : Nat) (s : List UInt8), s.length < n → skipF s = skipN n s := by
  intro n
  induction n with
  | zero => intro s h; omega
  | succ n ih =>
    intro s h
    rw [skipN]
    split
    · rename_i h1; rw [skipF_stop (by rw [h1]; simp), h1]
    · rename_i c r h1
      split
      · rename_i hc
        subst hc
        rw [skipF_rem h1]
        have h2 := (List.dropWhile_suffix (l := s) isBlank).length_le
        have h3 := (List.dropWhile_suffix (l := r) (· != (10 : UInt8))).length_le
        rw [h1] at h2; simp at h2
        exact ih _ (by omega)
      · rename_i hc; rw [skipF_stop (by rw [h1]; simpa using hc), h1]
def skipC (s : List UInt8) : List UInt8 := skipN (s.length + 1) s
theorem skipC_eq (s : List UInt8) : skipF s = skipC s := skipN_eq _ s (Nat.lt_succ_self _)
def lexC : Nat → List Tok → Nat → List UInt8 → List Tok × Nat × Int
  | 0, acc, _, _ => (acc, 0, 0)
  | _ + 1, acc, _, [] => (acc, 0, 0)
  | n + 1, acc, a, c :: r =>
    if (tokF (c :: r)).1 ≠ 0 then ([], a, (tokF (c :: r)).1) else
      lexC n (acc ++ [((tokF (c :: r)).2.1, (tokF (c :: r)).2.2, a)]) (a + (tokF (c :: r)).2.2.length + (((c :: r).drop (tokF (c :: r)).2.2.length).length - (skipC ((c :: r).drop (tokF (c :: r)).2.2.length)).length)) (skipC ((c :: r).drop (tokF (c :: r)).2.2.length))
theorem lexC_eq : ∀ (n : Nat) (acc : List Tok) (a : Nat) (s : List UInt8), lexN n acc a s = lexC n acc a s
  | 0, _, _, _ => rfl
  | n + 1, acc, a, [] => rfl
  | n + 1, acc, a, c :: r => by
    rw [lexN, lexC]
    split
    · rfl
    · rw [skipC_eq, lexC_eq n]
def lexD (s : List UInt8) : List Tok × Nat × Int := lexC (s.length + 1) [] (s.length - (skipC s).length) (skipC s)
theorem lexD_eq (s : List UInt8) : lexF s = lexD s := by rw [lexF, lexD, skipC_eq, lexC_eq]

theorem toks_drop (l : List Tok) (i : Nat) (h : i < l.length) : (toksAV l).drop (((i : Nat) : Int).toNat * 3) = tok3 l[i] ++ toksAV (l.drop (i + 1)) := by
  rw [Int.toNat_natCast]
  induction i generalizing l with
  | zero =>
    cases l with
    | nil => simp at h
    | cons x l => rfl
  | succ i ih =>
    cases l with
    | nil => simp at h
    | cons x l =>
      have := ih l (by simpa using h)
      rw [show (i + 1) * 3 = 3 + i * 3 by omega, ← List.drop_drop]
      exact this
theorem toksAV_ne {l : List Tok} {i : Nat} (h : i < l.length) : toksAV l ≠ [] := by
  intro e
  have := toksAV_length l
  rw [e] at this
  simp at this
  omega
def texts (l : List Tok) : List (List UInt8) := l.map (·.2.1)

/-! ### Join -/
theorem lexJoin_spec (l : List Tok) (hl : l.length ≤ 8796093022207) (hj : (Lib.join (texts l) [32]).length ≤ 140737488355328) : Does Tryd.prog 20 [toksRow l] (.str (Lib.join (texts l) [32])) := by
  refine does tab_ok Tryd.func20 rfl rfl rfl rfl rfl fun w0 H0 hk hj' => ?_
  refine W.slots 1 (show W _ _ ⟨_, [.slot]⟩ _ from ?_)
  --@ n 1
  refine W.seq (W.region ?_)
  refine z_p ?_
  refine WL.nil ?_
  refine W.seq (W.region ?_)
  refine z_p ?_
  refine WL.nil ?_
  refine W.seq (W.seq (W.region ?_))
  refine z_p ?_
  refine sq (v_len rfl rfl rfl rfl ⟨_, rfl⟩ trivial) (show _ = AV.int .i64 (l.length : Nat) from rfl) rfl rfl rfl ?_
  refine z_p ?_
  refine WL.nil ?_
  refine W.block ?_
  refine W.while (fun m st => ∃ (i : Nat) (q : List (List UInt8)), m = l.length - i ∧ i ≤ l.length ∧ q = texts (l.take i) ∧ st = ⟨[(3, gV 0 q.length), (6, toksRow l), (7, .int .i64 (l.length : Nat)), (8, .int .i64 (i : Nat))], [gO 9 1 (strsAV q) q.length]⟩) l.length
    ⟨0, [], rfl, by omega, rfl, rfl⟩ (by refine ⟨?_, ?_, rfl, Nat.le_of_ble_eq_true rfl⟩ <;> repeat (first | exact trivial | exact rfl | refine ⟨rfl, ?_⟩ | refine ⟨.inr ⟨rfl, ?_⟩, ?_⟩ | refine ⟨.inl rfl, ?_⟩)) ?_
  rintro m _ ⟨i, q, rfl, hi, hq, rfl⟩
  by_cases hlt : i < l.length
  · obtain ⟨x, hx⟩ : ∃ x, x = l[i] := ⟨_, rfl⟩
    have hdr := toks_drop l i hlt
    rw [← hx] at hdr
    have hql : q.length = i := by rw [hq, texts, List.length_map, List.length_take]; omega
    have happ : strsAV q ++ [.str x.2.1] = strsAV (q ++ [x.2.1]) := by simp [strsAV]
    have hal : (q ++ [x.2.1]).length = q.length + 1 := by simp
    have hq2 : q ++ [x.2.1] = texts (l.take (i + 1)) := by rw [List.take_succ_eq_append_getElem hlt, ← hx, hq]; simp [texts]
    refine W.seq (W.region ?_)
    refine z_T (show (i : Int) < l.length by omega) ?_
    refine WL.nil ?_
    refine W.seq (W.cond_true rfl (W.skip ?_))
    refine W.seq (W.block ?_)
    refine W.seq (W.region ?_)
    refine sq (v_indexAddr_row rfl rfl rfl rfl rfl rfl (by omega) (by omega) (toksAV_ne hlt)) (show _ = AV.radr (tok3 x ++ toksAV (l.drop (i + 1))) from congrArg AV.radr hdr) rfl rfl rfl ?_
    first | refine z_l3 ?_ | refine z_r3 ?_
    refine z_a 1 [_, _] ?_
    refine z_s [_, _] ?_
    refine WL.nil ?_
    refine W.region ?_
    refine z_p ?_
    first | refine z_f ?_ | refine z_g ?_
    first | refine z_l ?_ | refine z_r ?_
    refine sq (v_buildRow rfl rfl rfl rfl rfl rfl rfl (Nat.le_of_ble_eq_true rfl) (Nat.le_of_ble_eq_true rfl) rfl rfl rfl rfl) (rfl : _ = AV.row [_] 1) rfl rfl rfl ?_
    refine sn (v_gr (n := q.length) (ds := [.str x.2.1]) 0 rfl rfl rfl rfl (by simp [strsAV]) rfl rfl rfl rfl rfl rfl rfl rfl (by decide) rfl (by show (q.length + 1) * 16 ≤ _; omega) (by omega)) (show _ = gV 0 (q ++ [x.2.1]).length by rw [hal]) (show _ = [gO 9 1 (strsAV (q ++ [x.2.1])) (q ++ [x.2.1]).length, AObj.cells (tok3 x) 0 1 false none] by rw [← happ, hal]; rfl) rfl rfl rfl ?_
    refine z_p ?_
    refine WL.nil ?_
    refine W.region ?_
    refine z_i ?_
    refine z_p ?_
    refine WL.nil ?_
    exact ⟨l.length - (i + 1), _, _, by omega, ⟨i + 1, q ++ [x.2.1], rfl, by omega, hq2, rfl⟩, (by cases q <;> exact (by refine ⟨?_, ?_, rfl, Nat.le_of_ble_eq_true rfl⟩ <;> repeat (first | exact trivial | exact rfl | refine ⟨rfl, ?_⟩ | refine ⟨.inr ⟨rfl, ?_⟩, ?_⟩ | refine ⟨.inl rfl, ?_⟩)))⟩
  · have hie : i = l.length := by omega
    subst hie
    rw [List.take_length] at hq
    have hjoin := join_spec q [32] (by rw [hq, texts, List.length_map]; omega) (by rw [hq]; exact hj)
    rw [← hq]
    clear hq
    refine W.seq (W.region ?_)
    refine z_F (show ¬ (l.length : Int) < l.length by omega) ?_
    refine WL.nil ?_
    refine W.seq (W.cond_false rfl (W.exit ?_))
    cases q with
    | nil =>
      refine W.seq (W.region ?_)
      refine sp (VStep.sub (v_pure rfl) Sub.nils) rfl rfl rfl ?_
      refine z_c (hjoin) ?_
      refine z_p ?_
      refine WL.nil ?_
      exact W.ret (fin rfl (.shut (.plain rfl) .nil) rfl)
    | cons g r =>
      refine W.seq (W.region ?_)
      refine z_p ?_
      refine sk hjoin rfl rfl rfl rfl (.lend rfl (by simp [strsAV]) (.plain rfl .nil)) (by simp [strsAV, List.take_of_length_le]) rfl (one_mine rfl) rfl rfl rfl rfl ?_
      refine z_p ?_
      refine WL.nil ?_
      exact W.ret (fin rfl (.shut (.plain rfl) .nil) rfl)

end Go.Proofs.YtfiohajalaejoaaDoor

set_option linter.unusedVariables false
set_option linter.unusedSimpArgs false
namespace Go.Proofs.YtfiohajalaejoaaDoor
open Go Go.Lens

def txtA : List UInt8 := [114, 97, 116, 101, 61, 52, 46, 50, 53, 59, 32, 35, 32, 121, 101, 115]
def txtB : List UInt8 := [97, 32, 49, 46]
def txtC : List UInt8 := [50, 48, 50, 52, 45, 48, 50, 45, 50, 57, 44, 45, 51]
def tokA : List Tok := [(0, [114, 97, 116, 101], 0), (3, [61], 4), (1, [52, 46, 50, 53], 5), (3, [59], 9)]
def tokC : List Tok := [(2, [50, 48, 50, 52, 45, 48, 50, 45, 50, 57], 0), (3, [44], 10), (1, [45, 51], 11)]
theorem lexA : lexTop txtA = (tokA, 0, 0) := by rw [lexTop, if_neg (by decide), lexD_eq]; decide +kernel
theorem lexB : lexTop txtB = ([], 2, 5) := by rw [lexTop, if_neg (by decide), lexD_eq]; decide +kernel
theorem lexCC : lexTop txtC = (tokC, 0, 0) := by rw [lexTop, if_neg (by decide), lexD_eq]; decide +kernel

theorem wakes08_spec : Does Tryd.prog 19 [] (.bool true) := by
  have ha := lex_spec txtA (by decide)
  have hb := lex_spec txtB (by decide)
  have hc := lex_spec txtC (by decide)
  rw [lexA] at ha
  rw [lexB] at hb
  rw [lexCC] at hc
  have hj' := lexJoin_spec tokC (by decide) (by decide)
  have ej : Lib.join (texts tokC) [32] = [50, 48, 50, 52, 45, 48, 50, 45, 50, 57, 32, 44, 32, 45, 51] := by decide
  rw [ej] at hj'
  have d2 : (toksAV tokA).drop (((2 : Nat) : Int).toNat * 3) = tok3 (1, [52, 46, 50, 53], 5) ++ toksAV [(3, [59], 9)] := rfl
  have d0 : (toksAV tokC).drop (((0 : Nat) : Int).toNat * 3) = tok3 (2, [50, 48, 50, 52, 45, 48, 50, 45, 50, 57], 0) ++ toksAV [(3, [44], 10), (1, [45, 51], 11)] := rfl
  refine does tab_ok Tryd.func19 rfl rfl rfl rfl rfl fun w0 H0 hk hj => ?_
  refine W.seq (W.region ?_)
  refine z_p ?_
  refine WL.nil ?_
  refine W.seq (W.region ?_)
  refine z_c (ha) ?_
  refine z_p ?_
  refine z_p ?_
  refine z_p ?_
  refine z_p ?_
  refine z_p ?_
  refine z_p ?_
  refine z_p ?_
  refine WL.nil ?_
  refine W.seq (W.region ?_)
  refine z_c (hb) ?_
  refine z_p ?_
  refine z_p ?_
  refine z_p ?_
  refine z_p ?_
  refine z_p ?_
  refine z_p ?_
  refine z_p ?_
  refine WL.nil ?_
  refine W.seq (W.region ?_)
  refine z_c (hc) ?_
  refine z_p ?_
  refine z_p ?_
  refine z_p ?_
  refine z_p ?_
  refine z_p ?_
  refine z_p ?_
  refine z_p ?_
  refine WL.nil ?_
  refine W.seq (W.region ?_)
  refine z_p ?_
  refine sq (v_pure rfl) (show _ = AV.bool true from rfl) rfl rfl rfl ?_
  refine z_p ?_
  refine z_p ?_
  refine sq (v_len rfl rfl rfl rfl ⟨_, rfl⟩ trivial) (show _ = AV.int .i64 4 from rfl) rfl rfl rfl ?_
  refine sq (v_pure rfl) (show _ = AV.bool true from rfl) rfl rfl rfl ?_
  refine z_p ?_
  refine z_p ?_
  refine z_p ?_
  refine sq (v_indexAddr_row rfl rfl rfl rfl rfl rfl (by decide) (by decide) (by decide)) (show _ = AV.radr (tok3 (1, [52, 46, 50, 53], 5) ++ toksAV [(3, [59], 9)]) from congrArg AV.radr d2) rfl rfl rfl ?_
  first | refine z_f ?_ | refine z_g ?_
  first | refine z_l ?_ | refine z_r ?_
  refine sq (v_pure rfl) (show _ = AV.bool true from rfl) rfl rfl rfl ?_
  refine z_p ?_
  refine z_p ?_
  refine z_p ?_
  refine sq (v_indexAddr_row rfl rfl rfl rfl rfl rfl (by decide) (by decide) (by decide)) (show _ = AV.radr (tok3 (1, [52, 46, 50, 53], 5) ++ toksAV [(3, [59], 9)]) from congrArg AV.radr d2) rfl rfl rfl ?_
  first | refine z_f ?_ | refine z_g ?_
  first | refine z_l ?_ | refine z_r ?_
  refine sq (v_pure rfl) (show _ = AV.bool true from rfl) rfl rfl rfl ?_
  refine z_p ?_
  refine z_p ?_
  refine z_p ?_
  refine sq (v_indexAddr_row rfl rfl rfl rfl rfl rfl (by decide) (by decide) (by decide)) (show _ = AV.radr (tok3 (1, [52, 46, 50, 53], 5) ++ toksAV [(3, [59], 9)]) from congrArg AV.radr d2) rfl rfl rfl ?_
  first | refine z_f ?_ | refine z_g ?_
  first | refine z_l ?_ | refine z_r ?_
  refine sq (v_pure rfl) (show _ = AV.bool true from rfl) rfl rfl rfl ?_
  refine z_p ?_
  refine z_p ?_
  refine z_p ?_
  refine sq (v_pure rfl) (show _ = AV.bool true from rfl) rfl rfl rfl ?_
  refine z_p ?_
  refine z_p ?_
  refine z_p ?_
  refine sq (v_pure rfl) (show _ = AV.bool true from rfl) rfl rfl rfl ?_
  refine z_p ?_
  refine z_p ?_
  refine z_p ?_
  refine sq (v_pure rfl) (show _ = AV.bool true from rfl) rfl rfl rfl ?_
  refine z_p ?_
  refine z_p ?_
  refine z_p ?_
  refine sq (v_len rfl rfl rfl rfl ⟨_, rfl⟩ trivial) (show _ = AV.int .i64 3 from rfl) rfl rfl rfl ?_
  refine sq (v_pure rfl) (show _ = AV.bool true from rfl) rfl rfl rfl ?_
  refine z_p ?_
  refine z_p ?_
  refine z_p ?_
  refine sq (v_indexAddr_row rfl rfl rfl rfl rfl rfl (by decide) (by decide) (by decide)) (show _ = AV.radr (tok3 (2, [50, 48, 50, 52, 45, 48, 50, 45, 50, 57], 0) ++ toksAV [(3, [44], 10), (1, [45, 51], 11)]) from congrArg AV.radr d0) rfl rfl rfl ?_
  first | refine z_f ?_ | refine z_g ?_
  first | refine z_l ?_ | refine z_r ?_
  refine sq (v_pure rfl) (show _ = AV.bool true from rfl) rfl rfl rfl ?_
  refine z_p ?_
  refine z_p ?_
  refine z_p ?_
  refine z_c (hj') ?_
  refine sq (v_pure rfl) (show _ = AV.bool true from rfl) rfl rfl rfl ?_
  refine z_p ?_
  refine z_p ?_
  refine WL.nil ?_
  exact W.ret (fin rfl (.shut (.plain rfl) .nil) rfl)

theorem lexN_len : ∀ (n : Nat) (acc : List Tok) (a : Nat) (s : List UInt8), (lexN n acc a s).1.length ≤ acc.length + s.length
  | 0, acc, _, s => Nat.le_add_right _ _
  | n + 1, acc, a, [] => Nat.le_add_right _ _
  | n + 1, acc, a, c :: r => by
    rw [lexN]
    split
    · simp
    · rename_i h
      have hpre := tok_pre (s := c :: r) (by simpa using h)
      have ht0 : 0 < (tokF (c :: r)).2.2.length := List.length_pos_iff.2 hpre.2
      have htl := hpre.1.length_le
      have h1 := lexN_len n (acc ++ [((tokF (c :: r)).2.1, (tokF (c :: r)).2.2, a)]) (a + (tokF (c :: r)).2.2.length + (((c :: r).drop (tokF (c :: r)).2.2.length).length - (skipF ((c :: r).drop (tokF (c :: r)).2.2.length)).length)) (skipF ((c :: r).drop (tokF (c :: r)).2.2.length))
      have h2 := (skipF_suf ((c :: r).drop (tokF (c :: r)).2.2.length)).length_le
      rw [List.length_drop] at h2
      rw [List.length_append, List.length_singleton] at h1
      omega
theorem lexF_len (s : List UInt8) : (lexF s).1.length ≤ s.length := by
  have h1 := lexN_len (s.length + 1) [] (s.length - (skipF s).length) (skipF s)
  have h2 := (skipF_suf s).length_le
  rw [lexF]
  simp only [List.length_nil] at h1
  omega
/-! ### LexTells -/
set_option maxHeartbeats 1600000 in
theorem lexTells_spec (s0 : List UInt8) (hs0 : s0.length ≤ 9223372036854775807) : Does Tryd.prog 6 [.str s0] (.bool true) := by
  obtain ⟨s, hse⟩ : ∃ s, s = s0.take 1000 := ⟨_, rfl⟩
  have hsl : s.length ≤ 1000 := by rw [hse, List.length_take]; omega
  have h1 := lex_spec s (by omega)
  have h2 := rLex_spec s (by omega)
  rw [lexTop, if_neg (by omega)] at h1
  obtain ⟨R, hR⟩ : ∃ R, R = lexF s := ⟨_, rfl⟩
  rw [← hR] at h1 h2
  have hlen := lexF_len s
  rw [← hR] at hlen
  obtain ⟨l, n, e⟩ := R
  simp only at h1 h2 hlen
  have hll : l.length ≤ 9223372036854775807 := by omega
  refine does tab_ok Tryd.func6 rfl rfl rfl rfl rfl fun w0 H0 hk hj => ?_
  refine W.seq (W.region ?_)
  refine z_p ?_
  refine WL.nil ?_
  refine W.seq (W.region ?_)
  refine z_p ?_
  refine z_p ?_
  refine sp (v_len rfl rfl rfl rfl rfl trivial) rfl rfl rfl ?_
  refine sq (v_min2 rfl rfl rfl) (show _ = AV.int .i64 ((min s0.length 1000 : Nat) : Int) from min_nat _ 1000) rfl rfl rfl ?_
  refine sq (v_slice_str rfl rfl rfl rfl rfl ⟨_, _, rfl, by omega, rfl⟩ (by omega) (by omega)) (show _ = AV.str s from (str_take3 s0 1000).trans (congrArg AV.str hse.symm)) rfl rfl rfl ?_
  refine z_p ?_
  refine WL.nil ?_
  refine W.seq (W.region ?_)
  refine z_p ?_
  refine z_c (h1) ?_
  refine z_p ?_
  refine z_p ?_
  refine z_p ?_
  refine z_p ?_
  refine z_p ?_
  refine z_p ?_
  refine z_p ?_
  refine WL.nil ?_
  refine W.seq (W.region ?_)
  refine z_p ?_
  refine z_c (h2) ?_
  refine z_p ?_
  refine z_p ?_
  refine z_p ?_
  refine z_p ?_
  refine z_p ?_
  refine z_p ?_
  refine z_p ?_
  refine WL.nil ?_
  refine W.seq (W.seq (W.region ?_))
  refine z_p ?_
  refine z_p ?_
  refine sq (v_pure rfl) (show _ = AV.bool false from congrArg AV.bool (bne_eq_false_iff_eq.2 rfl)) rfl rfl rfl ?_
  refine z_p ?_
  refine z_p ?_
  refine z_p ?_
  refine sq (v_pure rfl) (show _ = AV.bool false from congrArg AV.bool (bne_eq_false_iff_eq.2 rfl)) rfl rfl rfl ?_
  refine z_p ?_
  refine z_p ?_
  refine z_p ?_
  refine sq (v_len rfl rfl rfl rfl ⟨_, rfl⟩ trivial) (show _ = AV.int .i64 (l.length : Nat) from rfl) rfl rfl rfl ?_
  refine z_p ?_
  refine sq (v_len rfl rfl rfl rfl ⟨_, rfl⟩ trivial) (show _ = AV.int .i64 (l.length : Nat) from rfl) rfl rfl rfl ?_
  refine sq (v_pure rfl) (show _ = AV.bool false from congrArg AV.bool (bne_eq_false_iff_eq.2 rfl)) rfl rfl rfl ?_
  refine z_p ?_
  refine WL.nil ?_
  refine W.cond_false rfl (W.skip ?_)
  refine W.seq (W.seq (W.region ?_))
  refine z_p ?_
  refine sq (v_len rfl rfl rfl rfl ⟨_, rfl⟩ trivial) (show _ = AV.int .i64 (l.length : Nat) from rfl) rfl rfl rfl ?_
  refine z_p ?_
  refine WL.nil ?_
  refine W.block ?_
  refine W.while (fun m st => ∃ i : Nat, m = l.length - i ∧ i ≤ l.length ∧ st = ⟨[(3, toksRow l), (6, toksRow l), (43, .int .i64 (l.length : Nat)), (44, .int .i64 (i : Nat))], []⟩) l.length ⟨0, rfl, by omega, rfl⟩ (by refine ⟨?_, ?_, rfl, Nat.le_of_ble_eq_true rfl⟩ <;> repeat (first | exact trivial | exact rfl | refine ⟨rfl, ?_⟩ | refine ⟨.inr ⟨rfl, ?_⟩, ?_⟩ | refine ⟨.inl rfl, ?_⟩)) ?_
  rintro m _ ⟨i, rfl, hi, rfl⟩
  by_cases hlt : i < l.length
  · obtain ⟨x, hx⟩ : ∃ x, x = l[i] := ⟨_, rfl⟩
    have hdr := toks_drop l i hlt
    rw [← hx] at hdr
    have hne := toksAV_ne hlt
    refine W.seq (W.region ?_)
    refine z_T (show (i : Int) < l.length by omega) ?_
    refine WL.nil ?_
    refine W.seq (W.cond_true rfl (W.skip ?_))
    refine W.seq (W.block ?_)
    refine W.seq (W.region ?_)
    refine z_p ?_
    refine z_p ?_
    refine WL.nil ?_
    refine W.seq (W.drawnR mixed [47, 48, 49, 50, 51, 52, 53, 54, 55, 56, 57, 58, 59, 60, 61, 62, 63, 64, 65, 66, 67, 68, 69, 70, 71, 72, 73, 74, 75, 76, 77, 78, 79, 80, 81] (by kernel_rfl) ?_)
    apply DrawFrom.stepR
    · intro more
      refine z_p ?_
      exact z_e
    apply DrawFrom.stepR
    · intro more
      refine z_p ?_
      exact z_e
    apply DrawFrom.stepR
    · intro more
      refine sq (v_indexAddr_row rfl rfl rfl rfl rfl rfl (by omega) (by omega) hne) (show _ = AV.radr (tok3 x ++ toksAV (l.drop (i + 1))) from congrArg AV.radr hdr) rfl rfl rfl ?_
      exact z_e
    apply DrawFrom.stepR
    · intro more
      first | refine z_f ?_ | refine z_g ?_
      exact z_e
    apply DrawFrom.stepR
    · intro more
      first | refine z_l ?_ | refine z_r ?_
      exact z_e
    apply DrawFrom.stepR
    · intro more
      refine z_p ?_
      exact z_e
    apply DrawFrom.stepR
    · intro more
      refine z_p ?_
      exact z_e
    apply DrawFrom.stepR
    · intro more
      refine sq (v_indexAddr_row rfl rfl rfl rfl rfl rfl (by omega) (by omega) hne) (show _ = AV.radr (tok3 x ++ toksAV (l.drop (i + 1))) from congrArg AV.radr hdr) rfl rfl rfl ?_
      exact z_e
    apply DrawFrom.stepR
    · intro more
      first | refine z_f ?_ | refine z_g ?_
      exact z_e
    apply DrawFrom.stepR
    · intro more
      first | refine z_l ?_ | refine z_r ?_
      exact z_e
    apply DrawFrom.stepR
    · intro more
      refine sq (v_pure rfl) (show _ = AV.bool false from congrArg AV.bool (bne_eq_false_iff_eq.2 rfl)) rfl rfl rfl ?_
      exact z_e
    apply DrawFrom.stepR
    · intro more
      refine z_p ?_
      exact z_e
    apply DrawFrom.stepR
    · intro more
      refine z_p ?_
      exact z_e
    apply DrawFrom.stepR
    · intro more
      refine z_p ?_
      exact z_e
    apply DrawFrom.stepR
    · intro more
      refine sq (v_indexAddr_row rfl rfl rfl rfl rfl rfl (by omega) (by omega) hne) (show _ = AV.radr (tok3 x ++ toksAV (l.drop (i + 1))) from congrArg AV.radr hdr) rfl rfl rfl ?_
      exact z_e
    apply DrawFrom.stepR
    · intro more
      first | refine z_f ?_ | refine z_g ?_
      exact z_e
    apply DrawFrom.stepR
    · intro more
      first | refine z_l ?_ | refine z_r ?_
      exact z_e
    apply DrawFrom.stepR
    · intro more
      refine z_p ?_
      exact z_e
    apply DrawFrom.stepR
    · intro more
      refine z_p ?_
      exact z_e
    apply DrawFrom.stepR
    · intro more
      refine sq (v_indexAddr_row rfl rfl rfl rfl rfl rfl (by omega) (by omega) hne) (show _ = AV.radr (tok3 x ++ toksAV (l.drop (i + 1))) from congrArg AV.radr hdr) rfl rfl rfl ?_
      exact z_e
    apply DrawFrom.stepR
    · intro more
      first | refine z_f ?_ | refine z_g ?_
      exact z_e
    apply DrawFrom.stepR
    · intro more
      first | refine z_l ?_ | refine z_r ?_
      exact z_e
    apply DrawFrom.stepR
    · intro more
      refine sq (v_pure rfl) (show _ = AV.bool false from congrArg AV.bool (bne_eq_false_iff_eq.2 rfl)) rfl rfl rfl ?_
      exact z_e
    apply DrawFrom.stepR
    · intro more
      refine z_p ?_
      exact z_e
    apply DrawFrom.stepR
    · intro more
      refine z_p ?_
      exact z_e
    apply DrawFrom.stepR
    · intro more
      refine z_p ?_
      exact z_e
    apply DrawFrom.stepR
    · intro more
      refine z_p ?_
      exact z_e
    apply DrawFrom.stepR
    · intro more
      refine sq (v_indexAddr_row rfl rfl rfl rfl rfl rfl (by omega) (by omega) hne) (show _ = AV.radr (tok3 x ++ toksAV (l.drop (i + 1))) from congrArg AV.radr hdr) rfl rfl rfl ?_
      exact z_e
    apply DrawFrom.stepR
    · intro more
      first | refine z_f ?_ | refine z_g ?_
      exact z_e
    apply DrawFrom.stepR
    · intro more
      first | refine z_l ?_ | refine z_r ?_
      exact z_e
    apply DrawFrom.stepR
    · intro more
      refine z_p ?_
      exact z_e
    apply DrawFrom.stepR
    · intro more
      refine z_p ?_
      exact z_e
    apply DrawFrom.stepR
    · intro more
      refine sq (v_indexAddr_row rfl rfl rfl rfl rfl rfl (by omega) (by omega) hne) (show _ = AV.radr (tok3 x ++ toksAV (l.drop (i + 1))) from congrArg AV.radr hdr) rfl rfl rfl ?_
      exact z_e
    apply DrawFrom.stepR
    · intro more
      first | refine z_f ?_ | refine z_g ?_
      exact z_e
    apply DrawFrom.stepR
    · intro more
      first | refine z_l ?_ | refine z_r ?_
      exact z_e
    refine DrawFrom.doneR (rfl : _ = (_, _) :: (_, _) :: (_, _) :: (_, _) :: (_, _) :: (_, _) :: (_, _) :: (_, _) :: (_, _) :: (_, _) :: (_, _) :: (_, _) :: (_, _) :: (_, _) :: (_, _) :: (_, _) :: (_, _) :: (_, _) :: (_, _) :: (_, _) :: (_, _) :: (_, _) :: (_, _) :: (_, _) :: (_, _) :: (_, _) :: (_, _) :: (_, _) :: (_, _) :: (_, _) :: (_, _) :: (_, _) :: (_, _) :: (_, _) :: (_, _) :: _) ?_
    refine sq (v_pure rfl) (show _ = AV.bool false from congrArg AV.bool (bne_eq_false_iff_eq.2 rfl)) rfl rfl rfl ?_
    refine z_p ?_
    refine WL.nil ?_
    refine W.cond_false rfl (W.skip ?_)
    refine W.region ?_
    refine z_i ?_
    refine z_p ?_
    refine WL.nil ?_
    exact ⟨l.length - (i + 1), _, _, by omega, ⟨i + 1, rfl, by omega, rfl⟩, (by refine ⟨?_, ?_, rfl, Nat.le_of_ble_eq_true rfl⟩ <;> repeat (first | exact trivial | exact rfl | refine ⟨rfl, ?_⟩ | refine ⟨.inr ⟨rfl, ?_⟩, ?_⟩ | refine ⟨.inl rfl, ?_⟩))⟩
  · have hie : i = l.length := by omega
    subst hie
    refine W.seq (W.region ?_)
    refine z_F (show ¬ (l.length : Int) < l.length by omega) ?_
    refine WL.nil ?_
    refine W.seq (W.cond_false rfl (W.exit ?_))
    refine W.seq (W.region ?_)
    refine z_c (wakes08_spec) ?_
    refine z_p ?_
    refine WL.nil ?_
    exact W.ret (fin rfl (.shut (.plain rfl) .nil) rfl)
theorem lexTells_all {H : Type} (ds : List (DataW H)) (h : shapes (shapeT tab 8) [9] ds) : Does Tryd.prog 6 (ds.map avArg) (.bool true) := by
  obtain ⟨_, _, rfl, ⟨s, rfl, hs⟩, rfl⟩ := h
  exact lexTells_spec s (by simpa [maxLen] using hs)

end Go.Proofs.YtfiohajalaejoaaDoor

set_option linter.unusedVariables false
set_option linter.unusedSimpArgs false
namespace Go.Lens
open Go Go.RowKit Go.ChangeShapes Go.WideShapes Go.ChangeAt

/-- A LAW THAT ANSWERS TRUE: its row, lifted. -/
theorem law_lift {C : Checked} {T : Tab} (ok : TabOK C.prog T) {f : FuncId} {fn : Func} {s : ChangeSpec} {laid : List (String × DataW Unit)} (own : ownKnob C.prog.godebug = none) (laidOut : laidOutB C.prog = true)
    (noInit : C.prog.inits.idxOf? f = none) (hfn : C.prog.funcs[f]? = some fn) (hvars : s.vars = []) {ts : List TypeId} (hps : fn.params.toList = ts)
    (hgood : ts.all (goodT T 8) = true) (hread : ts.all (fun t => C.prog.readableRec t && decide (t < C.prog.types.size)) = true) {rt : TypeId} (hrt : fn.resultTypes = #[rt]) (hb : C.prog.underlying rt = some .bool)
    (hspec : ∀ (H : Type) (ds : List (DataW H)), ds.length = ts.length → s.fn H ds = { results := [.lit (.bool true)], args := ds })
    {os : Os} (started : os.Started) {H : Type} {enc : TypeId × Value → H}
    (hlaw : ∀ (ds : List (DataW H)), shapes (shapeT T 8) ts ds → (DataW.weightsEach C.prog (ts ++ s.plain.varTypes C.prog) ds).all (· ≤ reachBytes) = true → Does C.prog f (ds.map avArg) (.bool true))
    (witness : ∃ (w : World) (tape : Tape) (i : Input), w.os = os ∧ (w.forCall tape i).Shaped C.prog ∧ i.vars = [] ∧ Input.okWide C.prog (w.forCall tape i) .any w.heap.size f i ∧
      ((s.pre enc C.prog fn [] false (w.forCall tape i).memory i.args ∧ laidMetH C.prog laid (w.forCall tape i).memory) ∧ sizedMet enc C.prog fn (OpenSpec.ofChange s) false (w.forCall tape i).memory i.args) ∧ Assume.holds {} C.prog (lone (Frame.enter C.prog f i.args .normal) [] (w.forCall tape i))) :
    ReturnsInHanded {} C os f .any (fun w args => (s.pre enc C.prog fn [] false w args ∧ laidMetH C.prog laid w) ∧ sizedMet enc C.prog fn (OpenSpec.ofChange s) false w args)
      (s.post enc C.prog fn false true false false) := by
  refine returnsInHanded_of_change_and (C := C) (X := fun w _ => laidMetH C.prog laid w) (fun _ _ _ hh h => h.of_heap hh) own started noInit hfn witness ?_
  intro W base args ds gs before hval hW _ hsz _ _
  have hW' := hW
  obtain ⟨p, q, hA, hV, rfl, _, _⟩ := hW
  rw [hvars] at hV
  obtain ⟨rfl, rfl⟩ := trodVars_none hV
  rw [hps] at hA hsz
  simp only [List.append_nil] at hsz
  have hsh := args_shape (g := 8) ok hA
  have hr := args_rel (g := 8) ok (r := .any) (base := base) (w' := W) (fun j t v ht hv => hval j t v (by rw [← hps] at ht; simpa using ht) (by simpa using hv)) hA hgood
  have hd := hlaw ds hsh hsz
  refine (hd.calls hr).mono fun e W' ⟨v, H', he, hv, bel⟩ => ?_
  subst he
  simp only [RelV] at hv
  subst hv
  refine ⟨_, rfl, ds, [], _, [], p, [], hW', ?_, ?_, ?_, bel.frame _, fun h => by cases h⟩
  · rw [List.append_nil, hspec H ds hsh.length, hrt]
    exact trodAll_mk1 (shut_bool hb _)
  · rw [List.append_nil, hspec H ds hsh.length, hps]
    exact Below.trodAll laidOut bel hread hA
  · rw [List.append_nil, hspec H ds hsh.length, hvars]
    rfl

end Go.Lens

set_option linter.unusedVariables false
set_option linter.unusedSimpArgs false
namespace Go.Lens
open Go Go.RowKit Go.ChangeShapes Go.WideShapes Go.ChangeAt

theorem law_lift_upto {C : Checked} {T : Tab} (ok : TabOK C.prog T) {f : FuncId} {fn : Func} {s : ChangeSpec} {k : (H : Type) → List (DataW H) → Bool} {laid : List (String × DataW Unit)} (own : ownKnob C.prog.godebug = none) (laidOut : laidOutB C.prog = true)
    (noInit : C.prog.inits.idxOf? f = none) (hfn : C.prog.funcs[f]? = some fn) (hvars : s.vars = []) {ts : List TypeId} (hps : fn.params.toList = ts)
    (hgood : ts.all (goodT T 8) = true) (hread : ts.all (fun t => C.prog.readableRec t && decide (t < C.prog.types.size)) = true) {rt : TypeId} (hrt : fn.resultTypes = #[rt]) (hb : C.prog.underlying rt = some .bool)
    (hspec : ∀ (H : Type) (ds : List (DataW H)), ds.length = ts.length → s.fn H ds = { results := [.lit (.bool true)], args := ds })
    {os : Os} (started : os.Started) {H : Type} {enc : TypeId × Value → H}
    (hlaw : ∀ (ds : List (DataW H)), shapes (shapeT T 8) ts ds → (DataW.weightsEach C.prog (ts ++ s.plain.varTypes C.prog) ds).all (· ≤ reachBytes) = true → k H ds = true → Does C.prog f (ds.map avArg) (.bool true)) {F : Stop.Interp}
    (witness : ∃ (w : World) (tape : Tape) (i : Input), w.os = os ∧ (w.forCall tape i).Shaped C.prog ∧ i.vars = [] ∧ Input.okWide C.prog (w.forCall tape i) .any w.heap.size f i ∧
      ({ OpenSpec.ofChange s with cond := some k } : OpenSpec).preRow enc C.prog fn [] false laid (w.forCall tape i).memory i.args ∧ Assume.holds {} C.prog (lone (Frame.enter C.prog f i.args .normal) [] (w.forCall tape i))) :
    ReturnsInHanded {} C os f .any (({ OpenSpec.ofChange s with cond := some k } : OpenSpec).preRow enc C.prog fn [] false laid)
      ((({ OpenSpec.ofChange s with cond := some k } : OpenSpec).at F).post enc C.prog fn false true false false) := by
  refine returnsInHanded_of_row (C := C) (s := { OpenSpec.ofChange s with cond := some k }) own started noInit hfn witness ?_
  intro W base args ds gs before hval hW _ hcond hsz _ _ _
  have hW' := hW
  obtain ⟨p, q, hA, hV, rfl, _, _⟩ := hW
  rw [show (({ OpenSpec.ofChange s with cond := some k } : OpenSpec).vars) = [] from hvars] at hV
  obtain ⟨rfl, rfl⟩ := trodVars_none hV
  have hk := hcond k rfl
  rw [hps] at hA hsz
  simp only [List.append_nil] at hsz hk
  have hsh := args_shape (g := 8) ok hA
  have hr := args_rel (g := 8) ok (r := .any) (base := base) (w' := W) (fun j t v ht hv => hval j t v (by rw [← hps] at ht; simpa using ht) (by simpa using hv)) hA hgood
  have hd := hlaw ds hsh hsz hk
  refine (hd.calls hr).mono fun e W' ⟨v, H', he, hv, bel⟩ => ?_
  subst he
  simp only [RelV] at hv
  subst hv
  refine ⟨_, rfl, ds, [], _, [], p, [], hW', ?_, ?_, ?_, bel.frame _, fun h => by cases h⟩
  · rw [List.append_nil, show (({ OpenSpec.ofChange s with cond := some k } : OpenSpec).at F).fn H ds = _ from hspec H ds hsh.length, hrt]
    exact trodAll_mk1 (shut_bool hb _)
  · rw [List.append_nil, show (({ OpenSpec.ofChange s with cond := some k } : OpenSpec).at F).fn H ds = _ from hspec H ds hsh.length, hps]
    exact Below.trodAll laidOut bel hread hA
  · rw [List.append_nil, show (({ OpenSpec.ofChange s with cond := some k } : OpenSpec).at F).fn H ds = _ from hspec H ds hsh.length, show ((({ OpenSpec.ofChange s with cond := some k } : OpenSpec).at F).vars) = [] from hvars]
    rfl

theorem witness_upto {H : Type} {enc : TypeId × Value → H} {C : Checked} {os : Os} {f : FuncId} {fn : Func} {s : OpenSpec} {laid : List (String × DataW Unit)} (w0 : World) (args : Array Value) (fuel : Nat) (hos : w0.os = os)
    (hsh : (w0.forCall (fun _ _ => 0) ⟨#[], args, []⟩).Shaped C.prog)
    (hok : Input.okWideB C.prog (w0.forCall (fun _ _ => 0) ⟨#[], args, []⟩) f ⟨#[], args, []⟩ = true)
    (x : List (DataW H) × List (DataW H)) (hx : ∃ m, DataW.whole enc C.prog (w0.forCall (fun _ _ => 0) ⟨#[], args, []⟩).memory fn.params.toList s.vars false args.toList fuel = some (x.1, x.2, m))
    (hkk : ∀ k, s.cond = some k → k H (x.1 ++ x.2) = true) (hsz : s.bare.sizedB enc C.prog fn false (w0.forCall (fun _ _ => 0) ⟨#[], args, []⟩).memory args fuel = true)
    (hl : laidMetH C.prog laid (w0.forCall (fun _ _ => 0) ⟨#[], args, []⟩).memory) :
    ∃ (w : World) (tape : Tape) (i : Input), w.os = os ∧ (w.forCall tape i).Shaped C.prog ∧ i.vars = [] ∧ Input.okWide C.prog (w.forCall tape i) .any w.heap.size f i ∧
      s.preRow enc C.prog fn [] false laid (w.forCall tape i).memory i.args ∧ Assume.holds {} C.prog (lone (Frame.enter C.prog f i.args .normal) [] (w.forCall tape i)) :=
  have ⟨m, hm⟩ := hx
  ⟨w0, fun _ _ => 0, ⟨#[], args, []⟩, hos, hsh, (Input.okWide_of_okWideB (base := 0) hok).1, (Input.okWide_of_okWideB hok).2, OpenSpec.preRow_of_cond fuel hm rfl hkk hsz hl, by
    simp only [Assume.holds]
    exact ⟨by simp, by simp, fun _ => Modest.zero, by simp, by simp⟩⟩

end Go.Lens
namespace Go.Proofs.YtfiohajalaejoaaDoor
open Go Go.Lens
/-! ### what the bound gives -/
theorem bulk_one {H : Type} (d : DataW H) : 1 ≤ Rows.uptoBulk d := by
  cases d with
  | lit l => cases l <;> simp [Rows.uptoBulk]
  | nil => simp [Rows.uptoBulk]
  | ptr d => simp [Rows.uptoBulk]
  | slice elems spare => simp [Rows.uptoBulk]
  | agg parts => simp [Rows.uptoBulk]
  | iface t d => simp [Rows.uptoBulk]
  | map entries => simp [Rows.uptoBulk]
  | held h => simp [Rows.uptoBulk]
theorem bulk_part {H : Type} {d : DataW H} {l : List (DataW H)} (h : d ∈ l) : Rows.uptoBulk d ≤ Rows.uptoBulkAll l := by
  induction l with
  | nil => cases h
  | cons x r ih =>
    simp only [Rows.uptoBulkAll]
    cases List.mem_cons.1 h with
    | inl e => subst e; omega
    | inr e => have := ih e; omega
theorem bulk_bound {H : Type} {l : List (DataW H)} (hk : Rows.uptoSmall H l = true) : Rows.uptoBulkAll l ≤ 1048576 := of_decide_eq_true hk
end Go.Proofs.YtfiohajalaejoaaDoor

set_option linter.unusedVariables false
set_option linter.unusedSimpArgs false
namespace Go.Lens
open Go

theorem v_cat {C : Ctx} {o : Oper} {st : St} {x y : Operand} {t t' : TypeId} {a b : List UInt8} (hop : o.op = .binOp .add t x y t') (hx : ev st x = some (.str a)) (hy : ev st y = some (.str b))
    (h : a.length + b.length ≤ 9223372036854775807) : VStep C o st (.str (a ++ b)) st.objs := v_bin hop hx hy (if_pos h)

/-! ### weaker arguments -/
def SubL : List AV → List AV → Prop
  | [], [] => True
  | c :: cs, d :: ds => Sub c d ∧ SubL cs ds
  | _, _ => False
theorem SubL.rel : ∀ {cs ds : List AV}, SubL cs ds → ∀ (w : World) (H : View) (vs : List Value), RelL w cs H vs → RelL w ds H vs
  | [], [], _, _, _, _, h => h
  | c :: cs, d :: ds, ⟨h1, h2⟩, w, H, vs, h => by
    obtain ⟨v, vs', e, g1, g2⟩ := h
    exact ⟨v, vs', e, h1 w H v g1, SubL.rel h2 w H vs' g2⟩
theorem Does.sub {P : Program} {f : FuncId} {args args' : List AV} {r : AV} (h : Does P f args' r) (hs : SubL args args') : Does P f args r :=
  ⟨h.1, fun H w vs ho hr => h.2 H w vs ho (hs.rel w H vs hr)⟩
theorem SubL.refl : ∀ (cs : List AV), SubL cs cs
  | [] => trivial
  | c :: cs => ⟨Sub.refl c, SubL.refl cs⟩

theorem avArg_slice {H : Type} {d : DataW H} {c : AV} (h : avOf d = [c]) (hd : d = .nil ∨ ∃ ds rest, d = .slice ds rest) : avArg d = (avOf d).headD .any := by
  rcases hd with rfl | ⟨ds, rest, rfl⟩ <;> rfl

end Go.Lens

set_option linter.unusedVariables false
set_option linter.unusedSimpArgs false
namespace Go.Proofs.YtfiohajalaejoaaDoor
open Go Go.Lens

theorem repeat_spec (s : List UInt8) (c : Nat) (hc : c ≤ 9223372036854775807) (hlen : s.length * c ≤ 140737488355328) : Does Tryd.prog 23 [.str s, .int .i64 c] (.str (Lib.repeatL s c)) := by
  refine Does.of_below (Callable.of Tryd.func23 (by kernel_rfl) (by kernel_rfl)) fun H w vs hr => ?_
  obtain ⟨v1, _, rfl, h1, v2, _, rfl, h2, rfl⟩ := hr
  simp only [RelV] at h1 h2
  subst h1; subst h2
  refine (Tryd.strings_Repeat ⟨s.toArray⟩ c w hc (by simpa [ByteArray.size] using hlen)).mono fun e w' ⟨he, hw⟩ => ⟨_, he, fun H' => ?_, hw⟩
  simp [RelV]
theorem repeatL_eq (s : List UInt8) (c : Nat) : Lib.repeatL s c = (List.replicate c s).flatten := by
  induction c with
  | zero => rfl
  | succ c ih => rw [Lib.repeatL, ih, List.replicate_succ]; rfl
theorem repeatL_one (x : UInt8) (c : Nat) : Lib.repeatL [x] c = List.replicate c x := by
  induction c with
  | zero => rfl
  | succ c ih => rw [Lib.repeatL, ih, List.replicate_succ]; rfl
end Go.Proofs.YtfiohajalaejoaaDoor

set_option linter.unusedVariables false
set_option linter.unusedSimpArgs false
namespace Go.Proofs.YtfiohajalaejoaaDoor
open Go Go.Lens

/-! ### tokens of the caller's own -/
abbrev TokZ := Int × List UInt8 × Int
def tokZ (x : TokZ) : List AV := [.int .i64 x.1, .str x.2.1, .int .i64 x.2.2]
def toksZ (l : List TokZ) : List AV := l.flatMap tokZ
def toksZRow (l : List TokZ) : AV := .row (toksZ l) l.length
theorem toksZ_length (l : List TokZ) : (toksZ l).length = l.length * 3 := by
  induction l with
  | nil => rfl
  | cons x l ih => simp only [toksZ, List.flatMap_cons, List.length_append, List.length_cons] at ih ⊢; rw [ih]; simp [tokZ]; omega
theorem toksZ_snoc (l : List TokZ) (x : TokZ) : toksZ (l ++ [x]) = toksZ l ++ tokZ x := by simp [toksZ]
@[simp] theorem toksZ_plain (l : List TokZ) : plainL (toksZ l) = true := by
  induction l with
  | nil => rfl
  | cons x l ih => simp only [toksZ, List.flatMap_cons, tokZ, List.cons_append, List.nil_append, plainL, AV.plain, Bool.true_and]; exact ih
theorem toksZ_drop (l : List TokZ) (i : Nat) (h : i < l.length) : (toksZ l).drop (((i : Nat) : Int).toNat * 3) = tokZ l[i] ++ toksZ (l.drop (i + 1)) := by
  rw [Int.toNat_natCast]
  induction i generalizing l with
  | zero =>
    cases l with
    | nil => simp at h
    | cons x l => rfl
  | succ i ih =>
    cases l with
    | nil => simp at h
    | cons x l =>
      have := ih l (by simpa using h)
      rw [show (i + 1) * 3 = 3 + i * 3 by omega, ← List.drop_drop]
      exact this
theorem toksZ_ne {l : List TokZ} {i : Nat} (h : i < l.length) : toksZ l ≠ [] := by
  intro e
  have := toksZ_length l
  rw [e] at this
  simp at this
  omega
def textsZ (l : List TokZ) : List (List UInt8) := l.map (·.2.1)

theorem lexJoinZ_spec (l : List TokZ) (hl : l.length ≤ 8796093022207) (hj : (Lib.join (textsZ l) [32]).length ≤ 140737488355328) : Does Tryd.prog 20 [toksZRow l] (.str (Lib.join (textsZ l) [32])) := by
  refine does tab_ok Tryd.func20 rfl rfl rfl rfl rfl fun w0 H0 hk hj' => ?_
  refine W.slots 1 (show W _ _ ⟨_, [.slot]⟩ _ from ?_)
  --@ n 1
  refine W.seq (W.region ?_)
  refine z_p ?_
  refine WL.nil ?_
  refine W.seq (W.region ?_)
  refine z_p ?_
  refine WL.nil ?_
  refine W.seq (W.seq (W.region ?_))
  refine z_p ?_
  refine sq (v_len rfl rfl rfl rfl ⟨_, rfl⟩ trivial) (show _ = AV.int .i64 (l.length : Nat) from rfl) rfl rfl rfl ?_
  refine z_p ?_
  refine WL.nil ?_
  refine W.block ?_
  refine W.while (fun m st => ∃ (i : Nat) (q : List (List UInt8)), m = l.length - i ∧ i ≤ l.length ∧ q = textsZ (l.take i) ∧ st = ⟨[(3, gV 0 q.length), (6, toksZRow l), (7, .int .i64 (l.length : Nat)), (8, .int .i64 (i : Nat))], [gO 9 1 (strsAV q) q.length]⟩) l.length
    ⟨0, [], rfl, by omega, rfl, rfl⟩ (by refine ⟨?_, ?_, rfl, Nat.le_of_ble_eq_true rfl⟩ <;> repeat (first | exact trivial | exact rfl | refine ⟨rfl, ?_⟩ | refine ⟨.inr ⟨rfl, ?_⟩, ?_⟩ | refine ⟨.inl rfl, ?_⟩)) ?_
  rintro m _ ⟨i, q, rfl, hi, hq, rfl⟩
  by_cases hlt : i < l.length
  · obtain ⟨x, hx⟩ : ∃ x, x = l[i] := ⟨_, rfl⟩
    have hdr := toksZ_drop l i hlt
    rw [← hx] at hdr
    have hql : q.length = i := by rw [hq, textsZ, List.length_map, List.length_take]; omega
    have happ : strsAV q ++ [.str x.2.1] = strsAV (q ++ [x.2.1]) := by simp [strsAV]
    have hal : (q ++ [x.2.1]).length = q.length + 1 := by simp
    have hq2 : q ++ [x.2.1] = textsZ (l.take (i + 1)) := by rw [List.take_succ_eq_append_getElem hlt, ← hx, hq]; simp [textsZ]
    refine W.seq (W.region ?_)
    refine z_T (show (i : Int) < l.length by omega) ?_
    refine WL.nil ?_
    refine W.seq (W.cond_true rfl (W.skip ?_))
    refine W.seq (W.block ?_)
    refine W.seq (W.region ?_)
    refine sq (v_indexAddr_row rfl rfl rfl rfl rfl rfl (by omega) (by omega) (toksZ_ne hlt)) (show _ = AV.radr (tokZ x ++ toksZ (l.drop (i + 1))) from congrArg AV.radr hdr) rfl rfl rfl ?_
    first | refine z_l3 ?_ | refine z_r3 ?_
    refine z_a 1 [_, _] ?_
    refine z_s [_, _] ?_
    refine WL.nil ?_
    refine W.region ?_
    refine z_p ?_
    first | refine z_f ?_ | refine z_g ?_
    first | refine z_l ?_ | refine z_r ?_
    refine sq (v_buildRow rfl rfl rfl rfl rfl rfl rfl (Nat.le_of_ble_eq_true rfl) (Nat.le_of_ble_eq_true rfl) rfl rfl rfl rfl) (rfl : _ = AV.row [_] 1) rfl rfl rfl ?_
    refine sn (v_gr (n := q.length) (ds := [.str x.2.1]) 0 rfl rfl rfl rfl (by simp [strsAV]) rfl rfl rfl rfl rfl rfl rfl rfl (by decide) rfl (by show (q.length + 1) * 16 ≤ _; omega) (by omega)) (show _ = gV 0 (q ++ [x.2.1]).length by rw [hal]) (show _ = [gO 9 1 (strsAV (q ++ [x.2.1])) (q ++ [x.2.1]).length, AObj.cells (tokZ x) 0 1 false none] by rw [← happ, hal]; rfl) rfl rfl rfl ?_
    refine z_p ?_
    refine WL.nil ?_
    refine W.region ?_
    refine z_i ?_
    refine z_p ?_
    refine WL.nil ?_
    exact ⟨l.length - (i + 1), _, _, by omega, ⟨i + 1, q ++ [x.2.1], rfl, by omega, hq2, rfl⟩, (by cases q <;> exact (by refine ⟨?_, ?_, rfl, Nat.le_of_ble_eq_true rfl⟩ <;> repeat (first | exact trivial | exact rfl | refine ⟨rfl, ?_⟩ | refine ⟨.inr ⟨rfl, ?_⟩, ?_⟩ | refine ⟨.inl rfl, ?_⟩)))⟩
  · have hie : i = l.length := by omega
    subst hie
    rw [List.take_length] at hq
    have hjoin := join_spec q [32] (by rw [hq, textsZ, List.length_map]; omega) (by rw [hq]; exact hj)
    rw [← hq]
    clear hq
    refine W.seq (W.region ?_)
    refine z_F (show ¬ (l.length : Int) < l.length by omega) ?_
    refine WL.nil ?_
    refine W.seq (W.cond_false rfl (W.exit ?_))
    cases q with
    | nil =>
      refine W.seq (W.region ?_)
      refine sp (VStep.sub (v_pure rfl) Sub.nils) rfl rfl rfl ?_
      refine z_c (hjoin) ?_
      refine z_p ?_
      refine WL.nil ?_
      exact W.ret (fin rfl (.shut (.plain rfl) .nil) rfl)
    | cons g r =>
      refine W.seq (W.region ?_)
      refine z_p ?_
      refine sk hjoin rfl rfl rfl rfl (.lend rfl (by simp [strsAV]) (.plain rfl .nil)) (by simp [strsAV, List.take_of_length_le]) rfl (one_mine rfl) rfl rfl rfl rfl ?_
      refine z_p ?_
      refine WL.nil ?_
      exact W.ret (fin rfl (.shut (.plain rfl) .nil) rfl)

/-! ### LexLong -/
/-- the tokens that the law makes of texts -/
def mkZ (l : List (List UInt8)) (i : Nat) : List TokZ := (List.range i).map fun j : Nat => ((j : Int), l.getD j [], -(j : Int))
theorem mkZ_succ {l : List (List UInt8)} {i : Nat} (h : i < l.length) : mkZ l (i + 1) = mkZ l i ++ [((i : Int), l[i], -(i : Int))] := by
  rw [mkZ, List.range_succ, List.map_append, mkZ]
  simp [h]
theorem mkZ_length (l : List (List UInt8)) (i : Nat) : (mkZ l i).length = i := by simp [mkZ]
theorem mkZ_texts (l : List (List UInt8)) : textsZ (mkZ l l.length) = l := by
  rw [textsZ, mkZ, List.map_map]
  apply List.ext_getElem
  · simp
  · intro i h1 h2
    simp at h1
    simp [h1]
theorem lex_blank (n : Nat) (hn : n ≤ 1048576) : lexTop (List.replicate n 32) = ([], 0, 0) := by
  have h0 : (List.replicate n (32 : UInt8)).dropWhile isBlank = [] := dropWhile_nil.2 fun c hc => by rw [(List.mem_replicate.1 hc).2]; decide
  have h1 : skipF (List.replicate n (32 : UInt8)) = [] := by rw [skipF_stop (by rw [h0]; simp), h0]
  rw [lexTop, if_neg (by rw [List.length_replicate]; omega), lexF, h1]
  rfl
attribute [local simp] strsAV_length
theorem strs_row (l : List (List UInt8)) (k : Nat) : AV.row (((strsAV l).drop (0 * 1)).take (((((min l.length k : Nat) : Int)).toNat - 0) * 1)) ((((min l.length k : Nat) : Int)).toNat - 0) = .row (strsAV (l.take k)) (l.take k).length := by
  have e : (strsAV l).take (min l.length k) = strsAV (l.take k) := by
    rw [strsAV, ← List.map_take]
    congr 1
    rcases Nat.le_total l.length k with h | h
    · rw [Nat.min_eq_left h, List.take_of_length_le (Nat.le_refl _), List.take_of_length_le h]
    · rw [Nat.min_eq_right h]
  simp only [Int.toNat_natCast, Nat.sub_zero, Nat.zero_mul, Nat.mul_one, List.drop_zero, e, List.length_take]
  rw [Nat.min_comm]
theorem join_le (l : List (List UInt8)) (b : UInt8) : (Lib.join l [b]).length ≤ Lib.lens l + l.length := by
  cases l with
  | nil => exact Nat.zero_le _
  | cons x l =>
    rw [Lib.join_cons, List.length_append, Lib.joinTail_length]
    simp only [Lib.lens, List.map_cons, List.sum_cons, List.length_cons, List.length_nil]
    omega

set_option maxHeartbeats 3200000 in
theorem lexLong_spec (l0 : List (List UInt8)) (b : Bool) (hl0 : l0.length ≤ 9223372036854775807) (hw : Lib.lens l0 ≤ 1048576) : Does Tryd.prog 9 [.row (strsAV l0) l0.length, .bool b] (.bool true) := by
  obtain ⟨l, hl⟩ : ∃ l, l = l0.take 20 := ⟨_, rfl⟩
  have hll : l.length ≤ 20 := by rw [hl, List.length_take]; omega
  have hlw : Lib.lens l ≤ 1048576 := by have := Lib.lens_take_le l0 20; rw [hl]; omega
  have hJl := join_le l 32
  have hj1 := lexJoinZ_spec (mkZ l l.length) (by rw [mkZ_length]; omega) (by rw [mkZ_texts]; omega)
  rw [mkZ_texts] at hj1
  have hj2 := join_spec l [32] (by omega) (by omega)
  have hrep := repeat_spec [32] 1048576 (by decide) (by decide)
  rw [repeatL_one] at hrep
  obtain ⟨W1, hW1⟩ : ∃ W1, W1 = List.replicate 1048576 (32 : UInt8) := ⟨_, rfl⟩
  have hW1l : W1.length = 1048576 := by rw [hW1, List.length_replicate]
  rw [← hW1] at hrep
  obtain ⟨W2, hW2⟩ : ∃ W2, W2 = if b then W1 ++ [32] else W1 := ⟨_, rfl⟩
  have hlex : Does Tryd.prog 17 [.str W2] (.tup [toksRow [], .int .i64 ((0 : Nat) : Int), .int .i64 (if b then 7 else 0)]) := by
    cases b with
    | true =>
      have h := lex_spec W2 (by rw [hW2]; simp; omega)
      rw [lexTop, if_pos (by rw [hW2]; simp; omega)] at h
      exact h
    | false =>
      have h := lex_spec W2 (by rw [hW2]; simp; omega)
      rw [show lexTop W2 = ([], 0, 0) by rw [hW2]; simp only [Bool.false_eq_true, if_false]; rw [hW1]; exact lex_blank _ (Nat.le_refl _)] at h
      exact h
  have h7 : ((if b then 7 else 0 : Int) == 7) = b := by cases b <;> rfl
  refine does tab_ok Tryd.func9 rfl rfl rfl rfl rfl fun w0 H0 hk hj => ?_
  refine W.slots 1 (show W _ _ ⟨_, [.slot]⟩ _ from ?_)
  refine W.seq (W.region ?_)
  refine z_p ?_
  refine WL.nil ?_
  refine W.seq (W.region ?_)
  refine z_p ?_
  refine WL.nil ?_
  refine W.seq (W.region ?_)
  refine z_p ?_
  refine z_p ?_
  refine sq (v_len rfl rfl rfl rfl ⟨_, rfl⟩ trivial) (show _ = AV.int .i64 (l0.length : Nat) from rfl) rfl rfl rfl ?_
  refine sq (v_min2 rfl rfl rfl) (show _ = AV.int .i64 ((min l0.length 20 : Nat) : Int) from min_nat _ 20) rfl rfl rfl ?_
  first | refine sq (v_slice_sl (m := 0) rfl rfl rfl rfl rfl rfl rfl ⟨_, _, rfl, by omega, rfl⟩ (fun _ h => by cases h) (fun h => by cases h) (by omega) (by omega)) (show _ = AV.row (strsAV l) l.length from (strs_row l0 20).trans (by rw [hl])) rfl rfl rfl ?_ | refine sq (v_slice_row (m := 0) rfl rfl rfl rfl rfl (by first | (simp [u64AV]; done) | (simp [i64AV]; done)) rfl ⟨_, _, rfl, by omega, rfl⟩ (fun _ h => by cases h) (fun h => by cases h) (by omega) (by omega)) (show _ = AV.row (strsAV l) l.length from (strs_row l0 20).trans (by rw [hl])) rfl rfl rfl ?_
  refine z_p ?_
  refine WL.nil ?_
  refine W.seq (W.seq (W.region ?_))
  refine z_p ?_
  refine sq (v_len rfl rfl rfl rfl ⟨_, rfl⟩ trivial) (show _ = AV.int .i64 (l.length : Nat) from rfl) rfl rfl rfl ?_
  refine z_p ?_
  refine WL.nil ?_
  refine W.block ?_
  refine W.while (fun m st => ∃ (i : Nat) (q : List TokZ), m = l.length - i ∧ i ≤ l.length ∧ q = mkZ l i ∧ st = ⟨[(0, .row (strsAV l) l.length), (1, .bool b), (5, gV 0 q.length), (17, .row (strsAV l) l.length), (18, .int .i64 (l.length : Nat)), (19, .int .i64 (i : Nat))], [gO 46 3 (toksZ q) q.length]⟩) l.length
    ⟨0, [], rfl, by omega, rfl, rfl⟩ (by refine ⟨?_, ?_, rfl, Nat.le_of_ble_eq_true rfl⟩ <;> repeat (first | exact trivial | exact rfl | refine ⟨rfl, ?_⟩ | refine ⟨.inr ⟨rfl, ?_⟩, ?_⟩ | refine ⟨.inl rfl, ?_⟩)) ?_
  rintro m _ ⟨i, q, rfl, hi, hq, rfl⟩
  by_cases hlt : i < l.length
  · have hql : q.length = i := by rw [hq, mkZ_length]
    have happ : toksZ q ++ tokZ ((i : Int), l[i], -(i : Int)) = toksZ (q ++ [((i : Int), l[i], -(i : Int))]) := (toksZ_snoc _ _).symm
    have hal : (q ++ [((i : Int), l[i], -(i : Int))]).length = q.length + 1 := by simp
    have hq2 : q ++ [((i : Int), l[i], -(i : Int))] = mkZ l (i + 1) := by rw [mkZ_succ hlt, hq]
    have hdr : (strsAV l).drop (((i : Nat) : Int).toNat * 1) = .str l[i] :: strsAV (l.drop (i + 1)) := by
      rw [Int.toNat_natCast, Nat.mul_one, strsAV, ← List.map_drop, List.drop_eq_getElem_cons hlt]; rfl
    have hne : strsAV l ≠ [] := by intro e; have := strsAV_length l; rw [e] at this; simp at this; omega
    refine W.seq (W.region ?_)
    refine z_T (show (i : Int) < l.length by omega) ?_
    refine WL.nil ?_
    refine W.seq (W.cond_true rfl (W.skip ?_))
    refine W.seq (W.block ?_)
    refine W.seq (W.region ?_)
    refine z_p ?_
    refine sq (v_indexAddr_row rfl rfl rfl rfl rfl rfl (by omega) (by omega) hne) (show _ = AV.radr (.str l[i] :: strsAV (l.drop (i + 1))) from congrArg AV.radr hdr) rfl rfl rfl ?_
    first | refine z_l ?_ | refine z_r ?_
    refine z_p ?_
    refine z_p ?_
    refine WL.nil ?_
    refine W.region ?_
    refine z_p ?_
    refine z_p ?_
    refine z_p ?_
    refine z_p ?_
    refine sq (v_pure rfl) (show _ = AV.int .i64 (-(i : Int)) from congrArg (AV.int .i64) (by rw [IntKind.wrap_i64]; omega)) rfl rfl rfl ?_
    refine sq (v_build rfl rfl rfl rfl rfl rfl rfl) (rfl : _ = AV.agg [_, _, _]) rfl rfl rfl ?_
    refine sq (v_buildRow rfl rfl rfl rfl rfl rfl rfl (Nat.le_of_ble_eq_true rfl) (Nat.le_of_ble_eq_true rfl) rfl rfl rfl rfl) (rfl : _ = AV.row [_, _, _] 1) rfl rfl rfl ?_
    refine sn (v_gr (n := q.length) (ds := tokZ ((i : Int), l[i], -(i : Int))) 0 rfl rfl rfl rfl (toksZ_length q) rfl rfl rfl rfl rfl rfl rfl rfl (by decide) rfl (by show (q.length + 1) * 32 ≤ _; omega) (by omega)) (show _ = gV 0 (q ++ [((i : Int), l[i], -(i : Int))]).length by rw [hal]) (show _ = [gO 46 3 (toksZ (q ++ [((i : Int), l[i], -(i : Int))])) (q ++ [((i : Int), l[i], -(i : Int))]).length] by rw [← happ, hal]; rfl) rfl rfl rfl ?_
    refine z_p ?_
    refine WL.nil ?_
    refine W.region ?_
    refine z_i ?_
    refine z_p ?_
    refine WL.nil ?_
    exact ⟨l.length - (i + 1), _, _, by omega, ⟨i + 1, q ++ [((i : Int), l[i], -(i : Int))], rfl, by omega, hq2, rfl⟩, (by cases q <;> exact (by refine ⟨?_, ?_, rfl, Nat.le_of_ble_eq_true rfl⟩ <;> repeat (first | exact trivial | exact rfl | refine ⟨rfl, ?_⟩ | refine ⟨.inr ⟨rfl, ?_⟩, ?_⟩ | refine ⟨.inl rfl, ?_⟩)))⟩
  · have hie : i = l.length := by omega
    subst hie
    rw [← hq] at hj1
    clear hq
    refine W.seq (W.region ?_)
    refine z_F (show ¬ (l.length : Int) < l.length by omega) ?_
    refine WL.nil ?_
    refine W.seq (W.cond_false rfl (W.exit ?_))
    refine W.seq (W.region ?_)
    refine z_c (hrep) ?_
    refine z_p ?_
    refine WL.nil ?_
    refine W.seq (W.cut [(0, .row (strsAV l) l.length), (1, .bool b), (5, gV 0 q.length), (8, .str W2)] [gO 46 3 (toksZ q) q.length] ?_ ?_)
    · --@ n 1
      refine W.seq (W.region ?_)
      refine z_p ?_
      refine WL.nil ?_
      cases b with
      | true =>
        refine W.cond_true rfl ?_
        refine W.region ?_
        refine z_p ?_
        refine sq (v_cat (b := [32]) rfl rfl rfl (by (try simp only [List.length_append, List.length_cons, List.length_nil]); omega)) (show _ = AV.str W2 from congrArg AV.str (by rw [hW2]; rfl)) rfl rfl rfl ?_
        refine z_p ?_
        refine WL.nil ?_
        exact ⟨rfl, by cases q <;> exact (by refine ⟨?_, ?_, rfl, Nat.le_of_ble_eq_true rfl⟩ <;> repeat (first | exact trivial | exact rfl | refine ⟨rfl, ?_⟩ | refine ⟨.inr ⟨rfl, ?_⟩, ?_⟩ | refine ⟨.inl rfl, ?_⟩))⟩
      | false =>
        have hW3 : W1 = W2 := by rw [hW2]; rfl
        refine W.cond_false rfl (W.skip ?_)
        rw [hW3]
        exact ⟨rfl, by cases q <;> exact (by refine ⟨?_, ?_, rfl, Nat.le_of_ble_eq_true rfl⟩ <;> repeat (first | exact trivial | exact rfl | refine ⟨rfl, ?_⟩ | refine ⟨.inr ⟨rfl, ?_⟩, ?_⟩ | refine ⟨.inl rfl, ?_⟩))⟩
    · --@ n 1
      refine W.seq (W.region ?_)
      refine z_p ?_
      refine z_c (hlex) ?_
      refine z_p ?_
      refine z_p ?_
      refine z_p ?_
      refine z_p ?_
      refine z_p ?_
      refine z_p ?_
      refine z_p ?_
      refine WL.nil ?_
      cases q with
      | nil =>
        refine W.seq (W.region ?_)
        refine z_c (wakes08_spec) ?_
        refine z_p ?_
        refine sp (VStep.sub (v_pure rfl) Sub.nils) rfl rfl rfl ?_
        refine z_c (hj1) ?_
        refine z_p ?_
        refine z_c (hj2) ?_
        refine sq (v_pure rfl) (show _ = AV.bool true from congrArg AV.bool (beq_self_eq_true _)) rfl rfl rfl ?_
        refine z_p ?_
        refine z_p ?_
        refine z_p ?_
        refine sq (v_pure rfl) (show _ = AV.bool b from congrArg AV.bool h7) rfl rfl rfl ?_
        refine z_p ?_
        refine sq (v_eq_bool rfl rfl rfl rfl rfl) (show _ = AV.bool true from congrArg AV.bool (beq_self_eq_true _)) rfl rfl rfl ?_
        refine z_p ?_
        refine z_p ?_
        refine z_p ?_
        refine sq (v_len rfl rfl rfl rfl ⟨_, rfl⟩ trivial) (show _ = AV.int .i64 0 from rfl) rfl rfl rfl ?_
        refine z_p ?_
        refine z_p ?_
        refine z_p ?_
        refine z_p ?_
        refine z_p ?_
        refine z_p ?_
        refine z_p ?_
        refine WL.nil ?_
        exact W.ret (fin rfl (.shut (.plain rfl) .nil) rfl)
      | cons g r =>
        refine W.seq (W.region ?_)
        refine z_c (wakes08_spec) ?_
        refine z_p ?_
        refine z_p ?_
        refine sk hj1 rfl rfl rfl rfl (.lend rfl (by simp [toksZ_length]) .nil) (by rw [List.drop_zero, List.take_of_length_le (by rw [toksZ_length]; simp)]; rfl) rfl (one_mine rfl) rfl rfl rfl rfl ?_
        refine z_p ?_
        refine z_c (hj2) ?_
        refine sq (v_pure rfl) (show _ = AV.bool true from congrArg AV.bool (beq_self_eq_true _)) rfl rfl rfl ?_
        refine z_p ?_
        refine z_p ?_
        refine z_p ?_
        refine sq (v_pure rfl) (show _ = AV.bool b from congrArg AV.bool h7) rfl rfl rfl ?_
        refine z_p ?_
        refine sq (v_eq_bool rfl rfl rfl rfl rfl) (show _ = AV.bool true from congrArg AV.bool (beq_self_eq_true _)) rfl rfl rfl ?_
        refine z_p ?_
        refine z_p ?_
        refine z_p ?_
        refine sq (v_len rfl rfl rfl rfl ⟨_, rfl⟩ trivial) (show _ = AV.int .i64 0 from rfl) rfl rfl rfl ?_
        refine z_p ?_
        refine z_p ?_
        refine z_p ?_
        refine z_p ?_
        refine z_p ?_
        refine z_p ?_
        refine z_p ?_
        refine WL.nil ?_
        exact W.ret (fin rfl (.shut (.plain rfl) .nil) rfl)

theorem avOfL_strs {H : Type} : ∀ (ds : List (DataW H)), (∀ x ∈ ds, ∃ l, x = .lit (.string l) ∧ l.length ≤ maxLen) → ∃ l : List (List UInt8), l.length = ds.length ∧ avOfL ds = strsAV l ∧ Lib.lens l ≤ Rows.uptoBulkAll ds
  | [], _ => ⟨[], rfl, rfl, Nat.le_refl _⟩
  | d :: ds, h => by
    obtain ⟨s, rfl, hs⟩ := h d (by simp)
    obtain ⟨l, h2, h3, h4⟩ := avOfL_strs ds fun x hx => h x (by simp [hx])
    refine ⟨s :: l, by simp [h2], ?_, ?_⟩
    · simp only [avOfL, avOf, h3, strsAV, List.map_cons]; rfl
    · simp only [Lib.lens, List.map_cons, List.sum_cons, Rows.uptoBulkAll, Rows.uptoBulk] at h4 ⊢; omega
theorem shape_strs {H : Type} {g : Nat} {d : DataW H} (h : d = .nil ∨ ∃ ds rest, d = .slice ds rest ∧ ds.length ≤ maxLen ∧ ∀ x ∈ ds, shapeT tab (g + 1) 9 x) :
    ∃ l : List (List UInt8), l.length ≤ 9223372036854775807 ∧ Sub ((avOf d).headD .any) (.row (strsAV l) l.length) ∧ (∃ c, avOf d = [c]) ∧ Lib.lens l ≤ Rows.uptoBulk d := by
  rcases h with rfl | ⟨ds, rest, rfl, hl, hx⟩
  · exact ⟨[], by simp, Sub.nils, ⟨_, rfl⟩, Nat.zero_le _⟩
  · obtain ⟨l, h2, h3, h4⟩ := avOfL_strs ds fun x hx' => hx x hx'
    refine ⟨l, by rw [h2]; simpa [maxLen] using hl, ?_, ⟨_, rfl⟩, ?_⟩
    · simp only [avOf, List.headD_cons, h3, h2]
      exact Sub.refl _
    · simp only [Rows.uptoBulk]; omega
theorem lexLong_all {H : Type} (ds : List (DataW H)) (h : shapes (shapeT tab 8) [53, 4] ds) (hk : Rows.uptoSmall H ds = true) : Does Tryd.prog 9 (ds.map avArg) (.bool true) := by
  obtain ⟨d1, _, rfl, h1, ⟨d2, _, rfl, ⟨b, rfl⟩, rfl⟩⟩ := h
  obtain ⟨l, a1, a2, ⟨c, h4⟩, a3⟩ := shape_strs (g := 6) h1
  have hb := bulk_part (show d1 ∈ [d1, .lit (.bool b)] by simp)
  have hb2 := bulk_bound hk
  refine (lexLong_spec l b a1 (by omega)).sub ⟨?_, Sub.refl _, trivial⟩
  rw [avArg_slice h4 (h1.imp id fun ⟨ds, r, h, _⟩ => ⟨ds, r, h⟩)]
  exact a2

end Go.Proofs.YtfiohajalaejoaaDoor
