/- Lens, part 16: what comes in, and what a law's row asks. lex: Join; layer 8: wakes, LexTells. Layer 8: wakes, LexTells. Plain law of tokens: where they stand, and what they are when they stand elsewhere. strings.Builder: what its methods do to a builder of the call's own. Lens, part 21: jumps back to a label; calls that tell a predicate of their result, and calls that hand back a slice of their own. Lens, part 22: rows of bytes that are handed out unset; cap, copy of nothing. strings.Builder: Grow, Len. -/
import Derived.Test.YtfiohajalaejoaaDoorKLexBlanks9
import Derived.Carry
import Derived.WalkKit
import Derived.ProofKit
import Derived.ChangeOld
import Derived.ChangeArms
import Derived.OpenShut
import Derived.DataElems
import Derived.SizedLaws
import Derived.ScopeJumps
import Derived.Lib.MakeNoZero

set_option linter.unusedVariables false
set_option linter.unusedSimpArgs false
namespace Go.Lens
open Go Go.RowKit

mutual
/-- the data that came in, as abstract values -/
def avOf {H : Type} : DataW H → List AV
  | .lit (.int k n) => [.int k n]
  | .lit (.bool b) => [.bool b]
  | .lit (.string l) => [.str l]
  | .nil => [.nils]
  | .slice ds _ => [.row (avOfL ds) ds.length]
  | .agg ds => avOfL ds
  | _ => [.any]
def avOfL {H : Type} : List (DataW H) → List AV
  | [] => []
  | d :: ds => avOf d ++ avOfL ds
end

/-- what is left behind by a call to which nothing was handed to be written -/
theorem Left.below {w : World} {H : View} {w' : World} {H' : View} (h : Left w H [] w' H' []) : Below w.heap.size w w' :=
  ⟨h.os, h.tape, h.output, h.size, fun k hk => h.frame k hk (fun o ob ho => by simp at ho)⟩

/-- the view of a call's beginning: nothing is known, nothing may be written -/
def View.none : View := ⟨0, fun _ => 0, fun _ => 0, fun _ => 0, fun _ => 0, fun _ => False⟩
theorem Objs.none (w : World) : Objs w View.none [] := ⟨rfl, fun o ob h => by simp at h, fun o o' ob ob' h => by simp at h, fun b h => h.elim⟩

/-- a law that answers true leaves the world as it was -/
theorem Does.calls {P : Program} {f : FuncId} {args : List AV} {r : AV} (h : Does P f args r) {w : World} {vs : List Value} (hr : RelL w args View.none vs) :
    Calls P f vs.toArray w fun e w' => ∃ v H', e = .returned v ∧ RelV w' r H' v ∧ Below w.heap.size w w' := by
  refine (h.2 View.none w vs (Objs.none w) hr).mono fun e w' ⟨r', os, H', v, he, ⟨h1, h2⟩, h3, h4⟩ => ?_
  subst h1; subst h2
  exact ⟨v, H', he, h3, h4.below⟩

/-- the fields lie one behind the other, and fill the whole -/
def tiles (T : Tab) (size : Nat) : Nat → List (Nat × TypeId) → Bool
  | n, [] => n == size
  | n, (off, t) :: fs => off == n && (match T.at t with | some y => tiles T size (n + y.size) fs | none => false)
/-- a type of whole numbers, truth values, strings, and of structs, arrays and slices of such -/
def goodT (T : Tab) : Nat → TypeId → Bool
  | 0, _ => false
  | f + 1, t => match T.at t with
    | some y => (match y.k with
      | .int _ => y.size == 1
      | .bool => y.size == 1
      | .string => y.size == 1
      | .slice e => y.size == 1 && goodT T f e
      | .array n e => goodT T f e && (match T.at e with | some ye => y.size == n * ye.size | none => false)
      | .struct fs => tiles T y.size 0 fs && fs.all (fun q => goodT T f q.2)
      | _ => false)
    | none => false

theorem mapM_some {α β : Type} {f : α → Option β} : ∀ {l : List α} {r : List β}, l.mapM f = some r → l.length = r.length ∧ ∀ (j : Nat) (x : α), l[j]? = some x → ∃ y, r[j]? = some y ∧ f x = some y
  | [], r, h => by simp at h; subst h; exact ⟨rfl, fun j x h => by simp at h⟩
  | a :: l, r, h => by
    simp only [List.mapM_cons, Option.bind_eq_bind, Option.pure_def] at h
    obtain ⟨b, h1, h2⟩ := Option.bind_eq_some_iff.1 h
    obtain ⟨r', h3, h4⟩ := Option.bind_eq_some_iff.1 h2
    injection h4 with h4; subst h4
    obtain ⟨k1, k2⟩ := mapM_some h3
    refine ⟨by simp [k1], fun j x hj => ?_⟩
    cases j with
    | zero => simp at hj; subst hj; exact ⟨b, rfl, h1⟩
    | succ j => simpa using k2 j x (by simpa using hj)

theorem tabTy {P : Program} {T : Tab} (ok : TabOK P T) {t : TypeId} {y : Ty} (h : T.at t = some y) : ∃ d i, P.underlying t = some d ∧ P.info? t = some i ∧ y.k = kOf d ∧ y.size = i.size ∧ y.bytes = i.bytes ∧ y.zero = i.zero.map fun z => z.cells.toList := tyOf_spec (ok t y h)
theorem cellsOf_tab {P : Program} {T : Tab} (ok : TabOK P T) {t : TypeId} {y : Ty} (h : T.at t = some y) : P.cellsOf t = y.size := by
  obtain ⟨d, i, _, hi, _, hs, _⟩ := tabTy ok h
  simp [Program.cellsOf, hi, hs]

theorem avOfL_append {H : Type} : ∀ (a b : List (DataW H)), avOfL (a ++ b) = avOfL a ++ avOfL b
  | [], b => by simp [avOfL]
  | d :: a, b => by simp [avOfL, avOfL_append a b, List.append_assoc]

/-- cells that are read in pieces -/
theorem pieces_rel {H : Type} {w : World} : ∀ (xs : List (DataW H × List MemPlace)) (L : Nat → List Value), (∀ i x, xs[i]? = some x → RelL w (avOf x.1) View.none (L i)) →
    RelL w (avOfL (xs.map (·.1))) View.none ((List.range xs.length).flatMap L)
  | [], L, _ => by simp [avOfL, RelL]
  | x :: xs, L, h => by
    rw [List.length_cons, List.range_succ_eq_map]
    simp only [List.map_cons, avOfL, List.flatMap_cons, List.flatMap_map]
    exact (h 0 x rfl).append (pieces_rel xs (fun i => L (i + 1)) fun i y hy => h (i + 1) y (by simpa using hy))
theorem chunks {k : Nat} : ∀ (n : Nat) (cs : List Value), cs.length = n * k → (List.range n).flatMap (fun i => (cs.drop (i * k)).take k) = cs
  | 0, cs, h => by
    have : cs = [] := List.length_eq_zero_iff.1 (by simpa using h)
    subst this; rfl
  | n + 1, cs, h => by
    rw [List.range_succ_eq_map]
    simp only [List.flatMap_cons, List.flatMap_map, Nat.zero_mul, List.drop_zero]
    have e := chunks n (cs.drop k) (by rw [List.length_drop, h, Nat.succ_mul, Nat.add_sub_cancel])
    have e2 : (fun i => (cs.drop (Nat.succ i * k)).take k) = fun i => ((cs.drop k).drop (i * k)).take k := by
      funext i; rw [List.drop_drop, Nat.succ_mul, Nat.add_comm]
    rw [e2, e, List.take_append_drop]

/-- what a reading of an argument tells -/
theorem trod_rel {H : Type} {enc : TypeId × Value → H} {P : Program} {T : Tab} (ok : TabOK P T) {w : World} : ∀ (fuel g : Nat) (t : TypeId) (cs : List Value) (d : DataW H) (ps : List MemPlace),
    DataW.trod enc P w 0 (fun _ => true) true fuel t cs = some (d, ps) → goodT T g t = true → RelL w (avOf d) View.none cs ∧ cs.length = P.cellsOf t := by
  intro fuel
  induction fuel with
  | zero => intro g t cs d ps h; simp [DataW.trod] at h
  | succ fuel ih =>
    intro g t cs d ps h hg
    cases g with
    | zero => simp [goodT] at hg
    | succ g =>
      simp only [goodT] at hg
      cases hy : T.at t with
      | none => rw [hy] at hg; cases hg
      | some y =>
        rw [hy] at hg
        obtain ⟨dd, inf, hd, _, hk, _⟩ := tabTy ok hy
        have hcell := cellsOf_tab ok hy
        simp only [hk] at hg
        cases dd <;> simp only [kOf] at hg <;> try (cases hg; done)
        case int k =>
          have hsz : y.size = 1 := by simpa using hg
          rcases cs with _ | ⟨v, _ | ⟨v2, r⟩⟩
          · simp [DataW.trod, hd] at h
          · cases v <;> simp only [DataW.trod, hd] at h <;> try (simp at h; done)
            split at h
            · rename_i hq
              injection h with h; injection h with h1 h2
              subst h1
              obtain ⟨rfl, _⟩ := hq
              exact ⟨RelL_cons rfl RelL_nil, by rw [hcell, hsz]; rfl⟩
            · cases h
          · simp [DataW.trod, hd] at h
        case bool =>
          have hsz : y.size = 1 := by simpa using hg
          rcases cs with _ | ⟨v, _ | ⟨v2, r⟩⟩
          · simp [DataW.trod, hd] at h
          · cases v <;> simp only [DataW.trod, hd] at h <;> try (simp at h; done)
            injection h with h; injection h with h1 h2
            subst h1
            exact ⟨RelL_cons rfl RelL_nil, by rw [hcell, hsz]; rfl⟩
          · simp [DataW.trod, hd] at h
        case string =>
          have hsz : y.size = 1 := by simpa using hg
          rcases cs with _ | ⟨v, _ | ⟨v2, r⟩⟩
          · simp [DataW.trod, hd] at h
          · cases v <;> simp only [DataW.trod, hd] at h <;> try (simp at h; done)
            split at h
            · injection h with h; injection h with h1 h2
              subst h1
              exact ⟨RelL_cons rfl RelL_nil, by rw [hcell, hsz]; rfl⟩
            · cases h
          · simp [DataW.trod, hd] at h
        case slice e =>
          have hsz : y.size = 1 := by simp at hg; exact hg.1
          have hge : goodT T g e = true := by simp at hg; exact hg.2
          rcases DataW.trod_slice hd h with ⟨rfl, hx⟩ | ⟨a, len, cap, elems, rest, m, hm, rfl, hx, _, hl, _, hlen, hel, _, _⟩
          · injection hx with h1 h2
            subst h1
            exact ⟨RelL_cons rfl RelL_nil, by rw [hcell, hsz]; rfl⟩
          · injection hx with h1 h2
            subst h1
            obtain rfl : fuel = m := by omega
            refine ⟨RelL_cons ?_ RelL_nil, by rw [hcell, hsz]; rfl⟩
            have hp : ∀ i x, elems[i]? = some x → RelL w (avOf x.1) View.none ((w.cells? 0 (a.add (i * P.cellsOf e)) (P.cellsOf e)).getD []) := by
              intro i x hx
              have hi : i < len := by rw [← hlen]; exact (List.getElem?_eq_some_iff.1 hx).1
              have hh := hel i hi
              rw [hx] at hh
              obtain ⟨cs, h1, h2⟩ := Option.bind_eq_some_iff.1 hh
              rw [h1]
              exact (ih g e cs x.1 x.2 h2 hge).1
            have hr := pieces_rel elems _ hp
            refine ⟨some a, cap, _, by rw [List.length_map, hlen], by rw [List.length_map, hlen]; exact hl, hr, fun _ => ⟨a, rfl, ?_, id⟩⟩
            have hat : ∀ n, n ≤ elems.length → At w a ((List.range n).flatMap fun i => (w.cells? 0 (a.add (i * P.cellsOf e)) (P.cellsOf e)).getD []) ∧ ((List.range n).flatMap fun i => (w.cells? 0 (a.add (i * P.cellsOf e)) (P.cellsOf e)).getD []).length = n * P.cellsOf e := by
              intro n
              induction n with
              | zero => intro _; exact ⟨fun j u h => by simp at h, by simp⟩
              | succ n ihn =>
                intro hn
                obtain ⟨k1, k2⟩ := ihn (by omega)
                have hh := hel n (by omega)
                rw [List.getElem?_eq_getElem (by omega)] at hh
                obtain ⟨cs, h1, h2⟩ := Option.bind_eq_some_iff.1 hh
                obtain ⟨_, hcl, hcc⟩ := World.cells?_some h1
                rw [List.range_succ, List.flatMap_append]
                simp only [List.flatMap_cons, List.flatMap_nil, List.append_nil]
                rw [h1, Option.getD_some]
                refine ⟨fun j u hj => ?_, by rw [List.length_append, k2, hcl, Nat.succ_mul]⟩
                by_cases hjl : j < n * P.cellsOf e
                · rw [List.getElem?_append_left (by rw [k2]; exact hjl)] at hj
                  exact k1 j u hj
                · rw [List.getElem?_append_right (by rw [k2]; omega), k2] at hj
                  have hlt : j - n * P.cellsOf e < P.cellsOf e := by
                    have := (List.getElem?_eq_some_iff.1 hj).1; rw [hcl] at this; exact this
                  have := hcc _ hlt
                  rw [hj, Addr.add_add] at this
                  rw [← this]
                  congr 2; omega
            exact (hat elems.length (Nat.le_refl _)).1
        case array n e =>
          obtain ⟨xs, m, hm, hx, hl, hxl, hel⟩ := DataW.trod_array hd h
          injection hx with h1 h2
          subst h1
          obtain rfl : fuel = m := by omega
          refine ⟨?_, hl⟩
          cases he : T.at e with
          | none => rw [he] at hg; simp at hg
          | some ye =>
            rw [he] at hg
            simp only [Bool.and_eq_true, beq_iff_eq] at hg
            have hce := cellsOf_tab ok he
            have hr := pieces_rel xs (fun i => (cs.drop (i * P.cellsOf e)).take (P.cellsOf e)) fun i x hx => by
              have hi : i < n := by rw [← hxl]; exact (List.getElem?_eq_some_iff.1 hx).1
              exact (ih g e _ x.1 x.2 ((hel i hi).trans hx) hg.1).1
            rw [hxl, chunks n cs (by rw [hl, hcell, hce]; exact hg.2)] at hr
            exact hr
        case struct fs =>
          obtain ⟨xs, m, hm, hx, hl, hxl, hel⟩ := DataW.trod_struct hd h
          injection hx with h1 h2
          subst h1
          obtain rfl : fuel = m := by omega
          refine ⟨?_, hl⟩
          simp only [Bool.and_eq_true] at hg
          have hgo : ∀ (l : List Field) (n : Nat) (ys : List (DataW H × List MemPlace)), tiles T y.size n (l.map fun f => (f.offset, f.type)) = true → (∀ f, f ∈ l → goodT T g f.type = true) → ys.length = l.length →
              (∀ (i : Nat) (f : Field), l[i]? = some f → DataW.trod enc P w 0 (fun _ => true) true fuel f.type ((cs.drop f.offset).take (P.cellsOf f.type)) = ys[i]?) → RelL w (avOfL (ys.map (·.1))) View.none (cs.drop n) := by
            intro l
            induction l with
            | nil =>
              intro n ys ht _ hyl _
              have : ys = [] := List.length_eq_zero_iff.1 hyl
              subst this
              have hn : n = y.size := by simpa [tiles] using ht
              rw [List.drop_of_length_le (by rw [hl, hcell, hn]; exact Nat.le_refl _)]
              exact rfl
            | cons f l ihl =>
              intro n ys ht hgd hyl hel
              cases ys with
              | nil => simp at hyl
              | cons x ys =>
                simp only [List.map_cons, tiles, Bool.and_eq_true, beq_iff_eq] at ht
                obtain ⟨hoff, ht⟩ := ht
                cases hfy : T.at f.type with
                | none => rw [hfy] at ht; cases ht
                | some yf =>
                  rw [hfy] at ht
                  have h0 := hel 0 f rfl
                  rw [hoff] at h0
                  have hx0 := (ih g f.type _ x.1 x.2 (h0.trans rfl) (hgd f (List.mem_cons_self ..))).1
                  have hr := ihl (n + yf.size) ys ht (fun f' hf' => hgd f' (List.mem_cons_of_mem _ hf')) (by simpa using hyl) fun i f' hf' => by simpa using hel (i + 1) f' (by simpa using hf')
                  rw [List.map_cons, avOfL]
                  have e : cs.drop n = (cs.drop n).take (P.cellsOf f.type) ++ cs.drop (n + yf.size) := by
                    rw [cellsOf_tab ok hfy, ← List.drop_drop, List.take_append_drop]
                  rw [e]
                  exact hx0.append hr
          have := hgo fs.toList 0 xs hg.1 (fun f hf => by
            have := List.all_eq_true.1 hg.2 (f.offset, f.type) (List.mem_map.2 ⟨f, hf, rfl⟩)
            exact this) (by simpa using hxl) (fun i f hf => hel i f (by simpa using hf))
          rw [List.drop_zero] at this
          exact this

/-- an argument, as an abstract value -/
def avArg {H : Type} : DataW H → AV
  | .agg ds => .agg (avOfL ds)
  | d => (avOf d).headD .any

theorem arg_rel {H : Type} {enc : TypeId × Value → H} {P : Program} {T : Tab} (ok : TabOK P T) {w w' : World} {r : Reach} {base g : Nat} {t : TypeId} {v : Value} {d : DataW H} {ps : List MemPlace} (hok : Value.okWide P w' r base t v)
    (h : DataW.Trod enc P w 0 (fun _ => true) true t v d ps) (hg : goodT T g t = true) : RelV w (avArg d) View.none v := by
  obtain ⟨fuel, h⟩ := h
  obtain ⟨hr, _⟩ := trod_rel ok fuel g t _ d ps h hg
  cases g with
  | zero => simp [goodT] at hg
  | succ g =>
    simp only [goodT] at hg
    cases hy : T.at t with
    | none => rw [hy] at hg; cases hg
    | some y =>
      rw [hy] at hg
      obtain ⟨dd, inf, hd, _, hk, _⟩ := tabTy ok hy
      simp only [hk] at hg
      cases dd <;> simp only [kOf] at hg <;> try (cases hg; done)
      case int k =>
        obtain ⟨n, h1, h2, _⟩ := DataW.trod_int hd h
        injection h2 with h2 h3; subst h2
        obtain ⟨u, vs, e, hu, e2⟩ := hr
        simp only [RelV] at hu; subst hu
        cases v <;> simp_all [Value.cells, Value.okWide, Cell.okWide, Cell.ok, avArg, avOf, RelV]
      case bool =>
        obtain ⟨n, h1, h2⟩ := DataW.trod_bool hd h
        injection h2 with h2 h3; subst h2
        obtain ⟨u, vs, e, hu, e2⟩ := hr
        simp only [RelV] at hu; subst hu
        cases v <;> simp_all [Value.cells, Value.okWide, Cell.okWide, Cell.ok, avArg, avOf, RelV]
      case string =>
        obtain ⟨n, h1, h2, _⟩ := DataW.trod_string hd h
        injection h2 with h2 h3; subst h2
        obtain ⟨u, vs, e, hu, e2⟩ := hr
        simp only [RelV] at hu; subst hu
        cases v <;> simp_all [Value.cells, Value.okWide, Cell.okWide, Cell.ok, avArg, avOf, RelV]
      case slice e =>
        have hv : v.cells.toList = [v] := by
          simp only [Value.okWide, hd, Cell.okWide] at hok
          cases v <;> simp_all [Cell.ok, Value.cells]
        rw [hv] at hr
        rcases DataW.trod_slice hd h with ⟨_, hx⟩ | ⟨a, len, cap, elems, rest, m, _, _, hx, _⟩
        · injection hx with h1 h2
          subst h1
          obtain ⟨u, vs, e, hu, _⟩ := hr
          injection e with e _; subst e
          exact hu
        · injection hx with h1 h2
          subst h1
          obtain ⟨u, vs, e, hu, _⟩ := hr
          injection e with e _; subst e
          exact hu
      case array n e =>
        obtain ⟨xs, m, _, hx, _⟩ := DataW.trod_array hd h
        injection hx with h1 h2
        subst h1
        simp only [Value.okWide, hd] at hok
        obtain ⟨cs, rfl, _⟩ := hok
        exact ⟨cs.toList, rfl, hr⟩
      case struct fs =>
        obtain ⟨xs, m, _, hx, _⟩ := DataW.trod_struct hd h
        injection hx with h1 h2
        subst h1
        simp only [Value.okWide, hd] at hok
        obtain ⟨cs, rfl, _⟩ := hok
        exact ⟨cs.toList, rfl, hr⟩

theorem args_rel {H : Type} {enc : TypeId × Value → H} {P : Program} {T : Tab} (ok : TabOK P T) {w w' : World} {r : Reach} {base g : Nat} : ∀ {ts : List TypeId} {vs : List Value} {ds : List (DataW H)} {ps : List MemPlace},
    (∀ (j : Nat) t v, ts[j]? = some t → vs[j]? = some v → Value.okWide P w' r base t v) → DataW.TrodAll enc P w 0 (fun _ => true) true ts vs ds ps → ts.all (goodT T g) = true → RelL w (ds.map avArg) View.none vs
  | [], [], [], _, _, _, _ => rfl
  | t :: ts, v :: vs, d :: ds, _, hok, ⟨p, q, h1, h2, _⟩, hg => by
    simp only [List.all_cons, Bool.and_eq_true] at hg
    exact RelL_cons (arg_rel ok (hok 0 t v rfl rfl) h1 hg.1) (args_rel ok (fun j t v ht hv => hok (j + 1) t v (by simpa using ht) (by simpa using hv)) h2 hg.2)
  | [], [], _ :: _, _, _, h, _ => h.elim
  | [], _ :: _, _, _, _, h, _ => h.elim
  | _ :: _, [], _, _, _, h, _ => h.elim
  | _ :: _, _ :: _, [], _, _, h, _ => h.elim

/-- what a type says of data -/
def shapes {H : Type} (p : TypeId → DataW H → Prop) : List TypeId → List (DataW H) → Prop
  | [], ds => ds = []
  | t :: ts, ds => ∃ d r, ds = d :: r ∧ p t d ∧ shapes p ts r
def shapeT {H : Type} (T : Tab) : Nat → TypeId → DataW H → Prop
  | 0, _, _ => True
  | f + 1, t, d => match T.at t with
    | some y => (match y.k with
      | .int k => ∃ n, d = .lit (.int k n) ∧ (Lit.int k n).wf = true
      | .bool => ∃ b, d = .lit (.bool b)
      | .string => ∃ l, d = .lit (.string l) ∧ l.length ≤ maxLen
      | .slice e => d = .nil ∨ ∃ ds rest, d = .slice ds rest ∧ ds.length ≤ maxLen ∧ ∀ x ∈ ds, shapeT T f e x
      | .array n e => ∃ ds, d = .agg ds ∧ ds.length = n ∧ ∀ x ∈ ds, shapeT T f e x
      | .struct fs => ∃ ds, d = .agg ds ∧ shapes (shapeT T f) (fs.map (·.2)) ds
      | _ => True)
    | none => True

theorem shapes_of {H : Type} {p : TypeId → DataW H → Prop} : ∀ {ts : List TypeId} {ds : List (DataW H)}, ts.length = ds.length → (∀ (j : Nat) t d, ts[j]? = some t → ds[j]? = some d → p t d) → shapes p ts ds
  | [], [], _, _ => rfl
  | t :: ts, d :: ds, hl, h => ⟨d, ds, rfl, h 0 t d rfl rfl, shapes_of (by simpa using hl) fun j t d ht hd => h (j + 1) t d (by simpa using ht) (by simpa using hd)⟩
  | [], _ :: _, hl, _ => by simp at hl
  | _ :: _, [], hl, _ => by simp at hl

theorem trod_shape {H : Type} {enc : TypeId × Value → H} {P : Program} {T : Tab} (ok : TabOK P T) {w : World} : ∀ (fuel g : Nat) (t : TypeId) (cs : List Value) (x : DataW H × List MemPlace),
    DataW.trod enc P w 0 (fun _ => true) true fuel t cs = some x → shapeT T g t x.1 := by
  intro fuel
  induction fuel with
  | zero => intro g t cs x h; simp [DataW.trod] at h
  | succ fuel ih =>
    intro g t cs x h
    cases g with
    | zero => trivial
    | succ g =>
      simp only [shapeT]
      cases hy : T.at t with
      | none => trivial
      | some y =>
        obtain ⟨dd, inf, hd, _, hk, _⟩ := tabTy ok hy
        simp only [hk]
        cases dd <;> simp only [kOf]
        case int k => obtain ⟨n, _, rfl, hw⟩ := DataW.trod_int hd h; exact ⟨n, rfl, hw⟩
        case bool => obtain ⟨n, _, rfl⟩ := DataW.trod_bool hd h; exact ⟨n, rfl⟩
        case string => obtain ⟨s, _, rfl, hs⟩ := DataW.trod_string hd h; exact ⟨_, rfl, hs⟩
        case slice e =>
          rcases DataW.trod_slice hd h with ⟨_, rfl⟩ | ⟨a, len, cap, elems, rest, m, hm, _, rfl, _, hl, hc, hlen, hel, _, _⟩
          · exact .inl rfl
          · obtain rfl : fuel = m := by omega
            refine .inr ⟨_, _, rfl, by rw [List.length_map, hlen]; exact Nat.le_trans hl hc, fun d hd => ?_⟩
            obtain ⟨z, hz, rfl⟩ := List.mem_map.1 hd
            obtain ⟨i, hi⟩ := List.getElem?_of_mem hz
            have hh := hel i (by rw [← hlen]; exact (List.getElem?_eq_some_iff.1 hi).1)
            rw [hi] at hh
            obtain ⟨cs', _, h2⟩ := Option.bind_eq_some_iff.1 hh
            exact ih g e cs' z h2
        case array n e =>
          obtain ⟨xs, m, hm, rfl, _, hxl, hel⟩ := DataW.trod_array hd h
          obtain rfl : fuel = m := by omega
          refine ⟨_, rfl, by rw [List.length_map, hxl], fun d hd => ?_⟩
          obtain ⟨z, hz, rfl⟩ := List.mem_map.1 hd
          obtain ⟨i, hi⟩ := List.getElem?_of_mem hz
          have hh := hel i (by rw [← hxl]; exact (List.getElem?_eq_some_iff.1 hi).1)
          rw [hi] at hh
          exact ih g e _ z hh
        case struct fs =>
          obtain ⟨xs, m, hm, rfl, _, hxl, hel⟩ := DataW.trod_struct hd h
          obtain rfl : fuel = m := by omega
          refine ⟨_, rfl, shapes_of (by simp [hxl]) fun j t d ht hd => ?_⟩
          simp only [List.map_map, List.getElem?_map, Option.map_eq_some_iff, Array.getElem?_toList] at ht hd
          obtain ⟨f, hf, rfl⟩ := ht
          obtain ⟨z, hz, rfl⟩ := hd
          exact ih g _ _ z ((hel j f hf).trans hz)

theorem args_shape {H : Type} {enc : TypeId × Value → H} {P : Program} {T : Tab} (ok : TabOK P T) {w : World} {g : Nat} : ∀ {ts : List TypeId} {vs : List Value} {ds : List (DataW H)} {ps : List MemPlace},
    DataW.TrodAll enc P w 0 (fun _ => true) true ts vs ds ps → shapes (shapeT T g) ts ds
  | [], [], [], _, _ => rfl
  | t :: ts, v :: vs, d :: ds, _, ⟨p, q, ⟨fuel, h1⟩, h2, _⟩ => ⟨d, ds, rfl, trod_shape ok fuel g t _ (d, p) h1, args_shape ok h2⟩
  | [], [], _ :: _, _, h => h.elim
  | [], _ :: _, _, _, h => h.elim
  | _ :: _, [], _, _, h => h.elim
  | _ :: _, _ :: _, [], _, h => h.elim
theorem shapes.length {H : Type} {p : TypeId → DataW H → Prop} : ∀ {ts : List TypeId} {ds : List (DataW H)}, shapes p ts ds → ds.length = ts.length
  | [], _, h => by cases h; rfl
  | _ :: _, _, ⟨_, _, rfl, _, h⟩ => by simp [shapes.length h]

/-- the arguments read behind the call as they did ahead of it -/
theorem Below.trodAll {H : Type} {enc : TypeId × Value → H} {P : Program} (hl : laidOutB P = true) {W W' : World} (hb : Below W.heap.size W W') : ∀ {ts : List TypeId} {vs : List Value} {ds : List (DataW H)} {ps : List MemPlace},
    ts.all (fun t => P.readableRec t && decide (t < P.types.size)) = true → DataW.TrodAll enc P W 0 (fun _ => true) true ts vs ds ps → DataW.TrodAll enc P W' 0 (fun b => decide (b < W.heap.size)) true ts vs ds ps
  | [], [], [], _, _, h => h
  | t :: ts, v :: vs, d :: ds, _, hg, ⟨p, q, h1, h2, e⟩ => by
    simp only [List.all_cons, Bool.and_eq_true, decide_eq_true_eq] at hg
    refine ⟨p, q, Below.trod hl hg.1.1 hg.1.2 h1 hb ?_, Below.trodAll hl hb hg.2 h2, e⟩
    obtain ⟨m, hm⟩ := h1
    exact DataW.trod_lt m _ _ _ hm
  | [], [], _ :: _, _, _, h => h.elim
  | [], _ :: _, _, _, _, h => h.elim
  | _ :: _, [], _, _, _, h => h.elim
  | _ :: _, _ :: _, [], _, _, h => h.elim

/-- the first so many -/
theorem min_nat (n k : Nat) : AV.int .i64 (if (k : Int) < (n : Int) then (k : Int) else (n : Int)) = .int .i64 ((min n k : Nat) : Int) := by
  congr 1
  split
  · rw [Nat.min_eq_right (by omega)]
  · rw [Nat.min_eq_left (by omega)]
theorem str_take3 (s : List UInt8) (k : Nat) : AV.str ((s.drop 0).take (((min s.length k : Nat) : Int).toNat - 0)) = .str (s.take k) := by
  congr 1
  rw [Int.toNat_natCast, Nat.sub_zero, List.drop_zero]
  rcases Nat.le_total s.length k with h | h
  · rw [Nat.min_eq_left h, List.take_of_length_le (Nat.le_refl _), List.take_of_length_le h]
  · rw [Nat.min_eq_right h]
end Go.Lens

set_option linter.unusedVariables false
set_option linter.unusedSimpArgs false
namespace Go.Proofs.YtfiohajalaejoaaDoor
open Go Go.Lens

/-! ### reckoned -/
def skipN : Nat → List UInt8 → List UInt8
  | 0, s => s
  | n + 1, s => match s.dropWhile isBlank with | [] => [] | c :: r => if c = 35 then skipN n (r.dropWhile (· != 10)) else c :: r
theorem skipN_eq : ∀ (n : Nat) (s : List UInt8), s.length < n → skipF s = skipN n s := by
  intro n
  induction n with
  | zero => intro s h; omega
  | succ n ih =>
    intro s h
    rw [skipN]
    split
    · rename_i h1; rw [skipF_stop (by rw [h1]; simp), h1]
    · rename_i c r h1
      split
      · rename_i hc
        subst hc
        rw [skipF_rem h1]
        have h2 := (List.dropWhile_suffix (l := s) isBlank).length_le
        have h3 := (List.dropWhile_suffix (l := r) (· != (10 : UInt8))).length_le
        rw [h1] at h2; simp at h2
        exact ih _ (by omega)
      · rename_i hc; rw [skipF_stop (by rw [h1]; simpa using hc), h1]
def skipC (s : List UInt8) : List UInt8 := skipN (s.length + 1) s
theorem skipC_eq (s : List UInt8) : skipF s = skipC s := skipN_eq _ s (Nat.lt_succ_self _)
def lexC : Nat → List Tok → Nat → List UInt8 → List Tok × Nat × Int
  | 0, acc, _, _ => (acc, 0, 0)
  | _ + 1, acc, _, [] => (acc, 0, 0)
  | n + 1, acc, a, c :: r =>
    if (tokF (c :: r)).1 ≠ 0 then ([], a, (tokF (c :: r)).1) else
      lexC n (acc ++ [((tokF (c :: r)).2.1, (tokF (c :: r)).2.2, a)]) (a + (tokF (c :: r)).2.2.length + (((c :: r).drop (tokF (c :: r)).2.2.length).length - (skipC ((c :: r).drop (tokF (c :: r)).2.2.length)).length)) (skipC ((c :: r).drop (tokF (c :: r)).2.2.length))
theorem lexC_eq : ∀ (n : Nat) (acc : List Tok) (a : Nat) (s : List UInt8), lexN n acc a s = lexC n acc a s
  | 0, _, _, _ => rfl
  | n + 1, acc, a, [] => rfl
  | n + 1, acc, a, c :: r => by
    rw [lexN, lexC]
    split
    · rfl
    · rw [skipC_eq, lexC_eq n]
def lexD (s : List UInt8) : List Tok × Nat × Int := lexC (s.length + 1) [] (s.length - (skipC s).length) (skipC s)
theorem lexD_eq (s : List UInt8) : lexF s = lexD s := by rw [lexF, lexD, skipC_eq, lexC_eq]

theorem toks_drop (l : List Tok) (i : Nat) (h : i < l.length) : (toksAV l).drop (((i : Nat) : Int).toNat * 3) = tok3 l[i] ++ toksAV (l.drop (i + 1)) := by
  rw [Int.toNat_natCast]
  induction i generalizing l with
  | zero =>
    cases l with
    | nil => simp at h
    | cons x l => rfl
  | succ i ih =>
    cases l with
    | nil => simp at h
    | cons x l =>
      have := ih l (by simpa using h)
      rw [show (i + 1) * 3 = 3 + i * 3 by omega, ← List.drop_drop]
      exact this
theorem toksAV_ne {l : List Tok} {i : Nat} (h : i < l.length) : toksAV l ≠ [] := by
  intro e
  have := toksAV_length l
  rw [e] at this
  simp at this
  omega
def texts (l : List Tok) : List (List UInt8) := l.map (·.2.1)

/-! ### Join -/
theorem lexJoin_spec (l : List Tok) (hl : l.length ≤ 8796093022207) (hj : (Lib.join (texts l) [32]).length ≤ 140737488355328) : Does Tryd.prog 20 [toksRow l] (.str (Lib.join (texts l) [32])) := by
  refine does tab_ok Tryd.func20 rfl rfl rfl rfl rfl fun w0 H0 hk hj' => ?_
  refine W.slots 1 (show W _ _ ⟨_, [.slot]⟩ _ from ?_)
  --@ n 1
  refine W.seq (W.region ?_)
  refine z_p ?_
  refine WL.nil ?_
  refine W.seq (W.region ?_)
  refine z_p ?_
  refine WL.nil ?_
  refine W.seq (W.seq (W.region ?_))
  refine z_p ?_
  refine sq (v_len rfl rfl rfl rfl ⟨_, rfl⟩ trivial) (show _ = AV.int .i64 (l.length : Nat) from rfl) rfl rfl rfl ?_
  refine z_p ?_
  refine WL.nil ?_
  refine W.block ?_
  refine W.while (fun m st => ∃ (i : Nat) (q : List (List UInt8)), m = l.length - i ∧ i ≤ l.length ∧ q = texts (l.take i) ∧ st = ⟨[(3, gV 0 q.length), (6, toksRow l), (7, .int .i64 (l.length : Nat)), (8, .int .i64 (i : Nat))], [gO 9 1 (strsAV q) q.length]⟩) l.length
    ⟨0, [], rfl, by omega, rfl, rfl⟩ (by refine ⟨?_, ?_, rfl, Nat.le_of_ble_eq_true rfl⟩ <;> repeat (first | exact trivial | exact rfl | refine ⟨rfl, ?_⟩ | refine ⟨.inr ⟨rfl, ?_⟩, ?_⟩ | refine ⟨.inl rfl, ?_⟩)) ?_
  rintro m _ ⟨i, q, rfl, hi, hq, rfl⟩
  by_cases hlt : i < l.length
  · obtain ⟨x, hx⟩ : ∃ x, x = l[i] := ⟨_, rfl⟩
    have hdr := toks_drop l i hlt
    rw [← hx] at hdr
    have hql : q.length = i := by rw [hq, texts, List.length_map, List.length_take]; omega
    have happ : strsAV q ++ [.str x.2.1] = strsAV (q ++ [x.2.1]) := by simp [strsAV]
    have hal : (q ++ [x.2.1]).length = q.length + 1 := by simp
    have hq2 : q ++ [x.2.1] = texts (l.take (i + 1)) := by rw [List.take_succ_eq_append_getElem hlt, ← hx, hq]; simp [texts]
    refine W.seq (W.region ?_)
    refine z_T (show (i : Int) < l.length by omega) ?_
    refine WL.nil ?_
    refine W.seq (W.cond_true rfl (W.skip ?_))
    refine W.seq (W.block ?_)
    refine W.seq (W.region ?_)
    refine sq (v_indexAddr_row rfl rfl rfl rfl rfl rfl (by omega) (by omega) (toksAV_ne hlt)) (show _ = AV.radr (tok3 x ++ toksAV (l.drop (i + 1))) from congrArg AV.radr hdr) rfl rfl rfl ?_
    first | refine z_l3 ?_ | refine z_r3 ?_
    refine z_a 1 [_, _] ?_
    refine z_s [_, _] ?_
    refine WL.nil ?_
    refine W.region ?_
    refine z_p ?_
    first | refine z_f ?_ | refine z_g ?_
    first | refine z_l ?_ | refine z_r ?_
    refine sq (v_buildRow rfl rfl rfl rfl rfl rfl rfl (Nat.le_of_ble_eq_true rfl) (Nat.le_of_ble_eq_true rfl) rfl rfl rfl rfl) (rfl : _ = AV.row [_] 1) rfl rfl rfl ?_
    refine sn (v_gr (n := q.length) (ds := [.str x.2.1]) 0 rfl rfl rfl rfl (by simp [strsAV]) rfl rfl rfl rfl rfl rfl rfl rfl (by decide) rfl (by show (q.length + 1) * 16 ≤ _; omega) (by omega)) (show _ = gV 0 (q ++ [x.2.1]).length by rw [hal]) (show _ = [gO 9 1 (strsAV (q ++ [x.2.1])) (q ++ [x.2.1]).length, AObj.cells (tok3 x) 0 1 false none] by rw [← happ, hal]; rfl) rfl rfl rfl ?_
    refine z_p ?_
    refine WL.nil ?_
    refine W.region ?_
    refine z_i ?_
    refine z_p ?_
    refine WL.nil ?_
    exact ⟨l.length - (i + 1), _, _, by omega, ⟨i + 1, q ++ [x.2.1], rfl, by omega, hq2, rfl⟩, (by cases q <;> exact (by refine ⟨?_, ?_, rfl, Nat.le_of_ble_eq_true rfl⟩ <;> repeat (first | exact trivial | exact rfl | refine ⟨rfl, ?_⟩ | refine ⟨.inr ⟨rfl, ?_⟩, ?_⟩ | refine ⟨.inl rfl, ?_⟩)))⟩
  · have hie : i = l.length := by omega
    subst hie
    rw [List.take_length] at hq
    have hjoin := join_spec q [32] (by rw [hq, texts, List.length_map]; omega) (by rw [hq]; exact hj)
    rw [← hq]
    clear hq
    refine W.seq (W.region ?_)
    refine z_F (show ¬ (l.length : Int) < l.length by omega) ?_
    refine WL.nil ?_
    refine W.seq (W.cond_false rfl (W.exit ?_))
    cases q with
    | nil =>
      refine W.seq (W.region ?_)
      refine sp (VStep.sub (v_pure rfl) Sub.nils) rfl rfl rfl ?_
      refine z_c (hjoin) ?_
      refine z_p ?_
      refine WL.nil ?_
      exact W.ret (fin rfl (.shut (.plain rfl) .nil) rfl)
    | cons g r =>
      refine W.seq (W.region ?_)
      refine z_p ?_
      refine sk hjoin rfl rfl rfl rfl (.lend rfl (by simp [strsAV]) (.plain rfl .nil)) (by simp [strsAV, List.take_of_length_le]) rfl (one_mine rfl) rfl rfl rfl rfl ?_
      refine z_p ?_
      refine WL.nil ?_
      exact W.ret (fin rfl (.shut (.plain rfl) .nil) rfl)

end Go.Proofs.YtfiohajalaejoaaDoor

set_option linter.unusedVariables false
set_option linter.unusedSimpArgs false
namespace Go.Proofs.YtfiohajalaejoaaDoor
open Go Go.Lens

def txtA : List UInt8 := [114, 97, 116, 101, 61, 52, 46, 50, 53, 59, 32, 35, 32, 121, 101, 115]
def txtB : List UInt8 := [97, 32, 49, 46]
def txtC : List UInt8 := [50, 48, 50, 52, 45, 48, 50, 45, 50, 57, 44, 45, 51]
def tokA : List Tok := [(0, [114, 97, 116, 101], 0), (3, [61], 4), (1, [52, 46, 50, 53], 5), (3, [59], 9)]
def tokC : List Tok := [(2, [50, 48, 50, 52, 45, 48, 50, 45, 50, 57], 0), (3, [44], 10), (1, [45, 51], 11)]
theorem lexA : lexTop txtA = (tokA, 0, 0) := by rw [lexTop, if_neg (by decide), lexD_eq]; decide +kernel
theorem lexB : lexTop txtB = ([], 2, 5) := by rw [lexTop, if_neg (by decide), lexD_eq]; decide +kernel
theorem lexCC : lexTop txtC = (tokC, 0, 0) := by rw [lexTop, if_neg (by decide), lexD_eq]; decide +kernel

theorem wakes08_spec : Does Tryd.prog 19 [] (.bool true) := by
  have ha := lex_spec txtA (by decide)
  have hb := lex_spec txtB (by decide)
  have hc := lex_spec txtC (by decide)
  rw [lexA] at ha
  rw [lexB] at hb
  rw [lexCC] at hc
  have hj' := lexJoin_spec tokC (by decide) (by decide)
  have ej : Lib.join (texts tokC) [32] = [50, 48, 50, 52, 45, 48, 50, 45, 50, 57, 32, 44, 32, 45, 51] := by decide
  rw [ej] at hj'
  have d2 : (toksAV tokA).drop (((2 : Nat) : Int).toNat * 3) = tok3 (1, [52, 46, 50, 53], 5) ++ toksAV [(3, [59], 9)] := rfl
  have d0 : (toksAV tokC).drop (((0 : Nat) : Int).toNat * 3) = tok3 (2, [50, 48, 50, 52, 45, 48, 50, 45, 50, 57], 0) ++ toksAV [(3, [44], 10), (1, [45, 51], 11)] := rfl
  refine does tab_ok Tryd.func19 rfl rfl rfl rfl rfl fun w0 H0 hk hj => ?_
  refine W.seq (W.region ?_)
  refine z_p ?_
  refine WL.nil ?_
  refine W.seq (W.region ?_)
  refine z_c (ha) ?_
  refine z_p ?_
  refine z_p ?_
  refine z_p ?_
  refine z_p ?_
  refine z_p ?_
  refine z_p ?_
  refine z_p ?_
  refine WL.nil ?_
  refine W.seq (W.region ?_)
  refine z_c (hb) ?_
  refine z_p ?_
  refine z_p ?_
  refine z_p ?_
  refine z_p ?_
  refine z_p ?_
  refine z_p ?_
  refine z_p ?_
  refine WL.nil ?_
  refine W.seq (W.region ?_)
  refine z_c (hc) ?_
  refine z_p ?_
  refine z_p ?_
  refine z_p ?_
  refine z_p ?_
  refine z_p ?_
  refine z_p ?_
  refine z_p ?_
  refine WL.nil ?_
  refine W.seq (W.region ?_)
  refine z_p ?_
  refine sq (v_pure rfl) (show _ = AV.bool true from rfl) rfl rfl rfl ?_
  refine z_p ?_
  refine z_p ?_
  refine sq (v_len rfl rfl rfl rfl ⟨_, rfl⟩ trivial) (show _ = AV.int .i64 4 from rfl) rfl rfl rfl ?_
  refine sq (v_pure rfl) (show _ = AV.bool true from rfl) rfl rfl rfl ?_
  refine z_p ?_
  refine z_p ?_
  refine z_p ?_
  refine sq (v_indexAddr_row rfl rfl rfl rfl rfl rfl (by decide) (by decide) (by decide)) (show _ = AV.radr (tok3 (1, [52, 46, 50, 53], 5) ++ toksAV [(3, [59], 9)]) from congrArg AV.radr d2) rfl rfl rfl ?_
  first | refine z_f ?_ | refine z_g ?_
  first | refine z_l ?_ | refine z_r ?_
  refine sq (v_pure rfl) (show _ = AV.bool true from rfl) rfl rfl rfl ?_
  refine z_p ?_
  refine z_p ?_
  refine z_p ?_
  refine sq (v_indexAddr_row rfl rfl rfl rfl rfl rfl (by decide) (by decide) (by decide)) (show _ = AV.radr (tok3 (1, [52, 46, 50, 53], 5) ++ toksAV [(3, [59], 9)]) from congrArg AV.radr d2) rfl rfl rfl ?_
  first | refine z_f ?_ | refine z_g ?_
  first | refine z_l ?_ | refine z_r ?_
  refine sq (v_pure rfl) (show _ = AV.bool true from rfl) rfl rfl rfl ?_
  refine z_p ?_
  refine z_p ?_
  refine z_p ?_
  refine sq (v_indexAddr_row rfl rfl rfl rfl rfl rfl (by decide) (by decide) (by decide)) (show _ = AV.radr (tok3 (1, [52, 46, 50, 53], 5) ++ toksAV [(3, [59], 9)]) from congrArg AV.radr d2) rfl rfl rfl ?_
  first | refine z_f ?_ | refine z_g ?_
  first | refine z_l ?_ | refine z_r ?_
  refine sq (v_pure rfl) (show _ = AV.bool true from rfl) rfl rfl rfl ?_
  refine z_p ?_
  refine z_p ?_
  refine z_p ?_
  refine sq (v_pure rfl) (show _ = AV.bool true from rfl) rfl rfl rfl ?_
  refine z_p ?_
  refine z_p ?_
  refine z_p ?_
  refine sq (v_pure rfl) (show _ = AV.bool true from rfl) rfl rfl rfl ?_
  refine z_p ?_
  refine z_p ?_
  refine z_p ?_
  refine sq (v_pure rfl) (show _ = AV.bool true from rfl) rfl rfl rfl ?_
  refine z_p ?_
  refine z_p ?_
  refine z_p ?_
  refine sq (v_len rfl rfl rfl rfl ⟨_, rfl⟩ trivial) (show _ = AV.int .i64 3 from rfl) rfl rfl rfl ?_
  refine sq (v_pure rfl) (show _ = AV.bool true from rfl) rfl rfl rfl ?_
  refine z_p ?_
  refine z_p ?_
  refine z_p ?_
  refine sq (v_indexAddr_row rfl rfl rfl rfl rfl rfl (by decide) (by decide) (by decide)) (show _ = AV.radr (tok3 (2, [50, 48, 50, 52, 45, 48, 50, 45, 50, 57], 0) ++ toksAV [(3, [44], 10), (1, [45, 51], 11)]) from congrArg AV.radr d0) rfl rfl rfl ?_
  first | refine z_f ?_ | refine z_g ?_
  first | refine z_l ?_ | refine z_r ?_
  refine sq (v_pure rfl) (show _ = AV.bool true from rfl) rfl rfl rfl ?_
  refine z_p ?_
  refine z_p ?_
  refine z_p ?_
  refine z_c (hj') ?_
  refine sq (v_pure rfl) (show _ = AV.bool true from rfl) rfl rfl rfl ?_
  refine z_p ?_
  refine z_p ?_
  refine WL.nil ?_
  exact W.ret (fin rfl (.shut (.plain rfl) .nil) rfl)

theorem lexN_len : ∀ (n : Nat) (acc : List Tok) (a : Nat) (s : List UInt8), (lexN n acc a s).1.length ≤ acc.length + s.length
  | 0, acc, _, s => Nat.le_add_right _ _
  | n + 1, acc, a, [] => Nat.le_add_right _ _
  | n + 1, acc, a, c :: r => by
    rw [lexN]
    split
    · simp
    · rename_i h
      have hpre := tok_pre (s := c :: r) (by simpa using h)
      have ht0 : 0 < (tokF (c :: r)).2.2.length := List.length_pos_iff.2 hpre.2
      have htl := hpre.1.length_le
      have h1 := lexN_len n (acc ++ [((tokF (c :: r)).2.1, (tokF (c :: r)).2.2, a)]) (a + (tokF (c :: r)).2.2.length + (((c :: r).drop (tokF (c :: r)).2.2.length).length - (skipF ((c :: r).drop (tokF (c :: r)).2.2.length)).length)) (skipF ((c :: r).drop (tokF (c :: r)).2.2.length))
      have h2 := (skipF_suf ((c :: r).drop (tokF (c :: r)).2.2.length)).length_le
      rw [List.length_drop] at h2
      rw [List.length_append, List.length_singleton] at h1
      omega
theorem lexF_len (s : List UInt8) : (lexF s).1.length ≤ s.length := by
  have h1 := lexN_len (s.length + 1) [] (s.length - (skipF s).length) (skipF s)
  have h2 := (skipF_suf s).length_le
  rw [lexF]
  simp only [List.length_nil] at h1
  omega
/-! ### LexTells -/
set_option maxHeartbeats 1600000 in
theorem lexTells_spec (s0 : List UInt8) (hs0 : s0.length ≤ 9223372036854775807) : Does Tryd.prog 6 [.str s0] (.bool true) := by
  obtain ⟨s, hse⟩ : ∃ s, s = s0.take 1000 := ⟨_, rfl⟩
  have hsl : s.length ≤ 1000 := by rw [hse, List.length_take]; omega
  have h1 := lex_spec s (by omega)
  have h2 := rLex_spec s (by omega)
  rw [lexTop, if_neg (by omega)] at h1
  obtain ⟨R, hR⟩ : ∃ R, R = lexF s := ⟨_, rfl⟩
  rw [← hR] at h1 h2
  have hlen := lexF_len s
  rw [← hR] at hlen
  obtain ⟨l, n, e⟩ := R
  simp only at h1 h2 hlen
  have hll : l.length ≤ 9223372036854775807 := by omega
  refine does tab_ok Tryd.func6 rfl rfl rfl rfl rfl fun w0 H0 hk hj => ?_
  refine W.seq (W.region ?_)
  refine z_p ?_
  refine WL.nil ?_
  refine W.seq (W.region ?_)
  refine z_p ?_
  refine z_p ?_
  refine sp (v_len rfl rfl rfl rfl rfl trivial) rfl rfl rfl ?_
  refine sq (v_min2 rfl rfl rfl) (show _ = AV.int .i64 ((min s0.length 1000 : Nat) : Int) from min_nat _ 1000) rfl rfl rfl ?_
  refine sq (v_slice_str rfl rfl rfl rfl rfl ⟨_, _, rfl, by omega, rfl⟩ (by omega) (by omega)) (show _ = AV.str s from (str_take3 s0 1000).trans (congrArg AV.str hse.symm)) rfl rfl rfl ?_
  refine z_p ?_
  refine WL.nil ?_
  refine W.seq (W.region ?_)
  refine z_p ?_
  refine z_c (h1) ?_
  refine z_p ?_
  refine z_p ?_
  refine z_p ?_
  refine z_p ?_
  refine z_p ?_
  refine z_p ?_
  refine z_p ?_
  refine WL.nil ?_
  refine W.seq (W.region ?_)
  refine z_p ?_
  refine z_c (h2) ?_
  refine z_p ?_
  refine z_p ?_
  refine z_p ?_
  refine z_p ?_
  refine z_p ?_
  refine z_p ?_
  refine z_p ?_
  refine WL.nil ?_
  refine W.seq (W.seq (W.region ?_))
  refine z_p ?_
  refine z_p ?_
  refine sq (v_pure rfl) (show _ = AV.bool false from congrArg AV.bool (bne_eq_false_iff_eq.2 rfl)) rfl rfl rfl ?_
  refine z_p ?_
  refine z_p ?_
  refine z_p ?_
  refine sq (v_pure rfl) (show _ = AV.bool false from congrArg AV.bool (bne_eq_false_iff_eq.2 rfl)) rfl rfl rfl ?_
  refine z_p ?_
  refine z_p ?_
  refine z_p ?_
  refine sq (v_len rfl rfl rfl rfl ⟨_, rfl⟩ trivial) (show _ = AV.int .i64 (l.length : Nat) from rfl) rfl rfl rfl ?_
  refine z_p ?_
  refine sq (v_len rfl rfl rfl rfl ⟨_, rfl⟩ trivial) (show _ = AV.int .i64 (l.length : Nat) from rfl) rfl rfl rfl ?_
  refine sq (v_pure rfl) (show _ = AV.bool false from congrArg AV.bool (bne_eq_false_iff_eq.2 rfl)) rfl rfl rfl ?_
  refine z_p ?_
  refine WL.nil ?_
  refine W.cond_false rfl (W.skip ?_)
  refine W.seq (W.seq (W.region ?_))
  refine z_p ?_
  refine sq (v_len rfl rfl rfl rfl ⟨_, rfl⟩ trivial) (show _ = AV.int .i64 (l.length : Nat) from rfl) rfl rfl rfl ?_
  refine z_p ?_
  refine WL.nil ?_
  refine W.block ?_
  refine W.while (fun m st => ∃ i : Nat, m = l.length - i ∧ i ≤ l.length ∧ st = ⟨[(3, toksRow l), (6, toksRow l), (43, .int .i64 (l.length : Nat)), (44, .int .i64 (i : Nat))], []⟩) l.length ⟨0, rfl, by omega, rfl⟩ (by refine ⟨?_, ?_, rfl, Nat.le_of_ble_eq_true rfl⟩ <;> repeat (first | exact trivial | exact rfl | refine ⟨rfl, ?_⟩ | refine ⟨.inr ⟨rfl, ?_⟩, ?_⟩ | refine ⟨.inl rfl, ?_⟩)) ?_
  rintro m _ ⟨i, rfl, hi, rfl⟩
  by_cases hlt : i < l.length
  · obtain ⟨x, hx⟩ : ∃ x, x = l[i] := ⟨_, rfl⟩
    have hdr := toks_drop l i hlt
    rw [← hx] at hdr
    have hne := toksAV_ne hlt
    refine W.seq (W.region ?_)
    refine z_T (show (i : Int) < l.length by omega) ?_
    refine WL.nil ?_
    refine W.seq (W.cond_true rfl (W.skip ?_))
    refine W.seq (W.block ?_)
    refine W.seq (W.region ?_)
    refine z_p ?_
    refine z_p ?_
    refine WL.nil ?_
    refine W.seq (W.drawnR mixed [47, 48, 49, 50, 51, 52, 53, 54, 55, 56, 57, 58, 59, 60, 61, 62, 63, 64, 65, 66, 67, 68, 69, 70, 71, 72, 73, 74, 75, 76, 77, 78, 79, 80, 81] (by kernel_rfl) ?_)
    apply DrawFrom.stepR
    · intro more
      refine z_p ?_
      exact z_e
    apply DrawFrom.stepR
    · intro more
      refine z_p ?_
      exact z_e
    apply DrawFrom.stepR
    · intro more
      refine sq (v_indexAddr_row rfl rfl rfl rfl rfl rfl (by omega) (by omega) hne) (show _ = AV.radr (tok3 x ++ toksAV (l.drop (i + 1))) from congrArg AV.radr hdr) rfl rfl rfl ?_
      exact z_e
    apply DrawFrom.stepR
    · intro more
      first | refine z_f ?_ | refine z_g ?_
      exact z_e
    apply DrawFrom.stepR
    · intro more
      first | refine z_l ?_ | refine z_r ?_
      exact z_e
    apply DrawFrom.stepR
    · intro more
      refine z_p ?_
      exact z_e
    apply DrawFrom.stepR
    · intro more
      refine z_p ?_
      exact z_e
    apply DrawFrom.stepR
    · intro more
      refine sq (v_indexAddr_row rfl rfl rfl rfl rfl rfl (by omega) (by omega) hne) (show _ = AV.radr (tok3 x ++ toksAV (l.drop (i + 1))) from congrArg AV.radr hdr) rfl rfl rfl ?_
      exact z_e
    apply DrawFrom.stepR
    · intro more
      first | refine z_f ?_ | refine z_g ?_
      exact z_e
    apply DrawFrom.stepR
    · intro more
      first | refine z_l ?_ | refine z_r ?_
      exact z_e
    apply DrawFrom.stepR
    · intro more
      refine sq (v_pure rfl) (show _ = AV.bool false from congrArg AV.bool (bne_eq_false_iff_eq.2 rfl)) rfl rfl rfl ?_
      exact z_e
    apply DrawFrom.stepR
    · intro more
      refine z_p ?_
      exact z_e
    apply DrawFrom.stepR
    · intro more
      refine z_p ?_
      exact z_e
    apply DrawFrom.stepR
    · intro more
      refine z_p ?_
      exact z_e
    apply DrawFrom.stepR
    · intro more
      refine sq (v_indexAddr_row rfl rfl rfl rfl rfl rfl (by omega) (by omega) hne) (show _ = AV.radr (tok3 x ++ toksAV (l.drop (i + 1))) from congrArg AV.radr hdr) rfl rfl rfl ?_
      exact z_e
    apply DrawFrom.stepR
    · intro more
      first | refine z_f ?_ | refine z_g ?_
      exact z_e
    apply DrawFrom.stepR
    · intro more
      first | refine z_l ?_ | refine z_r ?_
      exact z_e
    apply DrawFrom.stepR
    · intro more
      refine z_p ?_
      exact z_e
    apply DrawFrom.stepR
    · intro more
      refine z_p ?_
      exact z_e
    apply DrawFrom.stepR
    · intro more
      refine sq (v_indexAddr_row rfl rfl rfl rfl rfl rfl (by omega) (by omega) hne) (show _ = AV.radr (tok3 x ++ toksAV (l.drop (i + 1))) from congrArg AV.radr hdr) rfl rfl rfl ?_
      exact z_e
    apply DrawFrom.stepR
    · intro more
      first | refine z_f ?_ | refine z_g ?_
      exact z_e
    apply DrawFrom.stepR
    · intro more
      first | refine z_l ?_ | refine z_r ?_
      exact z_e
    apply DrawFrom.stepR
    · intro more
      refine sq (v_pure rfl) (show _ = AV.bool false from congrArg AV.bool (bne_eq_false_iff_eq.2 rfl)) rfl rfl rfl ?_
      exact z_e
    apply DrawFrom.stepR
    · intro more
      refine z_p ?_
      exact z_e
    apply DrawFrom.stepR
    · intro more
      refine z_p ?_
      exact z_e
    apply DrawFrom.stepR
    · intro more
      refine z_p ?_
      exact z_e
    apply DrawFrom.stepR
    · intro more
      refine z_p ?_
      exact z_e
    apply DrawFrom.stepR
    · intro more
      refine sq (v_indexAddr_row rfl rfl rfl rfl rfl rfl (by omega) (by omega) hne) (show _ = AV.radr (tok3 x ++ toksAV (l.drop (i + 1))) from congrArg AV.radr hdr) rfl rfl rfl ?_
      exact z_e
    apply DrawFrom.stepR
    · intro more
      first | refine z_f ?_ | refine z_g ?_
      exact z_e
    apply DrawFrom.stepR
    · intro more
      first | refine z_l ?_ | refine z_r ?_
      exact z_e
    apply DrawFrom.stepR
    · intro more
      refine z_p ?_
      exact z_e
    apply DrawFrom.stepR
    · intro more
      refine z_p ?_
      exact z_e
    apply DrawFrom.stepR
    · intro more
      refine sq (v_indexAddr_row rfl rfl rfl rfl rfl rfl (by omega) (by omega) hne) (show _ = AV.radr (tok3 x ++ toksAV (l.drop (i + 1))) from congrArg AV.radr hdr) rfl rfl rfl ?_
      exact z_e
    apply DrawFrom.stepR
    · intro more
      first | refine z_f ?_ | refine z_g ?_
      exact z_e
    apply DrawFrom.stepR
    · intro more
      first | refine z_l ?_ | refine z_r ?_
      exact z_e
    refine DrawFrom.doneR (rfl : _ = (_, _) :: (_, _) :: (_, _) :: (_, _) :: (_, _) :: (_, _) :: (_, _) :: (_, _) :: (_, _) :: (_, _) :: (_, _) :: (_, _) :: (_, _) :: (_, _) :: (_, _) :: (_, _) :: (_, _) :: (_, _) :: (_, _) :: (_, _) :: (_, _) :: (_, _) :: (_, _) :: (_, _) :: (_, _) :: (_, _) :: (_, _) :: (_, _) :: (_, _) :: (_, _) :: (_, _) :: (_, _) :: (_, _) :: (_, _) :: (_, _) :: _) ?_
    refine sq (v_pure rfl) (show _ = AV.bool false from congrArg AV.bool (bne_eq_false_iff_eq.2 rfl)) rfl rfl rfl ?_
    refine z_p ?_
    refine WL.nil ?_
    refine W.cond_false rfl (W.skip ?_)
    refine W.region ?_
    refine z_i ?_
    refine z_p ?_
    refine WL.nil ?_
    exact ⟨l.length - (i + 1), _, _, by omega, ⟨i + 1, rfl, by omega, rfl⟩, (by refine ⟨?_, ?_, rfl, Nat.le_of_ble_eq_true rfl⟩ <;> repeat (first | exact trivial | exact rfl | refine ⟨rfl, ?_⟩ | refine ⟨.inr ⟨rfl, ?_⟩, ?_⟩ | refine ⟨.inl rfl, ?_⟩))⟩
  · have hie : i = l.length := by omega
    subst hie
    refine W.seq (W.region ?_)
    refine z_F (show ¬ (l.length : Int) < l.length by omega) ?_
    refine WL.nil ?_
    refine W.seq (W.cond_false rfl (W.exit ?_))
    refine W.seq (W.region ?_)
    refine z_c (wakes08_spec) ?_
    refine z_p ?_
    refine WL.nil ?_
    exact W.ret (fin rfl (.shut (.plain rfl) .nil) rfl)
theorem lexTells_all {H : Type} (ds : List (DataW H)) (h : shapes (shapeT tab 8) [9] ds) : Does Tryd.prog 6 (ds.map avArg) (.bool true) := by
  obtain ⟨_, _, rfl, ⟨s, rfl, hs⟩, rfl⟩ := h
  exact lexTells_spec s (by simpa [maxLen] using hs)

end Go.Proofs.YtfiohajalaejoaaDoor

set_option linter.unusedVariables false
set_option linter.unusedSimpArgs false
namespace Go.Proofs.YtfiohajalaejoaaDoor
open Go Go.Lens

/-- behind a token, all that stands between, and what is left -/
def lexR : Nat → Nat → List UInt8 → Option (List Tok)
  | 0, _, _ => some []
  | _ + 1, _, [] => some []
  | n + 1, a, c :: r =>
    if (tokF (c :: r)).1 ≠ 0 then none else
      (lexR n (a + (tokF (c :: r)).2.2.length + (((c :: r).drop (tokF (c :: r)).2.2.length).length - (skipF ((c :: r).drop (tokF (c :: r)).2.2.length)).length)) (skipF ((c :: r).drop (tokF (c :: r)).2.2.length))).map (((tokF (c :: r)).2.1, (tokF (c :: r)).2.2, a) :: ·)
theorem lexN_R : ∀ (n : Nat) (acc : List Tok) (a : Nat) (s : List UInt8), (lexR n a s = none ∧ (lexN n acc a s).1 = [] ∧ (lexN n acc a s).2.2 ≠ 0) ∨ ∃ l, lexR n a s = some l ∧ lexN n acc a s = (acc ++ l, 0, 0)
  | 0, acc, a, s => .inr ⟨[], rfl, by rw [List.append_nil]; rfl⟩
  | n + 1, acc, a, [] => .inr ⟨[], rfl, by rw [List.append_nil]; rfl⟩
  | n + 1, acc, a, c :: r => by
    rw [lexR, lexN]
    by_cases h : (tokF (c :: r)).1 ≠ 0
    · rw [if_pos h, if_pos h]
      exact .inl ⟨rfl, rfl, h⟩
    · rw [if_neg h, if_neg h]
      rcases lexN_R n (acc ++ [((tokF (c :: r)).2.1, (tokF (c :: r)).2.2, a)]) (a + (tokF (c :: r)).2.2.length + (((c :: r).drop (tokF (c :: r)).2.2.length).length - (skipF ((c :: r).drop (tokF (c :: r)).2.2.length)).length)) (skipF ((c :: r).drop (tokF (c :: r)).2.2.length)) with ⟨h1, h2, h3⟩ | ⟨l, h1, h2⟩
      · exact .inl ⟨by rw [h1]; rfl, h2, h3⟩
      · exact .inr ⟨_, by rw [h1]; rfl, by rw [h2, List.append_assoc]; rfl⟩

/-- a token that is one wherever nothing of its kind stands behind it -/
def stops (rest : List UInt8) : Prop := ∀ c, rest.head? = some c → isWord c = false ∧ isNum c = false
structure Good (k : Int) (t : List UInt8) : Prop where
  ne : t ≠ []
  tok : ∀ rest, stops rest → tokF (t ++ rest) = (0, k, t)
  skip : ∀ rest, skipF (t ++ rest) = t ++ rest
theorem isWord_blank {c : UInt8} (h : isWord c = true ∨ isNum c = true ∨ isSign c = true) : isBlank c = false ∧ c ≠ 35 := by
  have h2 : isBlank c = true ∨ c = 35 → False := by
    intro hb
    have hc : c = 32 ∨ c = 9 ∨ c = 10 ∨ c = 13 ∨ c = 35 := by
      rcases hb with hb | hb
      · have : c ∈ blankL := by simpa [isBlank] using hb
        simp only [blankL, List.mem_cons, List.not_mem_nil, or_false] at this
        rcases this with h | h | h | h <;> simp [h]
      · simp [hb]
    rcases hc with rfl | rfl | rfl | rfl | rfl <;> revert h <;> decide
  constructor
  · rw [Bool.eq_false_iff]; intro hb; exact h2 (.inl hb)
  · intro hb; exact h2 (.inr hb)
theorem takeWhile_stop (p : UInt8 → Bool) {t rest : List UInt8} (ht : ∀ c ∈ t, p c = true) (hr : ∀ c, rest.head? = some c → p c = false) : (t ++ rest).takeWhile p = t := by
  rw [List.takeWhile_append_of_pos ht]
  cases rest with
  | nil => simp
  | cons c r => rw [List.takeWhile_cons, if_neg (by rw [hr c rfl]; decide), List.append_nil]
theorem tok_good {u : List UInt8} (h : (tokF u).1 = 0) : Good (tokF u).2.1 (tokF u).2.2 := by
  cases u with
  | nil => exact absurd h (by decide)
  | cons c r =>
    have hpre := tok_pre h
    have hall : ∀ p : UInt8 → Bool, ∀ x ∈ (c :: r).takeWhile p, p x = true := fun p x hx => List.all_eq_true.1 (List.all_takeWhile ..) x hx
    have hcons : ∀ p : UInt8 → Bool, p c = true → (c :: r).takeWhile p = c :: r.takeWhile p := fun p hp => by rw [List.takeWhile_cons, if_pos hp]
    have hskip : ∀ t' rest : List UInt8, (isBlank c = false ∧ c ≠ 35) → skipF ((c :: t') ++ rest) = (c :: t') ++ rest := fun t' rest hb => by rw [List.cons_append, skipF_other hb.1 hb.2]
    have h0 : tokF (c :: r) = if isLet c then (0, 0, (c :: r).takeWhile isWord) else if isDig c || c == 45 then
      (if datedF ((c :: r).takeWhile isNum) then (0, 2, (c :: r).takeWhile isNum) else if decErr ((c :: r).takeWhile isNum) = 0 then (0, 1, (c :: r).takeWhile isNum) else (5, 0, []))
    else if isSign c then (0, 3, [c]) else (4, 0, []) := rfl
    by_cases h1 : isLet c = true
    · rw [if_pos h1] at h0
      have hw : isWord c = true := by rw [isWord, h1]; rfl
      rw [h0]
      refine ⟨by rw [hcons _ hw]; simp, fun rest hr => ?_, fun rest => by rw [hcons _ hw]; exact hskip _ _ (isWord_blank (.inl hw))⟩
      have ht := takeWhile_stop isWord (hall isWord) (fun c hc => (hr c hc).1)
      simp only
      rw [hcons _ hw] at ht ⊢
      rw [List.cons_append] at ht ⊢
      rw [tokF, if_pos h1, ht]
    · rw [if_neg h1] at h0
      by_cases h2 : (isDig c || c == 45) = true
      · rw [if_pos h2] at h0
        have hn : isNum c = true := by rw [isNum, h2]; rfl
        by_cases h3 : datedF ((c :: r).takeWhile isNum) = true
        · rw [if_pos h3] at h0
          rw [h0]
          refine ⟨by rw [hcons _ hn]; simp, fun rest hr => ?_, fun rest => by rw [hcons _ hn]; exact hskip _ _ (isWord_blank (.inr (.inl hn)))⟩
          have ht := takeWhile_stop isNum (hall isNum) (fun c hc => (hr c hc).2)
          simp only
          rw [hcons _ hn] at ht h3 ⊢
          rw [List.cons_append] at ht ⊢
          rw [tokF, if_neg h1, if_pos h2, ht, if_pos h3]
        · rw [if_neg h3] at h0
          by_cases h4 : decErr ((c :: r).takeWhile isNum) = 0
          · rw [if_pos h4] at h0
            rw [h0]
            refine ⟨by rw [hcons _ hn]; simp, fun rest hr => ?_, fun rest => by rw [hcons _ hn]; exact hskip _ _ (isWord_blank (.inr (.inl hn)))⟩
            have ht := takeWhile_stop isNum (hall isNum) (fun c hc => (hr c hc).2)
            simp only
            rw [hcons _ hn] at ht h3 h4 ⊢
            rw [List.cons_append] at ht ⊢
            rw [tokF, if_neg h1, if_pos h2, ht, if_neg h3, if_pos h4]
          · rw [if_neg h4] at h0; rw [h0] at h; exact absurd h (by decide)
      · rw [if_neg h2] at h0
        by_cases h3 : isSign c = true
        · rw [if_pos h3] at h0
          rw [h0]
          refine ⟨by simp, fun rest hr => ?_, fun rest => hskip [] rest (isWord_blank (.inr (.inr h3)))⟩
          show tokF (c :: rest) = _
          rw [tokF, if_neg h1, if_neg h2, if_pos h3]
        · rw [if_neg h3] at h0; rw [h0] at h; exact absurd h (by decide)

/-- each token stands where it says, behind the one ahead of it -/
def Chain (s : List UInt8) : Nat → List Tok → Prop
  | _, [] => True
  | e, x :: l => e ≤ x.2.2 ∧ x.2.1 <+: s.drop x.2.2 ∧ x.2.2 + x.2.1.length ≤ s.length ∧ Good x.1 x.2.1 ∧ Chain s (x.2.2 + x.2.1.length) l
theorem lexR_chain (s : List UInt8) : ∀ (n a e : Nat) (l : List Tok), a ≤ s.length → e ≤ a → lexR n a (s.drop a) = some l → Chain s e l
  | 0, a, e, l, _, _, h => by
    simp only [lexR, Option.some.injEq] at h; subst h; trivial
  | n + 1, a, e, l, ha, he, h => by
    cases hd : s.drop a with
    | nil => rw [hd] at h; simp only [lexR, Option.some.injEq] at h; subst h; trivial
    | cons c r =>
      rw [hd, lexR] at h
      by_cases h0 : (tokF (c :: r)).1 ≠ 0
      · rw [if_pos h0] at h; cases h
      · rw [if_neg h0] at h
        have h0' : (tokF (c :: r)).1 = 0 := by simpa using h0
        have hpre := tok_pre h0'
        have hgood := tok_good h0'
        obtain ⟨l', hl', rfl⟩ := Option.map_eq_some_iff.1 h
        have hlen : (c :: r).length = s.length - a := by rw [← hd, List.length_drop]
        have htl := hpre.1.length_le
        have hv : (c :: r).drop (tokF (c :: r)).2.2.length = s.drop (a + (tokF (c :: r)).2.2.length) := by rw [← hd, List.drop_drop]
        have hsuf := skipF_suf ((c :: r).drop (tokF (c :: r)).2.2.length)
        have hsl := hsuf.length_le
        have hlv : ((c :: r).drop (tokF (c :: r)).2.2.length).length = s.length - a - (tokF (c :: r)).2.2.length := by rw [List.length_drop, hlen]
        have h1 := List.suffix_iff_eq_drop.1 hsuf
        generalize hv0 : (c :: r).drop (tokF (c :: r)).2.2.length = v at h1 hsl hlv hl' hv
        obtain ⟨tl, htle⟩ : ∃ tl, tl = (tokF (c :: r)).2.2.length := ⟨_, rfl⟩
        rw [← htle] at htl hv hlv hl'
        generalize hP : a + tl + (v.length - (skipF v).length) = P at hl'
        have hsk : skipF v = s.drop P := by
          conv => lhs; rw [h1, hv]
          rw [List.drop_drop, ← hP, hv]
        rw [hsk] at hl'
        have hP1 : P ≤ s.length := by rw [hlen] at htl; omega
        have hP2 : a + tl ≤ P := by omega
        have ih := lexR_chain s n P (a + tl) l' hP1 hP2 hl'
        exact ⟨he, by rw [hd]; exact hpre.1, by show a + (tokF (c :: r)).2.2.length ≤ _; rw [← htle]; omega, hgood, by rw [htle] at ih; exact ih⟩
theorem lex_chain (s : List UInt8) {l : List Tok} {k : Nat} (h : lexF s = (l, k, 0)) : Chain s 0 l ∧ k = 0 := by
  have hsuf := skipF_suf s
  have hstart : skipF s = s.drop (s.length - (skipF s).length) := List.suffix_iff_eq_drop.1 hsuf
  rcases lexN_R (s.length + 1) [] (s.length - (skipF s).length) (skipF s) with ⟨_, _, h3⟩ | ⟨l', h1, h2⟩
  · rw [lexF] at h; rw [h] at h3; exact absurd rfl h3
  · rw [lexF, h2] at h
    injection h with h4 h5
    injection h5 with h5 _
    rw [List.nil_append] at h4
    subst h4
    generalize hP : s.length - (skipF s).length = P at h1 hstart
    rw [hstart] at h1
    exact ⟨lexR_chain s _ P 0 l' (by omega) (Nat.zero_le _) h1, h5.symm⟩
theorem chain_good {s : List UInt8} : ∀ {e : Nat} {l : List Tok}, Chain s e l → ∀ x ∈ l, Good x.1 x.2.1
  | _, [], _, x, hx => by cases hx
  | _, y :: l, h, x, hx => by
    rcases List.mem_cons.1 hx with rfl | hx
    · exact h.2.2.2.1
    · exact chain_good h.2.2.2.2 x hx
theorem chain_len {s : List UInt8} : ∀ {e : Nat} {l : List Tok}, Chain s e l → e ≤ s.length → e + (texts l).flatten.length ≤ s.length
  | e, [], _, h => by simpa [texts] using h
  | e, x :: l, h, _ => by
    have ih := chain_len h.2.2.2.2 h.2.2.1
    simp only [texts, List.map_cons, List.flatten_cons, List.length_append] at ih ⊢
    have := h.1
    omega

/-- tokens with something between them that stops them, and that is nothing: they are again those tokens -/
theorem lexR_sep (sep : List UInt8) (hstop : ∀ r, stops (sep ++ r)) (hsk : ∀ k t, Good k t → ∀ r, skipF (sep ++ (t ++ r)) = t ++ r) (fin : List UInt8) (hfs : stops fin) (hfin : skipF fin = []) :
    ∀ (l : List Tok) (n a : Nat), (∀ x ∈ l, Good x.1 x.2.1) → l.length < n → ∀ txt, txt = (l.map fun x => x.2.1).foldr (fun t r => t ++ (if r = [] then fin else sep ++ r)) [] →
      ∃ m, lexR n a txt = some m ∧ m.map (fun x => (x.1, x.2.1)) = l.map fun x => (x.1, x.2.1)
  | [], n, a, _, hn, txt, ht => by
    subst ht
    obtain ⟨k, rfl⟩ : ∃ k, n = k + 1 := ⟨n - 1, by omega⟩
    exact ⟨[], rfl, rfl⟩
  | x :: l, n, a, hg, hn, txt, ht => by
    obtain ⟨k, rfl⟩ : ∃ k, n = k + 1 := ⟨n - 1, by simp at hn; omega⟩
    have hgx := hg x (by simp)
    obtain ⟨R, hR⟩ : ∃ R, R = (l.map fun x => x.2.1).foldr (fun t r => t ++ (if r = [] then fin else sep ++ r)) [] := ⟨_, rfl⟩
    have ht2 : txt = x.2.1 ++ (if R = [] then fin else sep ++ R) := by rw [ht, hR]; rfl
    have htok : tokF txt = (0, x.1, x.2.1) := by
      rw [ht2]
      refine hgx.tok _ ?_
      split
      · exact hfs
      · exact hstop R
    obtain ⟨c, r, hcr⟩ : ∃ c r, txt = c :: r := by
      cases h : txt with
      | nil => rw [h] at ht2; exact absurd (List.append_eq_nil_iff.1 ht2.symm).1 hgx.ne
      | cons c r => exact ⟨c, r, rfl⟩
    have hsk2 : skipF (txt.drop x.2.1.length) = R := by
      rw [ht2, List.drop_left]
      split
      · rename_i h; rw [h]; exact hfin
      · rename_i h
        cases l with
        | nil => exact absurd hR (by simpa using h)
        | cons y l =>
          have hy : ∃ r, R = y.2.1 ++ r := ⟨_, hR⟩
          obtain ⟨r', hr'⟩ := hy
          rw [hr']
          exact hsk y.1 y.2.1 (hg y (by simp)) r'
    rw [hcr, lexR, ← hcr, htok, if_neg (by simp)]
    simp only
    rw [hsk2]
    obtain ⟨m, hm1, hm2⟩ := lexR_sep sep hstop hsk fin hfs hfin l k (a + x.2.1.length + ((txt.drop x.2.1.length).length - R.length)) (fun y hy => hg y (by simp [hy])) (by simp at hn; omega) R hR
    exact ⟨_, by rw [hm1]; rfl, by simp [hm2]⟩

end Go.Proofs.YtfiohajalaejoaaDoor

set_option linter.unusedVariables false
set_option linter.unusedSimpArgs false
namespace Go.Proofs.YtfiohajalaejoaaDoor
open Go Go.Lens

theorem noEscape_ext (ob ver i : Nat) : Ext Tryd.prog 97 [.ptr ob ver i] (.ptr ob ver i) :=
  Ext.of Tryd.func97 (by kernel_rfl) (by kernel_rfl) (by kernel_rfl) (show Extern.find Tryd.f97 = some Extern.AbiNoEscape.same by kernel_rfl) noEscape_row

/-- a builder -/
def bldO (p buf : AV) : AObj := .cells [p, buf] 0 2 false (some 93)
theorem bldO_set (p buf p' : AV) : (AObj.cells ([p, buf].set 0 p') 0 2 false (some 93)) = bldO p' buf := rfl

section
variable {nt : Nat} {w0 : World} {k : Nat} {H0 : View} {ln : Nat → Nat} {hk : ∀ o, o < k → H0.blk o < w0.heap.size} {hj : ∀ x o, x < k → o < k → H0.blk x = H0.blk o → x = o} {sv : List (Array Value × List (Nat × AV))}
  {ops : Array Oper} {o : Oper} {rest : List Oper} {env : List (Nat × AV)} {objs : List AObj} {Q : Exit → St → Prop} {x : Operand} {xs : Array Operand} {ts : Array TypeId} {d b : Nat}

theorem bc_fresh {buf : AV} (hop : o.op = .call { callee := .value x, args := xs, argTypes := ts }) (hx : ev ⟨env, objs⟩ x = some (.func (.func 74) [] [])) (hxs : evL ⟨env, objs⟩ xs.toList = some [.ptr b 0 0]) (hob : objs[b]? = some (bldO .nilp buf))
    (hg : gd ops ⟨env, objs⟩ o = some true) (hd : o.dst = some d) (hlt : Nat.blt d nt = true) (h : WL ⟨Tryd.prog, tab, tab_ok, nt, w0, k, H0, ln, hk, hj, sv⟩ ops rest ⟨(d, .tup []) :: env, objs.set b (bldO (.ptr b 0 0) buf)⟩ Q) :
    WL ⟨Tryd.prog, tab, tab_ok, nt, w0, k, H0, ln, hk, hj, sv⟩ ops (o :: rest) ⟨env, objs⟩ Q := by
  refine si Tryd.func74 rfl rfl rfl rfl hop hx hxs rfl rfl hg hd hlt fun tm => ?_
  refine W.seq (W.region ?_)
  refine z_p ?_
  refine sp (v_nilCheck rfl rfl hob) rfl rfl rfl ?_
  refine sp (v_fieldAddr rfl rfl hob rfl rfl rfl rfl (by decide)) rfl rfl rfl ?_
  refine sp (v_load rfl rfl hob rfl rfl) rfl rfl rfl ?_
  refine sp (v_isnil_nilp rfl rfl rfl rfl) rfl rfl rfl ?_
  refine WL.nil ?_
  refine W.cond_true rfl ?_
  refine W.region ?_
  refine z_p ?_
  refine z_p ?_
  refine sp (v_to_unsafe rfl rfl hob (Nat.le_of_ble_eq_true rfl) rfl rfl rfl (by decide) (by kernel_rfl)) rfl rfl rfl ?_
  refine sp (v_ext (noEscape_ext b 0 0) rfl rfl rfl) rfl rfl rfl ?_
  refine sp (v_from_unsafe rfl rfl hob (Nat.le_of_ble_eq_true rfl) (by kernel_rfl) rfl rfl rfl rfl (by decide)) rfl rfl rfl ?_
  refine sp (v_nilCheck rfl rfl hob) rfl rfl rfl ?_
  refine sp (v_fieldAddr rfl rfl hob rfl rfl rfl rfl (by decide)) rfl rfl rfl ?_
  refine ss (a_store1 rfl rfl hob rfl ⟨_, _, _, _, hob⟩ (fun h => by cases h) rfl rfl (Nat.le_of_ble_eq_true rfl)) (rfl : _ = objs.set b (bldO (.ptr b 0 0) buf)) rfl rfl ?_
  refine WL.nil ?_
  exact ⟨.inr rfl, [], rfl, h⟩

theorem bc_used {buf : AV} (hop : o.op = .call { callee := .value x, args := xs, argTypes := ts }) (hx : ev ⟨env, objs⟩ x = some (.func (.func 74) [] [])) (hxs : evL ⟨env, objs⟩ xs.toList = some [.ptr b 0 0]) (hob : objs[b]? = some (bldO (.ptr b 0 0) buf))
    (hg : gd ops ⟨env, objs⟩ o = some true) (hd : o.dst = some d) (hlt : Nat.blt d nt = true) (h : WL ⟨Tryd.prog, tab, tab_ok, nt, w0, k, H0, ln, hk, hj, sv⟩ ops rest ⟨(d, .tup []) :: env, objs⟩ Q) :
    WL ⟨Tryd.prog, tab, tab_ok, nt, w0, k, H0, ln, hk, hj, sv⟩ ops (o :: rest) ⟨env, objs⟩ Q := by
  refine si Tryd.func74 rfl rfl rfl rfl hop hx hxs rfl rfl hg hd hlt fun tm => ?_
  refine W.seq (W.region ?_)
  refine z_p ?_
  refine sp (v_nilCheck rfl rfl hob) rfl rfl rfl ?_
  refine sp (v_fieldAddr rfl rfl hob rfl rfl rfl rfl (by decide)) rfl rfl rfl ?_
  refine sp (v_load rfl rfl hob rfl rfl) rfl rfl rfl ?_
  refine sp (v_isnil_ptr rfl rfl hob rfl rfl) rfl rfl rfl ?_
  refine WL.nil ?_
  refine W.cond_false rfl ?_
  refine W.seq (W.region ?_)
  refine z_p ?_
  refine sp (v_nilCheck rfl rfl hob) rfl rfl rfl ?_
  refine sp (v_fieldAddr rfl rfl hob rfl rfl rfl rfl (by decide)) rfl rfl rfl ?_
  refine sp (v_load rfl rfl hob rfl rfl) rfl rfl rfl ?_
  refine z_p ?_
  refine sp (v_same_ptr rfl rfl rfl hob rfl rfl rfl) rfl rfl rfl ?_
  refine WL.nil ?_
  refine W.cond_false rfl (W.skip ?_)
  exact ⟨.inr rfl, [], rfl, h⟩

theorem set_set_app {X Y buf : AObj} {l : List AObj} {b : Nat} (h : b < l.length) : (l.set b X ++ [buf]).set b Y = l.set b Y ++ [buf] := by
  rw [List.set_append_left _ _ (by simpa using h), List.set_set]

theorem bw_fresh (t : List UInt8) (hop : o.op = .call { callee := .value x, args := xs, argTypes := ts }) (hx : ev ⟨env, objs⟩ x = some (.func (.func 45) [] [])) (hxs : evL ⟨env, objs⟩ xs.toList = some [.ptr b 0 0, .str t]) (hob : objs[b]? = some (bldO .nilp .nils))
    (ht : t ≠ []) (htl : t.length ≤ 140737488355328) (hg : gd ops ⟨env, objs⟩ o = some true) (hd : o.dst = some d) (hlt : Nat.blt d nt = true)
    (h : WL ⟨Tryd.prog, tab, tab_ok, nt, w0, k, H0, ln, hk, hj, sv⟩ ops rest ⟨(d, .tup [.int .i64 t.length, .any]) :: env, objs.set b (bldO (.ptr b 0 0) (.sl objs.length 0 0 t.length true)) ++ [.cells (bytesAV t) 0 1 true (some 5)]⟩ Q) :
    WL ⟨Tryd.prog, tab, tab_ok, nt, w0, k, H0, ln, hk, hj, sv⟩ ops (o :: rest) ⟨env, objs⟩ Q := by
  have hbl : b < objs.length := (List.getElem?_eq_some_iff.1 hob).1
  have hob1 : (objs.set b (bldO (.ptr b 0 0) .nils))[b]? = some (bldO (.ptr b 0 0) .nils) := by simp [hbl]
  have hob2 : (objs.set b (bldO (.ptr b 0 0) .nils) ++ [AObj.cells (bytesAV t) 0 1 true (some 5)])[b]? = some (bldO (.ptr b 0 0) .nils) := by
    rw [List.getElem?_append_left (by simpa using hbl)]; exact hob1
  have hob3 : (objs.set b (bldO (.ptr b 0 0) .nils) ++ [AObj.cells (bytesAV t) 0 1 true (some 5)])[objs.length]? = some (.cells (bytesAV t) 0 1 true (some 5)) := by
    rw [List.getElem?_append_right (by simp)]; simp
  refine si Tryd.func45 rfl rfl rfl rfl hop hx hxs rfl rfl hg hd hlt fun tm => ?_
  refine W.seq (W.region ?_)
  refine z_p ?_
  refine sp (v_any_assign rfl) rfl rfl rfl ?_
  refine WL.nil ?_
  refine W.seq (W.region ?_)
  refine z_p ?_
  refine bc_fresh rfl rfl rfl hob rfl rfl rfl ?_
  refine WL.nil ?_
  refine W.seq (W.region ?_)
  refine z_p ?_
  refine z_p ?_
  refine sp (v_nilCheck rfl rfl hob1) rfl rfl rfl ?_
  refine sp (v_fieldAddr rfl rfl hob1 rfl rfl rfl rfl (by decide)) rfl rfl rfl ?_
  refine sp (v_load rfl rfl hob1 rfl rfl) rfl rfl rfl ?_
  refine z_p ?_
  refine sn (v_append_str_nil rfl rfl rfl rfl rfl rfl rfl rfl (by kernel_rfl) rfl rfl ht htl) (show _ = AV.sl objs.length 0 0 t.length true from by simp) rfl rfl rfl rfl ?_
  refine sp (v_nilCheck rfl rfl hob2) rfl rfl rfl ?_
  refine sp (v_fieldAddr rfl rfl hob2 rfl rfl rfl rfl (by decide)) rfl rfl rfl ?_
  refine ss (a_store1 rfl rfl hob2 rfl ⟨_, _, _, _, hob3⟩ (fun h => by cases h) rfl rfl (Nat.le_of_ble_eq_true rfl)) (show _ = objs.set b (bldO (.ptr b 0 0) (.sl objs.length 0 0 t.length true)) ++ [.cells (bytesAV t) 0 1 true (some 5)] from set_set_app hbl) rfl rfl ?_
  refine WL.nil ?_
  refine W.seq (W.region ?_)
  refine z_p ?_
  refine sp (v_len rfl rfl rfl rfl rfl trivial) rfl rfl rfl ?_
  refine z_p ?_
  refine sp (v_any_assign rfl) rfl rfl rfl ?_
  refine WL.nil ?_
  exact W.ret ⟨.inl rfl, _, rfl, h⟩

theorem bw_used (s t : List UInt8) (c ver : Nat) (hbc : b ≠ c) (hop : o.op = .call { callee := .value x, args := xs, argTypes := ts }) (hx : ev ⟨env, objs⟩ x = some (.func (.func 45) [] [])) (hxs : evL ⟨env, objs⟩ xs.toList = some [.ptr b 0 0, .str t])
    (hob : objs[b]? = some (bldO (.ptr b 0 0) (.sl c ver 0 s.length true))) (hoc : objs[c]? = some (.cells (bytesAV s) ver 1 true (some 5)))
    (htl : s.length + t.length ≤ 140737488355328) (hg : gd ops ⟨env, objs⟩ o = some true) (hd : o.dst = some d) (hlt : Nat.blt d nt = true)
    (h : WL ⟨Tryd.prog, tab, tab_ok, nt, w0, k, H0, ln, hk, hj, sv⟩ ops rest ⟨(d, .tup [.int .i64 t.length, .any]) :: env, (objs.set c (.cells (bytesAV (s ++ t)) (ver + 1) 1 true (some 5))).set b (bldO (.ptr b 0 0) (.sl c (ver + 1) 0 (s ++ t).length true))⟩ Q) :
    WL ⟨Tryd.prog, tab, tab_ok, nt, w0, k, H0, ln, hk, hj, sv⟩ ops (o :: rest) ⟨env, objs⟩ Q := by
  have hbl : b < objs.length := (List.getElem?_eq_some_iff.1 hob).1
  have hcl : c < objs.length := (List.getElem?_eq_some_iff.1 hoc).1
  have hob2 : (objs.set c (AObj.cells (bytesAV (s ++ t)) (ver + 1) 1 true (some 5)))[b]? = some (bldO (.ptr b 0 0) (.sl c ver 0 s.length true)) := by
    rw [List.getElem?_set_ne (Ne.symm hbc)]; exact hob
  have hob3 : (objs.set c (AObj.cells (bytesAV (s ++ t)) (ver + 1) 1 true (some 5)))[c]? = some (AObj.cells (bytesAV (s ++ t)) (ver + 1) 1 true (some 5)) := by
    simp [hcl]
  refine si Tryd.func45 rfl rfl rfl rfl hop hx hxs rfl rfl hg hd hlt fun tm => ?_
  refine W.seq (W.region ?_)
  refine z_p ?_
  refine sp (v_any_assign rfl) rfl rfl rfl ?_
  refine WL.nil ?_
  refine W.seq (W.region ?_)
  refine z_p ?_
  refine bc_used rfl rfl rfl hob rfl rfl rfl ?_
  refine WL.nil ?_
  refine W.seq (W.region ?_)
  refine z_p ?_
  refine z_p ?_
  refine sp (v_nilCheck rfl rfl hob) rfl rfl rfl ?_
  refine sp (v_fieldAddr rfl rfl hob rfl rfl rfl rfl (by decide)) rfl rfl rfl ?_
  refine sp (v_load rfl rfl hob rfl rfl) rfl rfl rfl ?_
  refine z_p ?_
  refine sn (v_append_str_own rfl rfl hoc rfl rfl rfl rfl rfl rfl (by kernel_rfl) rfl rfl htl) rfl rfl rfl rfl rfl ?_
  refine sp (v_nilCheck rfl rfl hob2) rfl rfl rfl ?_
  refine sp (v_fieldAddr rfl rfl hob2 rfl rfl rfl rfl (by decide)) rfl rfl rfl ?_
  refine ss (a_store1 rfl rfl hob2 rfl ⟨_, _, _, _, hob3⟩ (fun h => by cases h) rfl rfl (Nat.le_of_ble_eq_true rfl)) (rfl : _ = (objs.set c (AObj.cells (bytesAV (s ++ t)) (ver + 1) 1 true (some 5))).set b (bldO (.ptr b 0 0) (.sl c (ver + 1) 0 (s ++ t).length true))) rfl rfl ?_
  refine WL.nil ?_
  refine W.seq (W.region ?_)
  refine z_p ?_
  refine sp (v_len rfl rfl rfl rfl rfl trivial) rfl rfl rfl ?_
  refine z_p ?_
  refine sp (v_any_assign rfl) rfl rfl rfl ?_
  refine WL.nil ?_
  exact W.ret ⟨.inl rfl, _, rfl, h⟩

/-- the text of a builder that was written -/
theorem bs_used (s : List UInt8) (c ver : Nat) {p : AV} (hop : o.op = .call { callee := .value x, args := xs, argTypes := ts }) (hx : ev ⟨env, objs⟩ x = some (.func (.func 47) [] [])) (hxs : evL ⟨env, objs⟩ xs.toList = some [.ptr b 0 0])
    (hob : objs[b]? = some (bldO p (.sl c ver 0 s.length true))) (hoc : objs[c]? = some (.cells (bytesAV s) ver 1 true (some 5))) (hs : s ≠ []) (hsl : s.length ≤ 9223372036854775807)
    (hg : gd ops ⟨env, objs⟩ o = some true) (hd : o.dst = some d) (hlt : Nat.blt d nt = true)
    (h : WL ⟨Tryd.prog, tab, tab_ok, nt, w0, k, H0, ln, hk, hj, sv⟩ ops rest ⟨(d, .str s) :: env, objs.set c .dead⟩ Q) :
    WL ⟨Tryd.prog, tab, tab_ok, nt, w0, k, H0, ln, hk, hj, sv⟩ ops (o :: rest) ⟨env, objs⟩ Q := by
  have hpos : 0 < s.length := List.length_pos_iff.2 hs
  refine si Tryd.func47 rfl rfl rfl rfl hop hx hxs rfl rfl hg hd hlt fun tm => ?_
  refine W.seq (W.region ?_)
  refine z_p ?_
  refine WL.nil ?_
  refine W.seq (W.drawnR mixed [3, 4, 5, 6, 7, 8, 9, 10, 11, 12] (by kernel_rfl) ?_)
  apply DrawFrom.stepR
  · intro more
    refine z_p ?_
    exact z_e
  apply DrawFrom.stepR
  · intro more
    refine sp (v_nilCheck rfl rfl hob) rfl rfl rfl ?_
    exact z_e
  apply DrawFrom.stepR
  · intro more
    refine sp (v_fieldAddr rfl rfl hob rfl rfl rfl rfl (by decide)) rfl rfl rfl ?_
    exact z_e
  apply DrawFrom.stepR
  · intro more
    refine sp (v_load rfl rfl hob rfl rfl) rfl rfl rfl ?_
    exact z_e
  apply DrawFrom.stepR
  · intro more
    refine sp (v_sdata rfl rfl hoc hpos) rfl rfl rfl ?_
    exact z_e
  apply DrawFrom.stepR
  · intro more
    refine z_p ?_
    exact z_e
  apply DrawFrom.stepR
  · intro more
    refine sp (v_nilCheck rfl rfl hob) rfl rfl rfl ?_
    exact z_e
  apply DrawFrom.stepR
  · intro more
    refine sp (v_fieldAddr rfl rfl hob rfl rfl rfl rfl (by decide)) rfl rfl rfl ?_
    exact z_e
  apply DrawFrom.stepR
  · intro more
    refine sp (v_load rfl rfl hob rfl rfl) rfl rfl rfl ?_
    exact z_e
  apply DrawFrom.stepR
  · intro more
    refine sp (v_len rfl rfl rfl rfl ⟨_, rfl⟩ ⟨_, _, _, _, hoc⟩) rfl rfl rfl ?_
    exact z_e
  refine DrawFrom.doneR (rfl : _ = (_, _) :: (_, _) :: (_, _) :: (_, _) :: (_, _) :: (_, _) :: (_, _) :: (_, _) :: (_, _) :: (_, _) :: _) ?_
  refine sn (v_ustr rfl rfl rfl hoc hs rfl rfl rfl rfl hsl) rfl rfl rfl rfl rfl ?_
  refine z_p ?_
  refine WL.nil ?_
  exact W.ret ⟨.inl rfl, _, rfl, h⟩
end

end Go.Proofs.YtfiohajalaejoaaDoor

set_option linter.unusedVariables false
set_option linter.unusedSimpArgs false
namespace Go.Lens
open Go Go.RowKit

/-! ### jumps -/
def JumpQ (l : Nat) (J : St → Prop) (Q : Exit → St → Prop) : Exit → St → Prop
  | .goto l', s => l' = l ∧ J s
  | e, s => Q e s
theorem W.goto {C : Ctx} {st : St} {Q : Exit → St → Prop} {l : Nat} (h : Q (.goto l) st) : W C (.goto l) st Q := fun _ _ hr => wp_goto ⟨st, h, hr⟩
open Classical in
theorem W.jumps {C : Ctx} {c rest : Code} {st : St} {Q : Exit → St → Prop} (l : Nat) (hf : findLabel c l = some rest) (I : Nat → St → Prop)
    (pass : ∀ n s, I n s → W C rest s (JumpQ l (fun s' => ∃ m env0 objs0, m < n ∧ I m ⟨env0, objs0⟩ ∧ Fits C.k env0 objs0 s') Q))
    (first : (∀ n s, I n s → W C rest s (JumpQ l (fun s' => ∃ m env0 objs0, I m ⟨env0, objs0⟩ ∧ Fits C.k env0 objs0 s') Q)) → W C c st (JumpQ l (fun s' => ∃ m env0 objs0, I m ⟨env0, objs0⟩ ∧ Fits C.k env0 objs0 s') Q)) (hsv : C.sv = [] := by rfl) : W C (.scope c) st Q := by
  intro a w hrel
  let J : Act → World → Nat → Prop := fun a w n => ∃ st, I n st ∧ Rel C st a w
  have back : ∀ {e : Exit} {a' : Act} {w' : World} {D : St → Prop} {D' : Act → World → Prop}, (∀ s a' w', D s → Rel C s a' w' → D' a' w') → Post C (JumpQ l D Q) e a' w' → Exit.jump l D' (Post C Q) e a' w' := by
    intro e a' w' D D' hD h
    obtain ⟨s, h1, h2⟩ := h
    cases e with
    | goto l' => exact ⟨h1.1, hD s a' w' h1.2 h2⟩
    | _ => exact ⟨s, h1, h2⟩
  refine wp_scope_jumps l (fun a w => ∃ n, J a w n) (fun a w => if h : ∃ n, J a w n then Classical.choose (least h) else 0) hf ?_ ?_
  · refine wp_mono (first (fun n s hI => (pass n s hI).mono fun e s' h => ?_) a w hrel) fun e a' w' h => back ?_ h
    · cases e with
      | goto l' =>
        obtain ⟨h1, m, env0, objs0, _, h2, h3⟩ := h
        exact ⟨h1, m, env0, objs0, h2, h3⟩
      | _ => exact h
    · rintro s a' w' ⟨m, env0, objs0, h1, h2⟩ hr
      exact ⟨m, ⟨env0, objs0⟩, h1, hr.weak h2.1 h2.2.1 h2.2.2.1 h2.2.2.2 hsv⟩
  · intro a w hJ
    have hsp := Classical.choose_spec (least hJ)
    obtain ⟨⟨st1, hI, hR⟩, hmin⟩ := hsp
    refine wp_mono (pass _ st1 hI a w hR) fun e a' w' h => back ?_ h
    rintro s a' w' ⟨m, env0, objs0, hm, h1, h2⟩ hr
    have hJ' : J a' w' m := ⟨⟨env0, objs0⟩, h1, hr.weak h2.1 h2.2.1 h2.2.2.1 h2.2.2.2 hsv⟩
    have hex : ∃ n, J a' w' n := ⟨m, hJ'⟩
    refine ⟨hex, ?_⟩
    simp only [dif_pos hJ, dif_pos hex]
    exact Nat.lt_of_le_of_lt ((Classical.choose_spec (least hex)).2 m hJ') hm

theorem W.again {C : Ctx} {c body : Code} {st : St} {Q : Exit → St → Prop} (l : Nat) (hf : findLabel c l = some (.seq .skip body)) (I : Nat → St → Prop)
    (pass : ∀ n s, I n s → W C body s (JumpQ l (fun s' => ∃ m env0 objs0, m < n ∧ I m ⟨env0, objs0⟩ ∧ Fits C.k env0 objs0 s') Q))
    (first : (∀ n s, I n s → W C body s (JumpQ l (fun s' => ∃ m env0 objs0, I m ⟨env0, objs0⟩ ∧ Fits C.k env0 objs0 s') Q)) → W C c st (JumpQ l (fun s' => ∃ m env0 objs0, I m ⟨env0, objs0⟩ ∧ Fits C.k env0 objs0 s') Q)) (hsv : C.sv = [] := by rfl) : W C (.scope c) st Q :=
  W.jumps l hf I (fun n s hI => W.seq (W.skip (pass n s hI))) (fun _ => first fun n s hI => (pass n s hI).mono fun e s' h => by
    cases e with
    | goto l' =>
      obtain ⟨h1, m, env0, objs0, _, h2, h3⟩ := h
      exact ⟨h1, m, env0, objs0, h2, h3⟩
    | _ => exact h) hsv

/-! ### calls -/
/-- a call that tells a predicate of its plain result; lent slices are kept -/
theorem sx {C : Ctx} {ops : Array Oper} {o : Oper} {rest : List Oper} {env : List (Nat × AV)} {objs : List AObj} {Q : Exit → St → Prop} {x : Operand} {xs : Array Operand} {ts : Array TypeId} {f : FuncId} {fs cs avs avs' args args' : List AV} {R : AV → Prop} {L : List Nat} {d : Nat}
    (hs : Spec C.P f args' [] (fun r os => R r ∧ os = []))
    (hop : o.op = .call { callee := .value x, args := xs, argTypes := ts }) (hx : ev ⟨env, objs⟩ x = some (.func (.func f) fs cs)) (hxs : evL ⟨env, objs⟩ xs.toList = some avs) (ha : fs ++ avs ++ cs = avs')
    (hp : PassL objs 0 avs' args L [] []) (he : args = args') (hR : ∀ r, R r → r.plain = true ∧ r.noRow = true)
    (hg : gd ops ⟨env, objs⟩ o = some true) (hd : o.dst = some d) (hlt : Nat.blt d C.nt = true)
    (h : ∀ r, R r → WL C ops rest ⟨(d, r) :: env, objs⟩ Q) : WL C ops (o :: rest) ⟨env, objs⟩ Q := by
  subst ha; subst he
  refine WL.call false hs hop hx hxs hp (by simp) (by simp) (by simp) hg (fun t ht => by rw [hd] at ht; injection ht with ht; subst ht; exact Nat.le_of_ble_eq_true hlt) ?_
  rintro r' O' ⟨hr, rfl⟩
  obtain ⟨h1, h2⟩ := hR r' hr
  refine ⟨fun i _ _ _ _ _ hi => by simp at hi, AV.ge_plain _ _ h1, fun i ob _ hi => by simp at hi, .inr ⟨h2, by simp⟩, ?_⟩
  have := h r' hr
  simp only [wb, Bool.false_eq_true, if_false, List.drop_nil, List.map_nil, List.append_nil, AV.up_plain _ _ _ h1, hd]
  exact this

/-- a function that hands back a slice of its own -/
def Owns (P : Program) (f : FuncId) (args : List AV) (cs : List AV) (n : Nat) (full : Bool) (esz : Nat) (e : TypeId) : Prop :=
  Spec P f args [] (fun r os => r = .sl 0 0 0 n full ∧ os = [.cells cs 0 esz true (some e)])
theorem so1 {C : Ctx} {ops : Array Oper} {o : Oper} {rest : List Oper} {env : List (Nat × AV)} {objs : List AObj} {Q : Exit → St → Prop} {x : Operand} {xs : Array Operand} {ts : Array TypeId} {f : FuncId} {fs cs avs avs' : List AV} {d n esz m : Nat} {full : Bool} {e : TypeId} {ds : List AV}
    (hs : Owns C.P f avs' ds n full esz e)
    (hop : o.op = .call { callee := .value x, args := xs, argTypes := ts }) (hx : ev ⟨env, objs⟩ x = some (.func (.func f) fs cs)) (hxs : evL ⟨env, objs⟩ xs.toList = some avs) (ha : fs ++ avs ++ cs = avs')
    (hp : plainL avs' = true) (hm : objs.length = m)
    (hg : gd ops ⟨env, objs⟩ o = some true) (hd : o.dst = some d) (hlt : Nat.blt d C.nt = true)
    (h : WL C ops rest ⟨(d, .sl m 0 0 n full) :: env, objs ++ [.cells ds 0 esz true (some e)]⟩ Q) : WL C ops (o :: rest) ⟨env, objs⟩ Q := by
  subst ha; subst hm
  refine WL.call true hs hop hx hxs (PassL.of_plain hp) (by simp) (by simp) (by simp) hg (fun t ht => by rw [hd] at ht; injection ht with ht; subst ht; exact Nat.le_of_ble_eq_true hlt) ?_
  rintro r' O' ⟨rfl, rfl⟩
  refine ⟨fun i _ _ _ _ _ hi => by simp at hi, rfl, fun i ob _ hi => ?_, .inl rfl, ?_⟩
  · rcases i with _ | i
    · simp at hi; subst hi; rfl
    · simp at hi
  · simp only [wb, killL, if_true, List.drop_zero, List.length_nil, List.map_cons, List.map_nil, AObj.up, AV.up, Nat.sub_zero, Nat.add_zero, hd]
    exact h
theorem finO {T : Tab} {rs : List ResultVar} {st : St} {o ver esz n : Nat} {full : Bool} {cs : List AV} {e : TypeId} (h : resAV T st rs = some [.sl o ver 0 n full]) (hob : st.objs[o]? = some (.cells cs ver esz true (some e))) :
    Fin T rs 0 (fun r' os => r' = .sl 0 0 0 n full ∧ os = [.cells cs 0 esz true (some e)]) .ret st := by
  refine ⟨.inl rfl, _, _, [o], h, .own hob .nil, by simp, fun ob hob => by simp at hob, rfl, ?_⟩
  simp [List.getD, hob, AObj.fresh]
theorem finX {T : Tab} {rs : List ResultVar} {st : St} {R : AV → Prop} {cs cs' : List AV} (h : resAV T st rs = some cs) (hp : PackL st.objs 0 [] 0 cs cs' []) (hr : R (tupAV cs')) : Fin T rs 0 (fun r' os => R r' ∧ os = []) .ret st :=
  ⟨.inl rfl, cs, cs', [], h, hp, List.nodup_nil, fun ob hob => by simp at hob, hr, by simp⟩
theorem doesX {P : Program} {T : Tab} (ok : TabOK P T) {f : FuncId} {fn : Func} {c : Code} (hf : P.funcs[f]? = some fn) (hb : fn.body = some c) (hname : (fn.name == "runtime.NumGoroutine") = false)
    {nt : Nat} (hnt : fn.ntmps = nt) {rs : List ResultVar} (hrs : fn.results.toList = rs) {args : List AV} (hlen : Nat.ble args.length nt = true) {Q : AV → List AObj → Prop}
    (h : ∀ w0 H0 hk hj, W ⟨P, T, ok, nt, w0, 0, H0, lnOf [], hk, hj, []⟩ c ⟨envOf 0 args, []⟩ (Fin T rs 0 Q)) : Spec P f args [] Q :=
  Spec.of_W ok hf hb hname hnt hrs (Nat.le_of_ble_eq_true hlen) (fun _ h => by cases h) h

/-- the same, into a place that is kept free -/
theorem soS {C : Ctx} {ops : Array Oper} {o : Oper} {rest : List Oper} {env : List (Nat × AV)} {objs : List AObj} {Q : Exit → St → Prop} {x : Operand} {xs : Array Operand} {ts : Array TypeId} {f : FuncId} {fs cs avs avs' : List AV} {d n esz j : Nat} {full : Bool} {e : TypeId} {ds : List AV}
    (hs : Owns C.P f avs' ds n full esz e) (hjs : objs[j]? = some .slot) (hjk : C.k ≤ j)
    (hop : o.op = .call { callee := .value x, args := xs, argTypes := ts }) (hx : ev ⟨env, objs⟩ x = some (.func (.func f) fs cs)) (hxs : evL ⟨env, objs⟩ xs.toList = some avs) (ha : fs ++ avs ++ cs = avs')
    (hp : plainL avs' = true)
    (hg : gd ops ⟨env, objs⟩ o = some true) (hd : o.dst = some d) (hlt : Nat.blt d C.nt = true)
    (h : WL C ops rest ⟨(d, .sl j 1 0 n full) :: env, objs.set j (.cells ds 1 esz true (some e))⟩ Q) : WL C ops (o :: rest) ⟨env, objs⟩ Q := by
  subst ha
  intro a w ⟨H, hi⟩
  obtain ⟨vs, hrun, hrel⟩ := run_call hi hop hx hxs hs.1
  unfold wpList
  rw [gd_rel hg hi, if_pos rfl]
  refine .inl ?_
  unfold Oper.wp
  rw [hrun]
  simp only [Oper.upon]
  have hpl : PassL objs 0 (fs ++ avs ++ cs) (fs ++ avs ++ cs) [] [] [] := PassL.of_plain hp
  have hO := hi.objs.callee hpl (by simp) (by simp)
  have hra : RelL w (fs ++ avs ++ cs) (H.callee [] []) vs := by
    refine hpl.rel (Hc := H.callee [] []) hi.objs (fun b _ hb => hb.1) [] rfl rfl (fun o ho hw => hw.2 o ho rfl) (fun i o off hio => by simp at hio) hrel
  refine (hs.2 _ w vs hO hra).mono fun e' w' ⟨r, O', H', v, he, ⟨hr, hos⟩, hrv, hl⟩ => ?_
  subst he; subst hr; subst hos
  have hn : H.n = objs.length := hi.objs.n
  have hjl : j < objs.length := (List.getElem?_eq_some_iff.1 hjs).1
  have hv0 : H.ver j = 0 := hi.objs.rel j _ hjs
  have hwc : ∀ b, b < w.heap.size → (H'.wr b ↔ H.wr b) := fun b hb => (hl.wr b hb).trans ⟨fun h => h.1, fun h => ⟨h, fun o ho => by cases ho⟩⟩
  have hz0 := hl.ok.rel 0 (.cells ds 0 esz true (some e)) rfl
  have hnew : w.heap.size ≤ H'.blk 0 := hl.new 0 _ (by simp) rfl rfl
  let J : View := { n := H.n, blk := fun o => if o = j then H'.blk 0 else H.blk o, off := fun o => if o = j then H'.off 0 else H.off o, cap := fun o => if o = j then H'.cap 0 else H.cap o, ver := fun o => if o = j then 1 else H.ver o, wr := H'.wr }
  have hfrm : ∀ b, b < w.heap.size → w'.heap[b]? = w.heap[b]? := fun b hb => hl.frame b hb fun o ob ho => by simp at ho
  have hK : Keeps w H w' J := by
    refine ⟨fun ad u hcell hx => ?_, fun b hb h => (hwc b hb).1 h, Nat.le_refl _, fun o' ho' => ?_, fun o' ho' hvv => ?_⟩
    · rw [World.cell?_of_block (w := w) (hfrm _ (World.block_lt_of_cell? w ad hcell))]; exact hcell
    · by_cases e : o' = j
      · subst e; simp [J, hv0]
      · simp [J, e]
    · by_cases e : o' = j
      · subst e; simp [J, hv0] at hvv
      · simp [J, e]
  have hget : ∀ i ob, (objs.set j (.cells ds 1 esz true (some e)))[i]? = some ob → (i = j ∧ ob = .cells ds 1 esz true (some e)) ∨ (i ≠ j ∧ objs[i]? = some ob) := by
    intro i ob hob
    by_cases e : i = j
    · subst e
      rw [List.getElem?_set_self hjl] at hob
      injection hob with hob
      exact .inl ⟨rfl, hob.symm⟩
    · rw [List.getElem?_set_ne (Ne.symm e)] at hob
      exact .inr ⟨e, hob⟩
  have hlive : ∀ i ob, objs[i]? = some ob → ob.live = true → H.blk i < w.heap.size := fun i ob h1 h2 => hi.objs.lt _ (hi.objs.wr_blk h1 h2)
  have hinv : Inv C J ⟨env, objs.set j (.cells ds 1 esz true (some e))⟩ a w' := by
    refine hi.move (objs' := objs.set j (.cells ds 1 esz true (some e))) hK ⟨by simp [J, hn], fun i ob hob => ?_, fun i i' ob ob' h1 h2 l1 l2 hb => ?_, fun b hb => hl.ok.lt b hb⟩ (fun b hb => hwc b (Nat.lt_of_lt_of_le hb hi.le)) (by have := hi.klen; simp at this ⊢; omega) (fun x hx => by simp [J, show x ≠ j by omega]) (fun x cs ver esz flat own hx hob => ?_) (fun x hx => Outside.of_eq (hfrm _ (Nat.lt_of_lt_of_le (C.hk x hx) hi.le)) _ _) (fun i ob hob hl' => ?_) (fun b hb _ => hfrm b (Nat.lt_of_lt_of_le hb hi.le)) hl.size hl.os hl.tape hl.output
    · rcases hget i ob hob with ⟨rfl, rfl⟩ | ⟨hne, hob⟩
      · obtain ⟨_, q1, vs0, c0, e0, q2, q3, q4, q5⟩ := hz0
        refine ⟨by simp [J], by simpa [J] using q1, vs0, c0, e0, by simpa [J] using q2, ?_, by simpa [J] using q4, by simpa [J] using q5⟩
        exact RelL.keeps (w := w') (H := H'.flatIf true) (H' := J.flatIf true) _ ⟨fun _ _ h _ => h, fun b _ h => h, Nat.le_refl _, fun o ho => absurd ho (Nat.not_lt_zero _), fun o ho => absurd ho (Nat.not_lt_zero _)⟩ q3
      · by_cases hlv : ob.live = true
        · exact (hi.objs.rel i ob hob).keeps hK (by simp [J, hne]) (by simp [J, hne]) (by simp [J, hne]) (by simp [J, hne]) (fun h => (hwc _ (hlive i ob hob hlv)).2 h) (hfrm _ (hlive i ob hob hlv))
        · cases ob <;> first | trivial | (simp [AObj.live] at hlv; done) | (have := hi.objs.rel i _ hob; simpa [RelO, J, hne] using this)
    · rcases hget i ob h1 with ⟨e1, rfl⟩ | ⟨n1, g1⟩ <;> rcases hget i' ob' h2 with ⟨e2, rfl⟩ | ⟨n2, g2⟩
      · rw [e1, e2]
      · simp only [J, if_pos e1, if_neg n2] at hb
        have := hlive _ _ g2 l2; omega
      · simp only [J, if_pos e2, if_neg n1] at hb
        have := hlive _ _ g1 l1; omega
      · simp only [J, if_neg n1, if_neg n2] at hb
        exact hi.objs.inj _ _ _ _ g1 g2 l1 l2 hb
    · rcases hget x _ hob with ⟨rfl, _⟩ | ⟨_, hob⟩
      · omega
      · exact hi.lens x cs ver esz flat own hx hob
    · rcases hget i ob hob with ⟨rfl, _⟩ | ⟨hne, hob⟩
      · exact .inr (by simp only [J, if_true]; have := hi.le; omega)
      · simp only [J, if_neg hne]; exact hi.own i ob hob hl'
  have hval : RelV w' (.sl j 1 0 n full) J v := by
    obtain ⟨_, _, q3⟩ := hrv
    obtain ⟨ad, c, q4, q5, q6, q7⟩ := q3 hz0.1
    refine ⟨by simp [J, hn]; omega, by simp [J], fun _ => ⟨ad, c, q4, q5, ?_, ?_⟩⟩
    · simpa [J] using q6
    · simpa [J] using q7
  have := hinv.put o.dst (fun t ht => by rw [hd] at ht; injection ht with ht; subst ht; exact Nat.le_of_ble_eq_true hlt) hval
  rw [hd] at this
  refine h _ _ ⟨J, ?_⟩
  rw [hd]
  exact this

theorem MidVS.call {C : Ctx} {ops : Array Oper} {ds : List Nat} {env0 : List (Nat × AV)} {objsB : List AObj} {adst : List (Nat × AObj)} {K : List (Nat × AV) → Prop} {d : Nat} {o : Oper} {r : List (Nat × Oper)} {acc : List (Nat × AV)} {x : Operand} {xs : Array Operand} {ts : Array TypeId} {f : FuncId} {fs cs avs avs' : List AV} {m esz : Nat} {full : Bool} {e : TypeId} {us : List AV} (k n : Nat)
    (hs : Owns C.P f avs' us m full esz e) (ha : adst[k]? = some (d, .cells us 1 esz true (some e))) (hn : objsB.length + k = n) (hk : Nat.ble C.k n = true) (hd : o.dst = some d) (hg : o.guard = none) (hlt : Nat.blt d C.nt = true)
    (hop : o.op = .call { callee := .value x, args := xs, argTypes := ts }) (hx : ∀ mo more, ev ⟨(sel acc (depT ops o) ++ clean ds env0) ++ more, objsB ++ mo⟩ x = some (.func (.func f) fs cs)) (hxs : ∀ mo more, evL ⟨(sel acc (depT ops o) ++ clean ds env0) ++ more, objsB ++ mo⟩ xs.toList = some avs) (hav : fs ++ avs ++ cs = avs')
    (hp : plainL avs' = true) (h' : MidVS C ops ds env0 objsB adst K r ((d, .sl n 1 0 m full) :: acc)) : MidVS C ops ds env0 objsB adst K ((d, o) :: r) acc := by
  subst hn
  refine ⟨.sl (objsB.length + k) 1 0 m full, .inr ⟨k, _, ha, fun mo more hsl => ?_⟩, h'⟩
  have hs' : (objsB ++ mo)[objsB.length + k]? = some .slot := by rw [List.getElem?_append_right (by omega)]; simpa using hsl
  refine soS hs hs' (Nat.le_of_ble_eq_true hk) hop (hx mo more) (hxs mo more) hav hp (by unfold gd; rw [hg]) hd hlt ?_
  have he : (objsB ++ mo).set (objsB.length + k) (.cells us 1 esz true (some e)) = objsB ++ mo.set k (.cells us 1 esz true (some e)) := by
    rw [List.set_append_right _ _ (by omega)]; simp
  rw [he]
  exact WL.nil ⟨rfl, rfl⟩

end Go.Lens

set_option linter.unusedVariables false
set_option linter.unusedSimpArgs false
namespace Go.Lens
open Go Go.RowKit

theorem v_cap_nils {C : Ctx} {o : Oper} {st : St} {x : Operand} {t e : TypeId} {y : Ty} (hop : o.op = .call { callee := .builtin .cap, args := #[x], argTypes := #[t] })
    (hx : ev st x = some .nils) (hy : C.T.at t = some y) (hk : y.k = .slice e) : VStep C o st (.int .i64 0) st.objs := by
  refine VStep.of_pure fun H a w hi => ?_
  have hr := ev_rel hi hx
  obtain ⟨d, inf, hd, _, hkd, _⟩ := C.ty hy
  rw [hk] at hkd
  obtain rfl := kOf_slice hkd
  simp only [RelV] at hr
  exact ⟨.int .i64 0, by simp [execOp, hop, resolve, invoke, builtin, Builtin.cap_, run_underlying hd, hr, goInt], rfl⟩

/-- nothing is copied -/
theorem v_copy_nils {C : Ctx} {o : Oper} {st : St} {x x' : Operand} {t t' e : TypeId} {y ye : Ty} {ob ver off n esz : Nat} {full flat : Bool} {cs : List AV} {own : Option TypeId} (hop : o.op = .call { callee := .builtin .copy, args := #[x, x'], argTypes := #[t, t'] })
    (hx : ev st x = some (.sl ob ver off n full)) (hob : st.objs[ob]? = some (.cells cs ver esz flat own)) (hx' : ev st x' = some .nils) (hy : C.T.at t = some y) (hk : y.k = .slice e) (hye : C.T.at e = some ye) : VStep C o st (.int .i64 0) st.objs := by
  refine VStep.of_pure fun H a w hi => ?_
  have h2 := ev_rel hi hx'
  obtain ⟨d, inf, hd, _, hkd, _⟩ := C.ty hy
  rw [hk] at hkd
  obtain rfl := kOf_slice hkd
  obtain ⟨de, ie, hde, hie, _⟩ := C.ty hye
  obtain ⟨_, _, hp⟩ := ev_rel hi hx
  obtain ⟨ad, c, hp, _⟩ := hp (hi.objs.rel ob _ hob).1
  simp only [RelV] at h2
  refine ⟨.int .i64 0, ?_, rfl⟩
  simp [execOp, hop, resolve, invoke, builtin, Builtin.copy_, run_underlying hd, h2, hp, goInt, Builtin.lenOf, sizeOf, typeInfo, hie, Builtin.firstCells, storeCells]

/-- a function that hands out a row of unset bytes -/
def Unset (P : Program) (f : FuncId) (N : Nat) (e : TypeId) : Prop :=
  ∀ w : World, ∃ cs : Array Value, (callFunc f #[.int .i64 N]).run P w = .ok (.value (.slice (some ⟨w.heap.size, 0, none⟩) N cs.size)) (w.drew.drew.alloc (.cells cs e)) ∧ N ≤ cs.size ∧ cs.size ≤ maxLen

theorem Unset.of {P : Program} {f : FuncId} {fn : Func} {t e : TypeId} {ps : Array TypeId} (hf : P.funcs[f]? = some fn) (hb : fn.body.isNone = true) (hn : (fn.name == "runtime.NumGoroutine") = false) (hx : Extern.findNext fn = none)
    (he : Extern.find fn = some (Extern.BytealgMakeNoZero.makeNoZero ps #[t])) (ht : P.underlying t = some (.slice e)) (N : Nat) (hN : N ≤ 140737488355328) : Unset P f N e := by
  intro w
  obtain ⟨cs, h1, h2, h3⟩ := Lib.run_makeNoZero (P := P) w ps t e ht N (by omega)
  refine ⟨cs, ?_, h2, h3 (by simp only [maxLen]; omega)⟩
  have hn' : ¬ (fn.name == "runtime.NumGoroutine") = true := by rw [hn]; simp
  unfold callFunc
  simp only [Sem.run_bind, run_program, Result.andThen_ok, hf, if_neg hn', hb, if_true, run_mark, hx, he, Sem.run_pure, h1]

theorem v_unsetS {C : Ctx} {o : Oper} {env : List (Nat × AV)} {objs : List AObj} {x : Operand} {xs : Array Operand} {ts : Array TypeId} {f : FuncId} {N : Nat} {e : TypeId} {j : Nat} (hs : Unset C.P f N e) (hjs : objs[j]? = some .slot) (hjk : C.k ≤ j)
    (hop : o.op = .call { callee := .value x, args := xs, argTypes := ts }) (hx : ev ⟨env, objs⟩ x = some (.func (.func f) [] [])) (hxs : evL ⟨env, objs⟩ xs.toList = some [.int .i64 N]) :
    VStep C o ⟨env, objs⟩ (.sl j 1 0 N true) (objs.set j (.cells [] 1 1 true (some e))) := by
  intro H a w hi
  obtain ⟨us, us', ef, e1, e2⟩ := ev_rel hi hx
  simp only [RelL] at e1 e2
  subst e1; subst e2
  obtain ⟨u, _, evs, eu, rfl⟩ := evL_rel hi hxs
  simp only [RelV] at eu
  subst eu
  obtain ⟨cs, hrun, hNc, hcm⟩ := hs w
  have hn : H.n = objs.length := hi.objs.n
  have hjl : j < objs.length := (List.getElem?_eq_some_iff.1 hjs).1
  have hv0 : H.ver j = 0 := hi.objs.rel j _ hjs
  let H' : View := { n := H.n, blk := fun o => if o = j then w.heap.size else H.blk o, off := fun o => if o = j then 0 else H.off o, cap := fun o => if o = j then cs.size else H.cap o, ver := fun o => if o = j then 1 else H.ver o, wr := fun b => H.wr b ∨ b = w.heap.size }
  have hold : ∀ b, b < w.heap.size → (w.drew.drew.alloc (.cells cs e)).heap[b]? = w.heap[b]? := fun b hb => heap_alloc_old w.drew.drew _ hb
  have hK : Keeps w H (w.drew.drew.alloc (.cells cs e)) H' := by
    refine ⟨fun a v h _ => ?_, fun b hb hwr => ?_, Nat.le_refl _, fun o' ho' => ?_, fun o' ho' hvv => ?_⟩
    · rw [World.cell?_of_block (w := w) (hold _ (World.block_lt_of_cell? w a h))]; exact h
    · rcases hwr with h | h
      · exact h
      · omega
    · by_cases e : o' = j
      · subst e; simp [H', hv0]
      · simp [H', e]
    · by_cases e : o' = j
      · subst e; simp [H', hv0] at hvv
      · simp [H', e]
  have hget : ∀ i ob, (objs.set j (.cells [] 1 1 true (some e)))[i]? = some ob → (i = j ∧ ob = .cells [] 1 1 true (some e)) ∨ (i ≠ j ∧ objs[i]? = some ob) := by
    intro i ob hob
    by_cases e : i = j
    · subst e
      rw [List.getElem?_set_self hjl] at hob
      injection hob with hob
      exact .inl ⟨rfl, hob.symm⟩
    · rw [List.getElem?_set_ne (Ne.symm e)] at hob
      exact .inr ⟨e, hob⟩
  have hlive : ∀ i ob, objs[i]? = some ob → ob.live = true → H.blk i < w.heap.size := fun i ob h1 h2 => hi.objs.lt _ (hi.objs.wr_blk h1 h2)
  refine ⟨.slice (some ⟨w.heap.size, 0, none⟩) N cs.size, w.drew.drew.alloc (.cells cs e), H', ?_, ?_, ?_⟩
  · simp only [execOp, hop, resolve, ef, Deferred.ofValue, invoke, Sem.run_bind, Sem.run_pure, Result.andThen_ok]
    rw [← hrun]
    congr 2
    apply Array.ext'
    simp [evs]
  · refine hi.move (objs' := objs.set j (.cells [] 1 1 true (some e))) hK ⟨by simp [H', hn], fun i ob hob => ?_, fun i i' ob ob' h1 h2 l1 l2 hb => ?_, fun b hb => ?_⟩ (fun b hb => ⟨fun h => h.resolve_right (by have := hi.le; omega), .inl⟩) (by have := hi.klen; simp at this ⊢; omega) (fun x hx => by simp [H', show x ≠ j by omega]) (fun x cs ver esz flat own hx hob => ?_) (fun x hx => Outside.of_eq (hold _ (Nat.lt_of_lt_of_le (C.hk x hx) hi.le)) _ _) (fun i ob hob hl => ?_) (fun b hb _ => hold b (Nat.lt_of_lt_of_le hb hi.le)) (by simp) rfl rfl rfl
    · rcases hget i ob hob with ⟨rfl, rfl⟩ | ⟨hne, hob⟩
      · refine ⟨by simp [H'], by simp [H'], [], cs, e, ?_, rfl, ?_, fun t' h => ?_⟩
        · simpa [H'] using heap_alloc_new w.drew.drew (.cells cs e)
        · intro k u hu; simp at hu
        · injection h with h
          exact ⟨h, by simp [H'], by simp [H'], by simpa [H'] using hcm, 0, by simp, Nat.zero_le _⟩
      · by_cases hl : ob.live = true
        · exact (hi.objs.rel i ob hob).keeps hK (by simp [H', hne]) (by simp [H', hne]) (by simp [H', hne]) (by simp [H', hne]) (fun h => .inl h) (hold _ (hlive i ob hob hl))
        · cases ob <;> first | trivial | (simp [AObj.live] at hl; done) | (have := hi.objs.rel i _ hob; simpa [RelO, H', hne] using this)
    · rcases hget i ob h1 with ⟨e1, rfl⟩ | ⟨n1, g1⟩ <;> rcases hget i' ob' h2 with ⟨e2, rfl⟩ | ⟨n2, g2⟩
      · rw [e1, e2]
      · simp only [H', if_pos e1, if_neg n2] at hb
        have := hlive _ _ g2 l2; omega
      · simp only [H', if_pos e2, if_neg n1] at hb
        have := hlive _ _ g1 l1; omega
      · simp only [H', if_neg n1, if_neg n2] at hb
        exact hi.objs.inj _ _ _ _ g1 g2 l1 l2 hb
    · rcases hb with hb | hb
      · have := hi.objs.lt b hb; simp; omega
      · subst hb; simp
    · rcases hget x _ hob with ⟨rfl, _⟩ | ⟨_, hob⟩
      · omega
      · exact hi.lens x cs ver esz flat own hx hob
    · rcases hget i ob hob with ⟨rfl, _⟩ | ⟨hne, hob⟩
      · exact .inr (by simp only [H', if_true]; exact hi.le)
      · simp only [H', if_neg hne]; exact hi.own i ob hob hl
  · exact ⟨by simp [H', hn]; omega, by simp [H'], fun _ => ⟨⟨w.heap.size, 0, none⟩, cs.size, rfl, hNc, fun _ => by simp [H'], fun _ => ⟨by simp [H'], rfl, by simp [H']⟩⟩⟩

theorem MidVS.unset {C : Ctx} {ops : Array Oper} {ds : List Nat} {env0 : List (Nat × AV)} {objsB : List AObj} {adst : List (Nat × AObj)} {K : List (Nat × AV) → Prop} {d : Nat} {o : Oper} {r : List (Nat × Oper)} {acc : List (Nat × AV)} {x : Operand} {xs : Array Operand} {ts : Array TypeId} {f : FuncId} {N : Nat} {e : TypeId} (k n : Nat)
    (hs : Unset C.P f N e) (hk : Nat.ble C.k n = true) (ha : adst[k]? = some (d, .cells [] 1 1 true (some e)) := by exact rfl) (hn : objsB.length + k = n := by exact rfl) (hd : o.dst = some d := by exact rfl) (hg : o.guard = none := by exact rfl) (hlt : Nat.blt d C.nt = true := by exact rfl)
    (hop : o.op = .call { callee := .value x, args := xs, argTypes := ts } := by exact rfl) (hx : ∀ mo more, ev ⟨(sel acc (depT ops o) ++ clean ds env0) ++ more, objsB ++ mo⟩ x = some (.func (.func f) [] []) := by exact (fun _ _ => rfl)) (hxs : ∀ mo more, evL ⟨(sel acc (depT ops o) ++ clean ds env0) ++ more, objsB ++ mo⟩ xs.toList = some [.int .i64 N] := by exact (fun _ _ => rfl))
    (h' : MidVS C ops ds env0 objsB adst K r ((d, .sl n 1 0 N true) :: acc)) : MidVS C ops ds env0 objsB adst K ((d, o) :: r) acc := by
  subst hn
  refine ⟨.sl (objsB.length + k) 1 0 N true, .inr ⟨k, _, ha, fun mo more hsl => ?_⟩, h'⟩
  have hs' : (objsB ++ mo)[objsB.length + k]? = some .slot := by rw [List.getElem?_append_right (by omega)]; simpa using hsl
  have hstep := v_unsetS (C := C) (o := o) (env := (sel acc (depT ops o) ++ clean ds env0) ++ more) hs hs' (Nat.le_of_ble_eq_true hk) hop (hx mo more) (hxs mo more)
  have he : (objsB ++ mo).set (objsB.length + k) (.cells [] 1 1 true (some e)) = objsB ++ mo.set k (.cells [] 1 1 true (some e)) := by
    rw [List.set_append_right _ _ (by omega)]; simp
  rw [he] at hstep
  exact sn hstep rfl rfl (by unfold gd; rw [hg]) hd hlt (WL.nil ⟨rfl, rfl⟩)

end Go.Lens

set_option linter.unusedVariables false
set_option linter.unusedSimpArgs false
namespace Go.Proofs.YtfiohajalaejoaaDoor
open Go Go.Lens

theorem unset_spec (N : Nat) (hN : N ≤ 140737488355328) : Unset Tryd.prog 98 N 5 :=
  Unset.of (t := 91) (ps := Tryd.f98.params) Tryd.func98 (by kernel_rfl) (by kernel_rfl) (by kernel_rfl) (by kernel_rfl) (by kernel_rfl) N hN

section
variable {nt : Nat} {w0 : World} {k : Nat} {H0 : View} {ln : Nat → Nat} {hk : ∀ o, o < k → H0.blk o < w0.heap.size} {hj : ∀ x o, x < k → o < k → H0.blk x = H0.blk o → x = o} {sv : List (Array Value × List (Nat × AV))}
  {ops : Array Oper} {o : Oper} {rest : List Oper} {env : List (Nat × AV)} {objs : List AObj} {Q : Exit → St → Prop} {x : Operand} {xs : Array Operand} {ts : Array TypeId} {d b : Nat}

theorem bgrow (n : Nat) (hkn : Nat.ble k objs.length = true) (hn : n ≤ 140737488355328) (hop : o.op = .call { callee := .value x, args := xs, argTypes := ts }) (hx : ev ⟨env, objs⟩ x = some (.func (.func 75) [] [])) (hxs : evL ⟨env, objs⟩ xs.toList = some [.ptr b 0 0, .int .i64 n]) (hob : objs[b]? = some (bldO (.ptr b 0 0) .nils))
    (hg : gd ops ⟨env, objs⟩ o = some true) (hd : o.dst = some d) (hlt : Nat.blt d nt = true) (h : WL ⟨Tryd.prog, tab, tab_ok, nt, w0, k, H0, ln, hk, hj, sv⟩ ops rest ⟨(d, .tup []) :: env, objs.set b (bldO (.ptr b 0 0) (.sl objs.length 1 0 0 true)) ++ [.cells [] 1 1 true (some 5)]⟩ Q) :
    WL ⟨Tryd.prog, tab, tab_ok, nt, w0, k, H0, ln, hk, hj, sv⟩ ops (o :: rest) ⟨env, objs⟩ Q := by
  have hu := unset_spec n hn
  have hbl : b < objs.length := (List.getElem?_eq_some_iff.1 hob).1
  have hobm : ∀ mo, (objs ++ mo)[b]? = some (bldO (.ptr b 0 0) .nils) := fun mo => by rw [List.getElem?_append_left hbl]; exact hob
  have hnew : (objs ++ [AObj.cells [] 1 1 true (some 5)])[objs.length]? = some (.cells [] 1 1 true (some 5)) := by rw [List.getElem?_append_right (Nat.le_refl _)]; simp
  have h2 : 2 * (0 : Int) + n = (n : Nat) := by omega
  refine si Tryd.func75 rfl rfl rfl rfl hop hx hxs rfl rfl hg hd hlt fun tm => ?_
  --@ n 0
  refine W.seq (W.middleS mixed [(13, .cells [] 1 1 true (some 5))] [5, 6, 7, 8, 9, 10, 11, 12, 13, 14, 15, 16, 17, 18] [] [] [0, 1, 2, 3, 4, 5, 6, 7, 8, 9, 10, 11, 12, 13] 0 rfl rfl rfl rfl rfl rfl rfl rfl rfl rfl ?_)
  apply MidVS.step
  · rfl
  · intro mo more
    refine z_p ?_
    exact z_e
  apply MidVS.step
  · rfl
  · intro mo more
    refine sp (v_nilCheck rfl rfl (hobm mo)) rfl rfl rfl ?_
    exact z_e
  apply MidVS.step
  · rfl
  · intro mo more
    refine sp (v_fieldAddr rfl rfl (hobm mo) rfl rfl rfl rfl (by decide)) rfl rfl rfl ?_
    exact z_e
  apply MidVS.step
  · rfl
  · intro mo more
    refine sp (v_load rfl rfl (hobm mo) rfl rfl) rfl rfl rfl ?_
    exact z_e
  apply MidVS.step
  · rfl
  · intro mo more
    refine sp (v_cap_nils rfl rfl rfl rfl) rfl rfl rfl ?_
    exact z_e
  apply MidVS.step
  · rfl
  · intro mo more
    refine z_i ?_
    exact z_e
  apply MidVS.step
  · rfl
  · intro mo more
    refine z_p ?_
    exact z_e
  apply MidVS.step
  · rfl
  · intro mo more
    refine sq (v_i64 rfl rfl rfl rfl (by omega) (by omega)) (show _ = AV.int .i64 (n : Nat) from congrArg (AV.int .i64) h2) rfl rfl rfl ?_
    exact z_e
  refine MidVS.unset 0 objs.length hu hkn (h' := ?_)
  apply MidVS.step
  · rfl
  · intro mo more
    refine z_p ?_
    exact z_e
  apply MidVS.step
  · rfl
  · intro mo more
    refine sp (v_nilCheck rfl rfl (hobm mo)) rfl rfl rfl ?_
    exact z_e
  apply MidVS.step
  · rfl
  · intro mo more
    refine sp (v_fieldAddr rfl rfl (hobm mo) rfl rfl rfl rfl (by decide)) rfl rfl rfl ?_
    exact z_e
  apply MidVS.step
  · rfl
  · intro mo more
    refine sp (v_load rfl rfl (hobm mo) rfl rfl) rfl rfl rfl ?_
    exact z_e
  apply MidVS.step
  · rfl
  · intro mo more
    first | refine z_n ?_ | refine z_m ?_ | refine z_k ?_
    exact z_e
  refine MidVS.done ?_
  refine MidP.done ?_
  refine MidMP.done ?_
  refine MidFS.done ?_
  refine sq (v_slice_sl (m := 0) rfl rfl hnew rfl rfl rfl rfl ⟨_, _, rfl, by omega, rfl⟩ (fun _ h => by cases h) (fun h => by cases h) (by omega) (by omega)) (rfl : _ = AV.sl objs.length 1 0 0 true) rfl rfl rfl ?_
  refine z_p ?_
  refine WL.nil ?_
  refine W.seq (W.region ?_)
  refine z_p ?_
  refine z_p ?_
  refine sp (v_nilCheck rfl rfl (hobm _)) rfl rfl rfl ?_
  refine sp (v_fieldAddr rfl rfl (hobm _) rfl rfl rfl rfl (by decide)) rfl rfl rfl ?_
  refine sp (v_load rfl rfl (hobm _) rfl rfl) rfl rfl rfl ?_
  refine sp (v_copy_nils rfl rfl hnew rfl rfl rfl rfl) rfl rfl rfl ?_
  refine WL.nil ?_
  refine W.region ?_
  refine z_p ?_
  refine z_p ?_
  refine sp (v_nilCheck rfl rfl (hobm _)) rfl rfl rfl ?_
  refine sp (v_fieldAddr rfl rfl (hobm _) rfl rfl rfl rfl (by decide)) rfl rfl rfl ?_
  refine ss (a_store1 rfl rfl (hobm _) rfl ⟨_, _, _, _, hnew⟩ (fun h => by cases h) rfl rfl (Nat.le_of_ble_eq_true rfl)) (show _ = objs.set b (bldO (.ptr b 0 0) (.sl objs.length 1 0 0 true)) ++ [.cells [] 1 1 true (some 5)] from List.set_append_left _ _ hbl) rfl rfl ?_
  refine WL.nil ?_
  exact ⟨.inr rfl, [], rfl, h⟩

/-- room for what comes -/
theorem bg_fresh (n : Nat) (hkn : Nat.ble k objs.length = true) (h0 : 0 < n) (hn : n ≤ 140737488355328) (hop : o.op = .call { callee := .value x, args := xs, argTypes := ts }) (hx : ev ⟨env, objs⟩ x = some (.func (.func 44) [] [])) (hxs : evL ⟨env, objs⟩ xs.toList = some [.ptr b 0 0, .int .i64 n]) (hob : objs[b]? = some (bldO .nilp .nils))
    (hg : gd ops ⟨env, objs⟩ o = some true) (hd : o.dst = some d) (hlt : Nat.blt d nt = true) (h : WL ⟨Tryd.prog, tab, tab_ok, nt, w0, k, H0, ln, hk, hj, sv⟩ ops rest ⟨(d, .tup []) :: env, objs.set b (bldO (.ptr b 0 0) (.sl objs.length 1 0 0 true)) ++ [.cells [] 1 1 true (some 5)]⟩ Q) :
    WL ⟨Tryd.prog, tab, tab_ok, nt, w0, k, H0, ln, hk, hj, sv⟩ ops (o :: rest) ⟨env, objs⟩ Q := by
  have hbl : b < objs.length := (List.getElem?_eq_some_iff.1 hob).1
  have hob1 : (objs.set b (bldO (.ptr b 0 0) .nils))[b]? = some (bldO (.ptr b 0 0) .nils) := by simp [hbl]
  refine si Tryd.func44 rfl rfl rfl rfl hop hx hxs rfl rfl hg hd hlt fun tm => ?_
  refine W.seq (W.region ?_)
  refine z_p ?_
  refine bc_fresh rfl rfl rfl hob rfl rfl rfl ?_
  refine WL.nil ?_
  refine W.seq (W.seq (W.region ?_))
  refine z_p ?_
  refine z_F (show ¬ (n : Int) < 0 by omega) ?_
  refine WL.nil ?_
  refine W.cond_false rfl (W.skip ?_)
  refine W.seq (W.drawnR mixed [9, 10, 11, 12, 13, 14, 15, 16, 17, 18, 19, 20] (by kernel_rfl) ?_)
  apply DrawFrom.stepR
  · intro more
    refine z_p ?_
    exact z_e
  apply DrawFrom.stepR
  · intro more
    refine sp (v_nilCheck rfl rfl hob1) rfl rfl rfl ?_
    exact z_e
  apply DrawFrom.stepR
  · intro more
    refine sp (v_fieldAddr rfl rfl hob1 rfl rfl rfl rfl (by decide)) rfl rfl rfl ?_
    exact z_e
  apply DrawFrom.stepR
  · intro more
    refine sp (v_load rfl rfl hob1 rfl rfl) rfl rfl rfl ?_
    exact z_e
  apply DrawFrom.stepR
  · intro more
    refine sp (v_cap_nils rfl rfl rfl rfl) rfl rfl rfl ?_
    exact z_e
  apply DrawFrom.stepR
  · intro more
    refine z_p ?_
    exact z_e
  apply DrawFrom.stepR
  · intro more
    refine sp (v_nilCheck rfl rfl hob1) rfl rfl rfl ?_
    exact z_e
  apply DrawFrom.stepR
  · intro more
    refine sp (v_fieldAddr rfl rfl hob1 rfl rfl rfl rfl (by decide)) rfl rfl rfl ?_
    exact z_e
  apply DrawFrom.stepR
  · intro more
    refine sp (v_load rfl rfl hob1 rfl rfl) rfl rfl rfl ?_
    exact z_e
  apply DrawFrom.stepR
  · intro more
    first | refine z_n ?_ | refine z_m ?_ | refine z_k ?_
    exact z_e
  apply DrawFrom.stepR
  · intro more
    refine z_i ?_
    exact z_e
  apply DrawFrom.stepR
  · intro more
    refine z_p ?_
    exact z_e
  refine DrawFrom.doneR (rfl : _ = (_, _) :: (_, _) :: (_, _) :: (_, _) :: (_, _) :: (_, _) :: (_, _) :: (_, _) :: (_, _) :: (_, _) :: (_, _) :: (_, _) :: _) ?_
  refine z_T (show (0 : Int) - 0 < n by omega) ?_
  refine WL.nil ?_
  refine W.cond_true rfl ?_
  refine W.region ?_
  refine z_p ?_
  refine z_p ?_
  refine bgrow n (by simpa using hkn) hn rfl rfl rfl hob1 rfl rfl rfl ?_
  refine WL.nil ?_
  refine ⟨.inr rfl, [], rfl, ?_⟩
  rw [List.set_set, List.length_set]
  exact h

/-- how much there is -/
theorem bl_used (c ver m : Nat) {p : AV} {ds : List AV} (hop : o.op = .call { callee := .value x, args := xs, argTypes := ts }) (hx : ev ⟨env, objs⟩ x = some (.func (.func 46) [] [])) (hxs : evL ⟨env, objs⟩ xs.toList = some [.ptr b 0 0])
    (hob : objs[b]? = some (bldO p (.sl c ver 0 m true))) (hoc : objs[c]? = some (.cells ds ver 1 true (some 5)))
    (hg : gd ops ⟨env, objs⟩ o = some true) (hd : o.dst = some d) (hlt : Nat.blt d nt = true)
    (h : WL ⟨Tryd.prog, tab, tab_ok, nt, w0, k, H0, ln, hk, hj, sv⟩ ops rest ⟨(d, .int .i64 m) :: env, objs⟩ Q) :
    WL ⟨Tryd.prog, tab, tab_ok, nt, w0, k, H0, ln, hk, hj, sv⟩ ops (o :: rest) ⟨env, objs⟩ Q := by
  refine si Tryd.func46 rfl rfl rfl rfl hop hx hxs rfl rfl hg hd hlt fun tm => ?_
  refine W.seq (W.region ?_)
  refine z_p ?_
  refine WL.nil ?_
  refine W.seq (W.region ?_)
  refine z_p ?_
  refine sp (v_nilCheck rfl rfl hob) rfl rfl rfl ?_
  refine sp (v_fieldAddr rfl rfl hob rfl rfl rfl rfl (by decide)) rfl rfl rfl ?_
  refine sp (v_load rfl rfl hob rfl rfl) rfl rfl rfl ?_
  refine sp (v_len rfl rfl rfl rfl ⟨_, rfl⟩ ⟨_, _, _, _, hoc⟩) rfl rfl rfl ?_
  refine z_p ?_
  refine WL.nil ?_
  exact W.ret ⟨.inl rfl, _, rfl, h⟩
end
end Go.Proofs.YtfiohajalaejoaaDoor
