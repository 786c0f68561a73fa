/- Lens, part 16: what comes in, and what a law's row asks. -/
import Derived.Test.YtnlikbgcnofjiaaDoorLens15
import Derived.Carry
import Derived.WalkKit
import Derived.ProofKit
import Derived.ChangeOld
import Derived.ChangeArms
import Derived.OpenShut
import Derived.DataElems
import Derived.SizedLaws
set_option linter.unusedVariables false
set_option linter.unusedSimpArgs false
namespace Go.Lens
open Go Go.RowKit

mutual
/-- the data that came in, as abstract values -/
def avOf {H : Type} : DataW H → List AV
  | .lit (.int k n) => [.int k n]
  | .lit (.bool b) => [.bool b]
  | .lit (.string l) => [.str l]
  | .nil => [.nils]
  | .slice ds _ => [.row (avOfL ds) ds.length]
  | .agg ds => avOfL ds
  | _ => [.any]
def avOfL {H : Type} : List (DataW H) → List AV
  | [] => []
  | d :: ds => avOf d ++ avOfL ds
end

/-- what is left behind by a call to which nothing was handed to be written -/
theorem Left.below {w : World} {H : View} {w' : World} {H' : View} (h : Left w H [] w' H' []) : Below w.heap.size w w' :=
  ⟨h.os, h.tape, h.output, h.size, fun k hk => h.frame k hk (fun o ob ho => by simp at ho)⟩

/-- the view of a call's beginning: nothing is known, nothing may be written -/
def View.none : View := ⟨0, fun _ => 0, fun _ => 0, fun _ => 0, fun _ => 0, fun _ => False⟩
theorem Objs.none (w : World) : Objs w View.none [] := ⟨rfl, fun o ob h => by simp at h, fun o o' ob ob' h => by simp at h, fun b h => h.elim⟩

/-- a law that answers true leaves the world as it was -/
theorem Does.calls {P : Program} {f : FuncId} {args : List AV} {r : AV} (h : Does P f args r) {w : World} {vs : List Value} (hr : RelL w args View.none vs) :
    Calls P f vs.toArray w fun e w' => ∃ v H', e = .returned v ∧ RelV w' r H' v ∧ Below w.heap.size w w' := by
  refine (h.2 View.none w vs (Objs.none w) hr).mono fun e w' ⟨r', os, H', v, he, ⟨h1, h2⟩, h3, h4⟩ => ?_
  subst h1; subst h2
  exact ⟨v, H', he, h3, h4.below⟩

/-- the fields lie one behind the other, and fill the whole -/
def tiles (T : Tab) (size : Nat) : Nat → List (Nat × TypeId) → Bool
  | n, [] => n == size
  | n, (off, t) :: fs => off == n && (match T.at t with | some y => tiles T size (n + y.size) fs | none => false)
/-- a type of whole numbers, truth values, strings, and of structs, arrays and slices of such -/
def goodT (T : Tab) : Nat → TypeId → Bool
  | 0, _ => false
  | f + 1, t => match T.at t with
    | some y => (match y.k with
      | .int _ => y.size == 1
      | .bool => y.size == 1
      | .string => y.size == 1
      | .slice e => y.size == 1 && goodT T f e
      | .array n e => goodT T f e && (match T.at e with | some ye => y.size == n * ye.size | none => false)
      | .struct fs => tiles T y.size 0 fs && fs.all (fun q => goodT T f q.2)
      | _ => false)
    | none => false

theorem mapM_some {α β : Type} {f : α → Option β} : ∀ {l : List α} {r : List β}, l.mapM f = some r → l.length = r.length ∧ ∀ (j : Nat) (x : α), l[j]? = some x → ∃ y, r[j]? = some y ∧ f x = some y
  | [], r, h => by simp at h; subst h; exact ⟨rfl, fun j x h => by simp at h⟩
  | a :: l, r, h => by
    simp only [List.mapM_cons, Option.bind_eq_bind, Option.pure_def] at h
    obtain ⟨b, h1, h2⟩ := Option.bind_eq_some_iff.1 h
    obtain ⟨r', h3, h4⟩ := Option.bind_eq_some_iff.1 h2
    injection h4 with h4; subst h4
    obtain ⟨k1, k2⟩ := mapM_some h3
    refine ⟨by simp [k1], fun j x hj => ?_⟩
    cases j with
    | zero => simp at hj; subst hj; exact ⟨b, rfl, h1⟩
    | succ j => simpa using k2 j x (by simpa using hj)

theorem tabTy {P : Program} {T : Tab} (ok : TabOK P T) {t : TypeId} {y : Ty} (h : T.at t = some y) : ∃ d i, P.underlying t = some d ∧ P.info? t = some i ∧ y.k = kOf d ∧ y.size = i.size ∧ y.bytes = i.bytes ∧ y.zero = i.zero.map fun z => z.cells.toList := tyOf_spec (ok t y h)
theorem cellsOf_tab {P : Program} {T : Tab} (ok : TabOK P T) {t : TypeId} {y : Ty} (h : T.at t = some y) : P.cellsOf t = y.size := by
  obtain ⟨d, i, _, hi, _, hs, _⟩ := tabTy ok h
  simp [Program.cellsOf, hi, hs]

theorem avOfL_append {H : Type} : ∀ (a b : List (DataW H)), avOfL (a ++ b) = avOfL a ++ avOfL b
  | [], b => by simp [avOfL]
  | d :: a, b => by simp [avOfL, avOfL_append a b, List.append_assoc]

/-- cells that are read in pieces -/
theorem pieces_rel {H : Type} {w : World} : ∀ (xs : List (DataW H × List MemPlace)) (L : Nat → List Value), (∀ i x, xs[i]? = some x → RelL w (avOf x.1) View.none (L i)) →
    RelL w (avOfL (xs.map (·.1))) View.none ((List.range xs.length).flatMap L)
  | [], L, _ => by simp [avOfL, RelL]
  | x :: xs, L, h => by
    rw [List.length_cons, List.range_succ_eq_map]
    simp only [List.map_cons, avOfL, List.flatMap_cons, List.flatMap_map]
    exact (h 0 x rfl).append (pieces_rel xs (fun i => L (i + 1)) fun i y hy => h (i + 1) y (by simpa using hy))
theorem chunks {k : Nat} : ∀ (n : Nat) (cs : List Value), cs.length = n * k → (List.range n).flatMap (fun i => (cs.drop (i * k)).take k) = cs
  | 0, cs, h => by
    have : cs = [] := List.length_eq_zero_iff.1 (by simpa using h)
    subst this; rfl
  | n + 1, cs, h => by
    rw [List.range_succ_eq_map]
    simp only [List.flatMap_cons, List.flatMap_map, Nat.zero_mul, List.drop_zero]
    have e := chunks n (cs.drop k) (by rw [List.length_drop, h, Nat.succ_mul, Nat.add_sub_cancel])
    have e2 : (fun i => (cs.drop (Nat.succ i * k)).take k) = fun i => ((cs.drop k).drop (i * k)).take k := by
      funext i; rw [List.drop_drop, Nat.succ_mul, Nat.add_comm]
    rw [e2, e, List.take_append_drop]

/-- what a reading of an argument tells -/
theorem trod_rel {H : Type} {enc : TypeId × Value → H} {P : Program} {T : Tab} (ok : TabOK P T) {w : World} : ∀ (fuel g : Nat) (t : TypeId) (cs : List Value) (d : DataW H) (ps : List MemPlace),
    DataW.trod enc P w 0 (fun _ => true) true fuel t cs = some (d, ps) → goodT T g t = true → RelL w (avOf d) View.none cs ∧ cs.length = P.cellsOf t := by
  intro fuel
  induction fuel with
  | zero => intro g t cs d ps h; simp [DataW.trod] at h
  | succ fuel ih =>
    intro g t cs d ps h hg
    cases g with
    | zero => simp [goodT] at hg
    | succ g =>
      simp only [goodT] at hg
      cases hy : T.at t with
      | none => rw [hy] at hg; cases hg
      | some y =>
        rw [hy] at hg
        obtain ⟨dd, inf, hd, _, hk, _⟩ := tabTy ok hy
        have hcell := cellsOf_tab ok hy
        simp only [hk] at hg
        cases dd <;> simp only [kOf] at hg <;> try (cases hg; done)
        case int k =>
          have hsz : y.size = 1 := by simpa using hg
          rcases cs with _ | ⟨v, _ | ⟨v2, r⟩⟩
          · simp [DataW.trod, hd] at h
          · cases v <;> simp only [DataW.trod, hd] at h <;> try (simp at h; done)
            split at h
            · rename_i hq
              injection h with h; injection h with h1 h2
              subst h1
              obtain ⟨rfl, _⟩ := hq
              exact ⟨RelL_cons rfl RelL_nil, by rw [hcell, hsz]; rfl⟩
            · cases h
          · simp [DataW.trod, hd] at h
        case bool =>
          have hsz : y.size = 1 := by simpa using hg
          rcases cs with _ | ⟨v, _ | ⟨v2, r⟩⟩
          · simp [DataW.trod, hd] at h
          · cases v <;> simp only [DataW.trod, hd] at h <;> try (simp at h; done)
            injection h with h; injection h with h1 h2
            subst h1
            exact ⟨RelL_cons rfl RelL_nil, by rw [hcell, hsz]; rfl⟩
          · simp [DataW.trod, hd] at h
        case string =>
          have hsz : y.size = 1 := by simpa using hg
          rcases cs with _ | ⟨v, _ | ⟨v2, r⟩⟩
          · simp [DataW.trod, hd] at h
          · cases v <;> simp only [DataW.trod, hd] at h <;> try (simp at h; done)
            split at h
            · injection h with h; injection h with h1 h2
              subst h1
              exact ⟨RelL_cons rfl RelL_nil, by rw [hcell, hsz]; rfl⟩
            · cases h
          · simp [DataW.trod, hd] at h
        case slice e =>
          have hsz : y.size = 1 := by simp at hg; exact hg.1
          have hge : goodT T g e = true := by simp at hg; exact hg.2
          rcases DataW.trod_slice hd h with ⟨rfl, hx⟩ | ⟨a, len, cap, elems, rest, m, hm, rfl, hx, _, hl, _, hlen, hel, _, _⟩
          · injection hx with h1 h2
            subst h1
            exact ⟨RelL_cons rfl RelL_nil, by rw [hcell, hsz]; rfl⟩
          · injection hx with h1 h2
            subst h1
            obtain rfl : fuel = m := by omega
            refine ⟨RelL_cons ?_ RelL_nil, by rw [hcell, hsz]; rfl⟩
            have hp : ∀ i x, elems[i]? = some x → RelL w (avOf x.1) View.none ((w.cells? 0 (a.add (i * P.cellsOf e)) (P.cellsOf e)).getD []) := by
              intro i x hx
              have hi : i < len := by rw [← hlen]; exact (List.getElem?_eq_some_iff.1 hx).1
              have hh := hel i hi
              rw [hx] at hh
              obtain ⟨cs, h1, h2⟩ := Option.bind_eq_some_iff.1 hh
              rw [h1]
              exact (ih g e cs x.1 x.2 h2 hge).1
            have hr := pieces_rel elems _ hp
            refine ⟨some a, cap, _, by rw [List.length_map, hlen], by rw [List.length_map, hlen]; exact hl, hr, fun _ => ⟨a, rfl, ?_, id⟩⟩
            have hat : ∀ n, n ≤ elems.length → At w a ((List.range n).flatMap fun i => (w.cells? 0 (a.add (i * P.cellsOf e)) (P.cellsOf e)).getD []) ∧ ((List.range n).flatMap fun i => (w.cells? 0 (a.add (i * P.cellsOf e)) (P.cellsOf e)).getD []).length = n * P.cellsOf e := by
              intro n
              induction n with
              | zero => intro _; exact ⟨fun j u h => by simp at h, by simp⟩
              | succ n ihn =>
                intro hn
                obtain ⟨k1, k2⟩ := ihn (by omega)
                have hh := hel n (by omega)
                rw [List.getElem?_eq_getElem (by omega)] at hh
                obtain ⟨cs, h1, h2⟩ := Option.bind_eq_some_iff.1 hh
                obtain ⟨_, hcl, hcc⟩ := World.cells?_some h1
                rw [List.range_succ, List.flatMap_append]
                simp only [List.flatMap_cons, List.flatMap_nil, List.append_nil]
                rw [h1, Option.getD_some]
                refine ⟨fun j u hj => ?_, by rw [List.length_append, k2, hcl, Nat.succ_mul]⟩
                by_cases hjl : j < n * P.cellsOf e
                · rw [List.getElem?_append_left (by rw [k2]; exact hjl)] at hj
                  exact k1 j u hj
                · rw [List.getElem?_append_right (by rw [k2]; omega), k2] at hj
                  have hlt : j - n * P.cellsOf e < P.cellsOf e := by
                    have := (List.getElem?_eq_some_iff.1 hj).1; rw [hcl] at this; exact this
                  have := hcc _ hlt
                  rw [hj, Addr.add_add] at this
                  rw [← this]
                  congr 2; omega
            exact (hat elems.length (Nat.le_refl _)).1
        case array n e =>
          obtain ⟨xs, m, hm, hx, hl, hxl, hel⟩ := DataW.trod_array hd h
          injection hx with h1 h2
          subst h1
          obtain rfl : fuel = m := by omega
          refine ⟨?_, hl⟩
          cases he : T.at e with
          | none => rw [he] at hg; simp at hg
          | some ye =>
            rw [he] at hg
            simp only [Bool.and_eq_true, beq_iff_eq] at hg
            have hce := cellsOf_tab ok he
            have hr := pieces_rel xs (fun i => (cs.drop (i * P.cellsOf e)).take (P.cellsOf e)) fun i x hx => by
              have hi : i < n := by rw [← hxl]; exact (List.getElem?_eq_some_iff.1 hx).1
              exact (ih g e _ x.1 x.2 ((hel i hi).trans hx) hg.1).1
            rw [hxl, chunks n cs (by rw [hl, hcell, hce]; exact hg.2)] at hr
            exact hr
        case struct fs =>
          obtain ⟨xs, m, hm, hx, hl, hxl, hel⟩ := DataW.trod_struct hd h
          injection hx with h1 h2
          subst h1
          obtain rfl : fuel = m := by omega
          refine ⟨?_, hl⟩
          simp only [Bool.and_eq_true] at hg
          have hgo : ∀ (l : List Field) (n : Nat) (ys : List (DataW H × List MemPlace)), tiles T y.size n (l.map fun f => (f.offset, f.type)) = true → (∀ f, f ∈ l → goodT T g f.type = true) → ys.length = l.length →
              (∀ (i : Nat) (f : Field), l[i]? = some f → DataW.trod enc P w 0 (fun _ => true) true fuel f.type ((cs.drop f.offset).take (P.cellsOf f.type)) = ys[i]?) → RelL w (avOfL (ys.map (·.1))) View.none (cs.drop n) := by
            intro l
            induction l with
            | nil =>
              intro n ys ht _ hyl _
              have : ys = [] := List.length_eq_zero_iff.1 hyl
              subst this
              have hn : n = y.size := by simpa [tiles] using ht
              rw [List.drop_of_length_le (by rw [hl, hcell, hn]; exact Nat.le_refl _)]
              exact rfl
            | cons f l ihl =>
              intro n ys ht hgd hyl hel
              cases ys with
              | nil => simp at hyl
              | cons x ys =>
                simp only [List.map_cons, tiles, Bool.and_eq_true, beq_iff_eq] at ht
                obtain ⟨hoff, ht⟩ := ht
                cases hfy : T.at f.type with
                | none => rw [hfy] at ht; cases ht
                | some yf =>
                  rw [hfy] at ht
                  have h0 := hel 0 f rfl
                  rw [hoff] at h0
                  have hx0 := (ih g f.type _ x.1 x.2 (h0.trans rfl) (hgd f (List.mem_cons_self ..))).1
                  have hr := ihl (n + yf.size) ys ht (fun f' hf' => hgd f' (List.mem_cons_of_mem _ hf')) (by simpa using hyl) fun i f' hf' => by simpa using hel (i + 1) f' (by simpa using hf')
                  rw [List.map_cons, avOfL]
                  have e : cs.drop n = (cs.drop n).take (P.cellsOf f.type) ++ cs.drop (n + yf.size) := by
                    rw [cellsOf_tab ok hfy, ← List.drop_drop, List.take_append_drop]
                  rw [e]
                  exact hx0.append hr
          have := hgo fs.toList 0 xs hg.1 (fun f hf => by
            have := List.all_eq_true.1 hg.2 (f.offset, f.type) (List.mem_map.2 ⟨f, hf, rfl⟩)
            exact this) (by simpa using hxl) (fun i f hf => hel i f (by simpa using hf))
          rw [List.drop_zero] at this
          exact this

/-- an argument, as an abstract value -/
def avArg {H : Type} : DataW H → AV
  | .agg ds => .agg (avOfL ds)
  | d => (avOf d).headD .any

theorem arg_rel {H : Type} {enc : TypeId × Value → H} {P : Program} {T : Tab} (ok : TabOK P T) {w w' : World} {r : Reach} {base g : Nat} {t : TypeId} {v : Value} {d : DataW H} {ps : List MemPlace} (hok : Value.okWide P w' r base t v)
    (h : DataW.Trod enc P w 0 (fun _ => true) true t v d ps) (hg : goodT T g t = true) : RelV w (avArg d) View.none v := by
  obtain ⟨fuel, h⟩ := h
  obtain ⟨hr, _⟩ := trod_rel ok fuel g t _ d ps h hg
  cases g with
  | zero => simp [goodT] at hg
  | succ g =>
    simp only [goodT] at hg
    cases hy : T.at t with
    | none => rw [hy] at hg; cases hg
    | some y =>
      rw [hy] at hg
      obtain ⟨dd, inf, hd, _, hk, _⟩ := tabTy ok hy
      simp only [hk] at hg
      cases dd <;> simp only [kOf] at hg <;> try (cases hg; done)
      case int k =>
        obtain ⟨n, h1, h2, _⟩ := DataW.trod_int hd h
        injection h2 with h2 h3; subst h2
        obtain ⟨u, vs, e, hu, e2⟩ := hr
        simp only [RelV] at hu; subst hu
        cases v <;> simp_all [Value.cells, Value.okWide, Cell.okWide, Cell.ok, avArg, avOf, RelV]
      case bool =>
        obtain ⟨n, h1, h2⟩ := DataW.trod_bool hd h
        injection h2 with h2 h3; subst h2
        obtain ⟨u, vs, e, hu, e2⟩ := hr
        simp only [RelV] at hu; subst hu
        cases v <;> simp_all [Value.cells, Value.okWide, Cell.okWide, Cell.ok, avArg, avOf, RelV]
      case string =>
        obtain ⟨n, h1, h2, _⟩ := DataW.trod_string hd h
        injection h2 with h2 h3; subst h2
        obtain ⟨u, vs, e, hu, e2⟩ := hr
        simp only [RelV] at hu; subst hu
        cases v <;> simp_all [Value.cells, Value.okWide, Cell.okWide, Cell.ok, avArg, avOf, RelV]
      case slice e =>
        have hv : v.cells.toList = [v] := by
          simp only [Value.okWide, hd, Cell.okWide] at hok
          cases v <;> simp_all [Cell.ok, Value.cells]
        rw [hv] at hr
        rcases DataW.trod_slice hd h with ⟨_, hx⟩ | ⟨a, len, cap, elems, rest, m, _, _, hx, _⟩
        · injection hx with h1 h2
          subst h1
          obtain ⟨u, vs, e, hu, _⟩ := hr
          injection e with e _; subst e
          exact hu
        · injection hx with h1 h2
          subst h1
          obtain ⟨u, vs, e, hu, _⟩ := hr
          injection e with e _; subst e
          exact hu
      case array n e =>
        obtain ⟨xs, m, _, hx, _⟩ := DataW.trod_array hd h
        injection hx with h1 h2
        subst h1
        simp only [Value.okWide, hd] at hok
        obtain ⟨cs, rfl, _⟩ := hok
        exact ⟨cs.toList, rfl, hr⟩
      case struct fs =>
        obtain ⟨xs, m, _, hx, _⟩ := DataW.trod_struct hd h
        injection hx with h1 h2
        subst h1
        simp only [Value.okWide, hd] at hok
        obtain ⟨cs, rfl, _⟩ := hok
        exact ⟨cs.toList, rfl, hr⟩

theorem args_rel {H : Type} {enc : TypeId × Value → H} {P : Program} {T : Tab} (ok : TabOK P T) {w w' : World} {r : Reach} {base g : Nat} : ∀ {ts : List TypeId} {vs : List Value} {ds : List (DataW H)} {ps : List MemPlace},
    (∀ (j : Nat) t v, ts[j]? = some t → vs[j]? = some v → Value.okWide P w' r base t v) → DataW.TrodAll enc P w 0 (fun _ => true) true ts vs ds ps → ts.all (goodT T g) = true → RelL w (ds.map avArg) View.none vs
  | [], [], [], _, _, _, _ => rfl
  | t :: ts, v :: vs, d :: ds, _, hok, ⟨p, q, h1, h2, _⟩, hg => by
    simp only [List.all_cons, Bool.and_eq_true] at hg
    exact RelL_cons (arg_rel ok (hok 0 t v rfl rfl) h1 hg.1) (args_rel ok (fun j t v ht hv => hok (j + 1) t v (by simpa using ht) (by simpa using hv)) h2 hg.2)
  | [], [], _ :: _, _, _, h, _ => h.elim
  | [], _ :: _, _, _, _, h, _ => h.elim
  | _ :: _, [], _, _, _, h, _ => h.elim
  | _ :: _, _ :: _, [], _, _, h, _ => h.elim

/-- what a type says of data -/
def shapes {H : Type} (p : TypeId → DataW H → Prop) : List TypeId → List (DataW H) → Prop
  | [], ds => ds = []
  | t :: ts, ds => ∃ d r, ds = d :: r ∧ p t d ∧ shapes p ts r
def shapeT {H : Type} (T : Tab) : Nat → TypeId → DataW H → Prop
  | 0, _, _ => True
  | f + 1, t, d => match T.at t with
    | some y => (match y.k with
      | .int k => ∃ n, d = .lit (.int k n) ∧ (Lit.int k n).wf = true
      | .bool => ∃ b, d = .lit (.bool b)
      | .string => ∃ l, d = .lit (.string l) ∧ l.length ≤ maxLen
      | .slice e => d = .nil ∨ ∃ ds rest, d = .slice ds rest ∧ ds.length ≤ maxLen ∧ ∀ x ∈ ds, shapeT T f e x
      | .array n e => ∃ ds, d = .agg ds ∧ ds.length = n ∧ ∀ x ∈ ds, shapeT T f e x
      | .struct fs => ∃ ds, d = .agg ds ∧ shapes (shapeT T f) (fs.map (·.2)) ds
      | _ => True)
    | none => True

theorem shapes_of {H : Type} {p : TypeId → DataW H → Prop} : ∀ {ts : List TypeId} {ds : List (DataW H)}, ts.length = ds.length → (∀ (j : Nat) t d, ts[j]? = some t → ds[j]? = some d → p t d) → shapes p ts ds
  | [], [], _, _ => rfl
  | t :: ts, d :: ds, hl, h => ⟨d, ds, rfl, h 0 t d rfl rfl, shapes_of (by simpa using hl) fun j t d ht hd => h (j + 1) t d (by simpa using ht) (by simpa using hd)⟩
  | [], _ :: _, hl, _ => by simp at hl
  | _ :: _, [], hl, _ => by simp at hl

theorem trod_shape {H : Type} {enc : TypeId × Value → H} {P : Program} {T : Tab} (ok : TabOK P T) {w : World} : ∀ (fuel g : Nat) (t : TypeId) (cs : List Value) (x : DataW H × List MemPlace),
    DataW.trod enc P w 0 (fun _ => true) true fuel t cs = some x → shapeT T g t x.1 := by
  intro fuel
  induction fuel with
  | zero => intro g t cs x h; simp [DataW.trod] at h
  | succ fuel ih =>
    intro g t cs x h
    cases g with
    | zero => trivial
    | succ g =>
      simp only [shapeT]
      cases hy : T.at t with
      | none => trivial
      | some y =>
        obtain ⟨dd, inf, hd, _, hk, _⟩ := tabTy ok hy
        simp only [hk]
        cases dd <;> simp only [kOf]
        case int k => obtain ⟨n, _, rfl, hw⟩ := DataW.trod_int hd h; exact ⟨n, rfl, hw⟩
        case bool => obtain ⟨n, _, rfl⟩ := DataW.trod_bool hd h; exact ⟨n, rfl⟩
        case string => obtain ⟨s, _, rfl, hs⟩ := DataW.trod_string hd h; exact ⟨_, rfl, hs⟩
        case slice e =>
          rcases DataW.trod_slice hd h with ⟨_, rfl⟩ | ⟨a, len, cap, elems, rest, m, hm, _, rfl, _, hl, hc, hlen, hel, _, _⟩
          · exact .inl rfl
          · obtain rfl : fuel = m := by omega
            refine .inr ⟨_, _, rfl, by rw [List.length_map, hlen]; exact Nat.le_trans hl hc, fun d hd => ?_⟩
            obtain ⟨z, hz, rfl⟩ := List.mem_map.1 hd
            obtain ⟨i, hi⟩ := List.getElem?_of_mem hz
            have hh := hel i (by rw [← hlen]; exact (List.getElem?_eq_some_iff.1 hi).1)
            rw [hi] at hh
            obtain ⟨cs', _, h2⟩ := Option.bind_eq_some_iff.1 hh
            exact ih g e cs' z h2
        case array n e =>
          obtain ⟨xs, m, hm, rfl, _, hxl, hel⟩ := DataW.trod_array hd h
          obtain rfl : fuel = m := by omega
          refine ⟨_, rfl, by rw [List.length_map, hxl], fun d hd => ?_⟩
          obtain ⟨z, hz, rfl⟩ := List.mem_map.1 hd
          obtain ⟨i, hi⟩ := List.getElem?_of_mem hz
          have hh := hel i (by rw [← hxl]; exact (List.getElem?_eq_some_iff.1 hi).1)
          rw [hi] at hh
          exact ih g e _ z hh
        case struct fs =>
          obtain ⟨xs, m, hm, rfl, _, hxl, hel⟩ := DataW.trod_struct hd h
          obtain rfl : fuel = m := by omega
          refine ⟨_, rfl, shapes_of (by simp [hxl]) fun j t d ht hd => ?_⟩
          simp only [List.map_map, List.getElem?_map, Option.map_eq_some_iff, Array.getElem?_toList] at ht hd
          obtain ⟨f, hf, rfl⟩ := ht
          obtain ⟨z, hz, rfl⟩ := hd
          exact ih g _ _ z ((hel j f hf).trans hz)

theorem args_shape {H : Type} {enc : TypeId × Value → H} {P : Program} {T : Tab} (ok : TabOK P T) {w : World} {g : Nat} : ∀ {ts : List TypeId} {vs : List Value} {ds : List (DataW H)} {ps : List MemPlace},
    DataW.TrodAll enc P w 0 (fun _ => true) true ts vs ds ps → shapes (shapeT T g) ts ds
  | [], [], [], _, _ => rfl
  | t :: ts, v :: vs, d :: ds, _, ⟨p, q, ⟨fuel, h1⟩, h2, _⟩ => ⟨d, ds, rfl, trod_shape ok fuel g t _ (d, p) h1, args_shape ok h2⟩
  | [], [], _ :: _, _, h => h.elim
  | [], _ :: _, _, _, h => h.elim
  | _ :: _, [], _, _, h => h.elim
  | _ :: _, _ :: _, [], _, h => h.elim
theorem shapes.length {H : Type} {p : TypeId → DataW H → Prop} : ∀ {ts : List TypeId} {ds : List (DataW H)}, shapes p ts ds → ds.length = ts.length
  | [], _, h => by cases h; rfl
  | _ :: _, _, ⟨_, _, rfl, _, h⟩ => by simp [shapes.length h]

/-- the arguments read behind the call as they did ahead of it -/
theorem Below.trodAll {H : Type} {enc : TypeId × Value → H} {P : Program} (hl : laidOutB P = true) {W W' : World} (hb : Below W.heap.size W W') : ∀ {ts : List TypeId} {vs : List Value} {ds : List (DataW H)} {ps : List MemPlace},
    ts.all (fun t => P.readableRec t && decide (t < P.types.size)) = true → DataW.TrodAll enc P W 0 (fun _ => true) true ts vs ds ps → DataW.TrodAll enc P W' 0 (fun b => decide (b < W.heap.size)) true ts vs ds ps
  | [], [], [], _, _, h => h
  | t :: ts, v :: vs, d :: ds, _, hg, ⟨p, q, h1, h2, e⟩ => by
    simp only [List.all_cons, Bool.and_eq_true, decide_eq_true_eq] at hg
    refine ⟨p, q, Below.trod hl hg.1.1 hg.1.2 h1 hb ?_, Below.trodAll hl hb hg.2 h2, e⟩
    obtain ⟨m, hm⟩ := h1
    exact DataW.trod_lt m _ _ _ hm
  | [], [], _ :: _, _, _, h => h.elim
  | [], _ :: _, _, _, _, h => h.elim
  | _ :: _, [], _, _, _, h => h.elim
  | _ :: _, _ :: _, [], _, _, h => h.elim

end Go.Lens
