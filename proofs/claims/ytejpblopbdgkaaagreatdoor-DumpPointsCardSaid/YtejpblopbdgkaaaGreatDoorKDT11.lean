/- chattelref20: Post, Upto, Balance. chattelref20: Upto, Balance. chattelref20.Balance. Lens, part 36: bytes of a constant text: a row that the run-time has marked behind its last cell. date: number, Parse, put, Print; chattelref09.digits, Print, Parse. date.Print; chattelref09.digits, Print, Parse. chattelref21.Split, account; Cents and Point, both. dump.entry, chattelref21.one, dump.line. chattelref20.Make. law 20: BookSums. law 20: BookUpto. law 20: BookApart. -/
import Derived.Test.YtejpblopbdgkaaaGreatDoorKDT10
import Derived.Lib.FrozenHead

set_option linter.unusedVariables false
set_option linter.unusedSimpArgs false
namespace Go.Proofs.YtejpblopbdgkaaaGreatDoor
open Go Go.Lens
/-- the entries with one more, if it may be posted -/
def postL (l : List En) (x : En) : List En := if postE l x = 0 then l ++ [x] else l
theorem rPost_spec (l : List En) (x : En) (hl : l.length ≤ 1000000) (hs : x.am.length ≤ 1000000000) : Does Tryz.prog 54 [.row (ensAV l) l.length, x.av] (.tup [.row (ensAV (postL l x)) (postL l x).length, .int .i64 (postE l x)]) := by
 have hck := rCheck_spec x.y x.m x.d x.db x.cr x.am hs
 have hlen := ensAV_length l
 have fin2 : ∀ (q : List En) (e : Int), q = postL l x → e = postE l x → AV.tup [.row (ensAV q) q.length, .int .i64 e] = .tup [.row (ensAV (postL l x)) (postL l x).length, .int .i64 (postE l x)] := fun q e h1 h2 => by rw [h1, h2]
 refine does tab_ok Tryz.func54 rfl rfl rfl rfl rfl fun w0 H0 hk hj => ?_
 by_cases he : x.chart = 0
 ·have hck0 : Does Tryz.prog 93 [entryAV x.y x.m x.d x.db x.cr x.am] (.int .i64 0) := by
   have : chartF x.y x.m x.d x.db x.cr x.am = 0 := he
   rw [this] at hck; exact hck
  have tail : ∀ env1, EnvLe [(0, .row (ensAV l) l.length), (3, .ptr 0 0 0)] env1 → postE l x = 0 → True := fun _ _ _ => trivial
  refine W.seq (W.region ?_)
  first | refine z_B 0 [_] ?_ | refine sn (a_box rfl rfl (.inr ⟨trivial, rfl⟩)) (rfl : _ = AV.ptr 0 0 0) (rfl : _ = [_]) rfl rfl rfl ?_
  refine z_p ?_
  refine z_p ?_
  refine WL.nil ?_
  refine W.seq (W.region ?_)
  first | refine sq (v_load rfl rfl rfl rfl rfl) (rfl : _ = AV.agg [_, _, _, _, _, _]) rfl rfl rfl ?_ | refine sq (v_load_radr rfl rfl rfl rfl) (rfl : _ = AV.agg [_, _, _, _, _, _]) rfl rfl rfl ?_
  refine z_c (hck0) ?_
  refine z_p ?_
  refine WL.nil ?_
  refine W.seq (W.seq (W.region ?_))
  refine z_p ?_
  refine sq (v_pure rfl) (show _ = AV.bool false from rfl) rfl rfl rfl ?_
  refine WL.nil ?_
  refine W.cond_false rfl (W.skip ?_)
  refine W.seq (W.cutR (postE l x = 0) [(0, .row (ensAV l) l.length), (3, .ptr 0 0 0)] [.cells x.cells 0 1 false none] ?_ ?_)
  ·cases hle : l with
   | nil =>
    have hp : postE [] x = 0 := postE_nil he
    refine W.seq (W.region ?_)
    refine z_p ?_
    refine sq (v_len rfl rfl rfl rfl ⟨_, rfl⟩ trivial) (show _ = AV.int .i64 0 from rfl) rfl rfl rfl ?_
    refine sq (v_pure rfl) (show _ = AV.bool false from rfl) rfl rfl rfl ?_
    refine WL.nil ?_
    refine W.cond_false rfl (W.skip ?_)
    exact ⟨hp, (by refine ⟨?_, ?_, rfl, Nat.le_of_ble_eq_true rfl⟩ <;> repeat (first | exact trivial | exact rfl | refine ⟨rfl, ?_⟩ | refine ⟨.inr ⟨rfl, ?_⟩, ?_⟩ | refine ⟨.inl rfl, ?_⟩))⟩
   | cons e0 r0 =>
    have hpos : 0 < l.length := by rw [hle]; simp
    rw [← hle]
    obtain ⟨p, hp⟩ : ∃ p, l.getLast? = some p := ⟨l.getLast (by rw [hle]; simp), List.getLast?_eq_some_getLast (by rw [hle]; simp)⟩
    have hpe : l[l.length - 1]'(by omega) = p := by
     rw [List.getLast?_eq_getElem?, List.getElem?_eq_getElem (by omega)] at hp
     injection hp
    obtain ⟨r1, he1⟩ := ensAV_at (l := l) (i := l.length - 1) (by omega)
    rw [hpe] at he1
    have hne : ensAV l ≠ [] := fun e => by have := ensAV_length l; rw [e] at this; simp at this; omega
    have hpl := postE_last he hp
    refine W.seq (W.region ?_)
    refine z_p ?_
    refine sq (v_len rfl rfl rfl rfl ⟨_, rfl⟩ trivial) (show _ = AV.int .i64 (l.length : Nat) from rfl) rfl rfl rfl ?_
    refine z_T (show ((l.length : Nat) : Int) > 0 by omega) ?_
    refine WL.nil ?_
    refine W.cond_true rfl ?_
    refine W.seq (W.drawnR mixed [18, 19, 20, 21, 22, 23, 24, 25, 26] (by kernel_rfl) ?_)
    apply DrawFrom.stepR
    ·intro more
     first | refine z_f ?_ | refine z_g ?_
     exact z_e
    apply DrawFrom.stepR
    ·intro more
     refine sq (v_load rfl rfl rfl rfl rfl) (show _ = dateAV x.y x.m x.d from rfl) rfl rfl rfl ?_
     exact z_e
    apply DrawFrom.stepR
    ·intro more
     refine z_p ?_
     exact z_e
    apply DrawFrom.stepR
    ·intro more
     refine z_p ?_
     exact z_e
    apply DrawFrom.stepR
    ·intro more
     refine sq (v_len rfl rfl rfl rfl ⟨_, rfl⟩ trivial) (show _ = AV.int .i64 (l.length : Nat) from rfl) rfl rfl rfl ?_
     exact z_e
    apply DrawFrom.stepR
    ·intro more
     refine z_i ?_
     exact z_e
    apply DrawFrom.stepR
    ·intro more
     refine sq (v_indexAddr_row rfl rfl rfl rfl rfl rfl (by omega) (by omega) hne) (show _ = AV.radr (p.cells ++ r1) from congrArg AV.radr (by rw [show ((((l.length : Nat) : Int) - 1).toNat * 6) = (l.length - 1) * 6 by omega]; exact he1)) rfl rfl rfl ?_
     exact z_e
    apply DrawFrom.stepR
    ·intro more
     first | refine z_f ?_ | refine z_g ?_
     exact z_e
    apply DrawFrom.stepR
    ·intro more
     refine sq (v_load_radr rfl rfl rfl rfl) (show _ = dateAV p.y p.m p.d from rfl) rfl rfl rfl ?_
     exact z_e
    refine DrawFrom.doneR (rfl : _ = (_, _) :: (_, _) :: (_, _) :: (_, _) :: (_, _) :: (_, _) :: (_, _) :: (_, _) :: (_, _) :: _) ?_
    refine z_c (rDateCmp_spec x.y x.m x.d p.y p.m p.d) ?_
    refine z_p ?_
    refine WL.nil ?_
    refine W.seq (W.region ?_)
    refine z_p ?_
    refine z_p ?_
    refine WL.nil ?_
    refine W.cond rfl (fun hc => ?_) (fun hc => ?_)
    ·have hc0 : cmpD x.y x.m x.d p.y p.m p.d < 0 := by simpa using hc
     rw [if_pos hc0] at hpl
     refine W.seq (W.region ?_)
     refine z_p ?_
     refine z_p ?_
     refine z_p ?_
     refine WL.nil ?_
     exact W.ret (fin rfl (.shut (.plain (by rfl)) (.shut (.plain rfl) .nil)) (fin2 l 12 (by rw [postL, if_neg (by rw [hpl]; decide)]) hpl.symm))
    ·have hc0 : ¬ cmpD x.y x.m x.d p.y p.m p.d < 0 := by simpa using hc
     rw [if_neg hc0] at hpl
     refine W.skip ?_
     exact ⟨hpl, (by refine ⟨?_, ?_, rfl, Nat.le_of_ble_eq_true rfl⟩ <;> repeat (first | exact trivial | exact rfl | refine ⟨rfl, ?_⟩ | refine ⟨.inr ⟨rfl, ?_⟩, ?_⟩ | refine ⟨.inl rfl, ?_⟩))⟩
  intro hp
  have hsnoc := ensAV_snoc l x
  refine W.seq (W.region ?_)
  refine sn (v_buildSlice rfl rfl rfl rfl rfl rfl rfl (Nat.le_of_ble_eq_true rfl) (Nat.le_of_ble_eq_true rfl) rfl rfl rfl rfl) (rfl : _ = AV.sl 1 0 0 0 true) (rfl : _ = [_, _]) rfl rfl rfl ?_
  refine z_p ?_
  refine sn (v_append_own (n := 0) (m := l.length) (ds := ensAV l) rfl rfl rfl rfl rfl rfl rfl rfl rfl rfl (by decide) (.inr (.inl ⟨rfl, hlen⟩)) (ensAV_one l) (by omega) (show (0 + l.length) * 56 ≤ 140737488355328 by omega)) (show AV.sl 1 1 0 (0 + l.length) true = AV.sl 1 1 0 l.length true by rw [Nat.zero_add]) (rfl : _ = [_, AObj.cells (ensAV l) 1 6 true (some 54)]) rfl rfl rfl ?_
  refine z_p ?_
  refine WL.nil ?_
  refine W.seq (W.region ?_)
  refine z_p ?_
  refine sq (v_load rfl rfl rfl rfl rfl) (show _ = x.av from rfl) rfl rfl rfl ?_
  refine sq (v_buildRow rfl rfl rfl rfl rfl rfl rfl (Nat.le_of_ble_eq_true rfl) (Nat.le_of_ble_eq_true rfl) rfl rfl rfl rfl) (rfl : _ = AV.row [_, _, _, _, _, _] 1) rfl rfl rfl ?_
  refine sn (v_append_own (m := 1) (ds := x.cells) rfl rfl rfl hlen rfl rfl rfl rfl rfl rfl (by decide) (.inr (.inl ⟨rfl, rfl⟩)) (by simp [AV.oneB, En.cells]) (by omega) (show (l.length + 1) * 56 ≤ 140737488355328 by omega)) (rfl : _ = AV.sl 1 2 0 (l.length + 1) true) (show _ = [_, AObj.cells (ensAV (l ++ [x])) 2 6 true (some 54)] by rw [hsnoc]; rfl) rfl rfl rfl ?_
  refine z_p ?_
  refine z_p ?_
  refine WL.nil ?_
  have hlen2 := ensAV_length (l ++ [x])
  refine W.ret (fin rfl (.shut (.sl rfl (by rw [hlen2, List.length_append]; simp) (by simp)) (.shut (.plain rfl) .nil)) ?_)
  rw [← fin2 (l ++ [x]) 0 (by rw [postL, if_pos hp]) hp.symm]
  show AV.tup [AV.row (((ensAV (l ++ [x])).drop 0).take ((l.length + 1) * 6)) (l.length + 1), _] = _
  rw [List.drop_zero, List.take_of_length_le (by rw [hlen2, List.length_append]; exact Nat.le_refl _), List.length_append]
  rfl
 ·skip
  refine W.seq (W.region ?_)
  first | refine z_B 0 [_] ?_ | refine sn (a_box rfl rfl (.inr ⟨trivial, rfl⟩)) (rfl : _ = AV.ptr 0 0 0) (rfl : _ = [_]) rfl rfl rfl ?_
  refine z_p ?_
  refine z_p ?_
  refine WL.nil ?_
  refine W.seq (W.region ?_)
  first | refine sq (v_load rfl rfl rfl rfl rfl) (rfl : _ = AV.agg [_, _, _, _, _, _]) rfl rfl rfl ?_ | refine sq (v_load_radr rfl rfl rfl rfl) (rfl : _ = AV.agg [_, _, _, _, _, _]) rfl rfl rfl ?_
  refine z_c (hck) ?_
  refine z_p ?_
  refine WL.nil ?_
  refine W.seq (W.seq (W.region ?_))
  refine z_p ?_
  refine sp (v_is true rfl rfl rfl rfl (show (chartF x.y x.m x.d x.db x.cr x.am != 0) = true by simpa [En.chart] using he)) rfl rfl rfl ?_
  refine WL.nil ?_
  refine W.cond_true rfl ?_
  refine W.seq (W.region ?_)
  refine z_p ?_
  refine z_p ?_
  refine z_p ?_
  refine z_p ?_
  refine WL.nil ?_
  have hpb := postE_bad (l := l) he
  exact W.ret (fin rfl (.shut (.plain rfl) (.shut (.plain rfl) .nil)) (fin2 l _ (by rw [postL, if_neg (by rw [hpb]; exact he)]) hpb.symm))
end Go.Proofs.YtejpblopbdgkaaaGreatDoor

set_option linter.unusedVariables false
set_option linter.unusedSimpArgs false
namespace Go.Proofs.YtejpblopbdgkaaaGreatDoor
open Go Go.Lens
end Go.Proofs.YtejpblopbdgkaaaGreatDoor

set_option linter.unusedVariables false
set_option linter.unusedSimpArgs false
namespace Go.Proofs.YtejpblopbdgkaaaGreatDoor
open Go Go.Lens
theorem RLim.small {x N : Nat} (hx : x ≤ N * bigA) (hN : N ≤ 4194304) : RLim x := by
 refine RLim.of_lt (k := bigE + 7) ?_ (by decide)
 have h0 : 10 ≤ DB := by decide
 have h1 : bigA ≤ DB ^ bigE := Nat.pow_le_pow_left h0 _
 have h2 : 4194304 < DB ^ 7 := Nat.lt_of_lt_of_le (show 4194304 < 10 ^ 7 by decide) (Nat.pow_le_pow_left h0 _)
 have h3 : N * bigA ≤ 4194304 * DB ^ bigE := Nat.mul_le_mul hN h1
 have h4 : 4194304 * DB ^ bigE < DB ^ 7 * DB ^ bigE := Nat.mul_lt_mul_of_pos_right h2 (Nat.pow_pos (by decide))
 rw [Nat.pow_add, Nat.mul_comm]
 omega
end Go.Proofs.YtejpblopbdgkaaaGreatDoor

set_option linter.unusedVariables false
set_option linter.unusedSimpArgs false
namespace Go.Lens
open Go Go.RowKit
/-- []byte of a constant text: the row is marked -/
theorem v_mark {C : Ctx} {o : Oper} {env : List (Nat × AV)} {objs : List AObj} {x : Operand} {t e : TypeId} {y ye : Ty} {j n esz : Nat} {cs : List AV} {e' : TypeId} (s : List UInt8) (hop : o.op = .convert t t x) (hx : ev ⟨env, objs⟩ x = some (.sl j 0 0 n true)) (hob : objs[j]? = some (.cells cs 0 esz true (some e')))
  (hs : cs = bytesAV s) (hn : 0 < n) (hl : s.length = n) (hy : C.T.at t = some y) (hk : y.k = .slice e) (hye : C.T.at e = some ye) (hke : ye.k = .int .u8) : VStep C o ⟨env, objs⟩ (.sl j 0 0 n true) (objs.set j (.bytes s)) := by
 subst hs
 intro H a w hi
 obtain ⟨d, inf, hd, _, hkd, _⟩ := C.ty hy
 rw [hk] at hkd
 obtain rfl := kOf_slice hkd
 obtain ⟨d2, inf2, hd2, _, hkd2, _⟩ := C.ty hye
 rw [hke] at hkd2
 obtain rfl := kOf_int hkd2
 obtain ⟨h1, h2, vs, c, e2, h3, h4, h5, h6⟩ := hi.objs.rel j _ hob
 obtain ⟨q1, q2, q3, q4, N, q5, q6⟩ := h6 e' rfl
 obtain ⟨o1, o2, o3⟩ := ev_rel hi hx
 obtain ⟨ad, cc, hp, hnc, hp1, _⟩ := o3 h1
 have hbv : vs = byteVals s := bytes_rel.1 h4
 have had := hp1 hn
 subst had
 have hcs : n ≤ c.size := by
  have hvl : vs.length = n := by rw [hbv]; simp [byteVals, hl]
  have h7 := h5 (n - 1) _ (List.getElem?_eq_getElem (by omega))
  have := (Array.getElem?_eq_some_iff.1 h7).1
  omega
 have hsh : w.shape? (H.blk j) = some (e2, c.size) := by unfold World.shape?; rw [h3]
 have hblt := hi.objs.lt _ h2
 have hfz : ∀ b, (w.freeze ⟨H.blk j, c.size, none⟩ 1).heap[b]? = if b = H.blk j then some (.cells c e2 (c.size, c.size + 1)) else w.heap[b]? := by
  intro b
  unfold World.freeze
  rw [if_neg (by decide)]
  simp only [Array.getElem?_modify]
  by_cases e : H.blk j = b
  ·subst e
   rw [if_pos rfl, if_pos rfl, h3]
   rfl
  ·rw [if_neg e, if_neg (fun h => e h.symm)]
 have hown : ¬ j < C.k := by
  intro hjk
  rcases hi.own j _ hob rfl with ⟨_, hm⟩ | hb
  ·cases hm
  ·have := (hi.byref j hjk).1
   have := C.hk j hjk
   omega
 refine ⟨.slice (some ⟨H.blk j, H.off j + 0, none⟩) n cc, w.freeze ⟨H.blk j, c.size, none⟩ 1, H, ?_, ?_, ?_⟩
 ·simp only [execOp, hop, hp, convert, run_underlying hd, run_underlying hd2, Sem.run_bind, Result.andThen_ok, beq_self_eq_true]
  simp [markStringish, hsh]
 ·refine hi.write (ob := .cells (bytesAV s) 0 esz true (some e')) hob rfl (fun h => by cases h) ⟨rfl, fun x _ => ⟨rfl, rfl, rfl, rfl⟩⟩ (.inl ⟨rfl, rfl, rfl, rfl⟩) (.inl rfl) (fun hok => absurd hok hown) (fun b => ⟨.inl, fun hb => hb.elim id fun hb => ?_⟩) (fun b _ hne => by rw [hfz, if_neg hne]) ?_ ?_ ?_ ?_ ?_
  ·omega
  ·unfold World.freeze; rw [if_neg (by decide)]; simp
  ·unfold World.freeze; rw [if_neg (by decide)]
  ·unfold World.freeze; rw [if_neg (by decide)]
  ·unfold World.freeze; rw [if_neg (by decide)]
  ·refine ⟨h1, h2, q2, c, e2, (c.size, c.size + 1), by rw [hfz, if_pos rfl], Nat.le_refl _, by show 0 < c.size; omega, fun i u hu => ?_⟩
   have := h5 i u (by rw [hbv]; exact hu)
   rwa [q2, Nat.zero_add] at this
 ·exact ⟨o1, o2, fun _ => ⟨_, cc, rfl, hnc, fun _ => rfl, fun hf => by
   obtain ⟨_, _, h8⟩ := ev_rel hi hx
   obtain ⟨ad', c', hp', _, hp1', hp2'⟩ := h8 h1
   rw [hp] at hp'
   injection hp' with e1 _ e3
   injection e1 with e1
   subst e1; subst e3
   exact hp2' rfl⟩⟩
section
variable {C : Ctx} {o : Oper} {env : List (Nat × AV)} {objs : List AObj}
theorem v_len_b {x : Operand} {t e : TypeId} {y : Ty} {j off n : Nat} {full : Bool} {s : List UInt8} (hop : o.op = .call { callee := .builtin .len, args := #[x], argTypes := #[t] })
  (hx : ev ⟨env, objs⟩ x = some (.sl j 0 off n full)) (hob : objs[j]? = some (.bytes s)) (hy : C.T.at t = some y) (hk : y.k = .slice e) : VStep C o ⟨env, objs⟩ (.int .i64 n) objs := by
 refine VStep.of_pure (st := ⟨env, objs⟩) fun H a w hi => ?_
 obtain ⟨d, inf, hd, _, hkd, _⟩ := C.ty hy
 rw [hk] at hkd
 obtain rfl := kOf_slice hkd
 obtain ⟨_, _, hp⟩ := ev_rel hi hx
 obtain ⟨ad, c, hp, _⟩ := hp (hi.objs.rel j _ hob).1
 exact ⟨.int .i64 n, by simp [execOp, hop, resolve, invoke, builtin, Builtin.len_, run_underlying hd, hp, goInt], rfl⟩
theorem v_indexAddr_b {t e : TypeId} {x ix : Operand} {j off n : Nat} {full : Bool} {s : List UInt8} {y ye : Ty} {k : IntKind} {i : Int} (hop : o.op = .indexAddr t x ix)
  (hx : ev ⟨env, objs⟩ x = some (.sl j 0 off n full)) (hob : objs[j]? = some (.bytes s)) (hix : ev ⟨env, objs⟩ ix = some (.int k i)) (hy : C.T.at t = some y) (hk : y.k = .slice e) (hye : C.T.at e = some ye) (h0 : 0 ≤ i) (h1 : i < n) :
  VStep C o ⟨env, objs⟩ (.ptr j 0 (off + i.toNat * ye.size)) objs := by
 refine VStep.of_pure (st := ⟨env, objs⟩) fun H a w hi => ?_
 obtain ⟨hv, _⟩ := hi.objs.rel j _ hob
 obtain ⟨g1, g2, hp⟩ := ev_rel hi hx
 obtain ⟨ad, c, hp, hnc, hp1, _⟩ := hp hv
 have hri := ev_rel hi hix
 simp only [RelV] at hri
 have := hp1 (by omega)
 subst this
 refine ⟨.pointer (some ⟨H.blk j, H.off j + (off + i.toNat * ye.size), none⟩), ?_, g1, g2, fun _ => rfl⟩
 simp only [execOp, hop, hp, hri, Sem.run_bind, run_index_addr hy hk hye _ n c k i h0 h1, Result.andThen_ok, Sem.run_pure, add_mk, Nat.add_assoc]
theorem v_slice_b {t e : TypeId} {x : Operand} {lo hi' : Option Operand} {j off n : Nat} {full : Bool} {s : List UInt8} {y ye : Ty} {l h : Nat} (hop : o.op = .slice t x lo hi' none)
  (hx : ev ⟨env, objs⟩ x = some (.sl j 0 off n full)) (hob : objs[j]? = some (.bytes s)) (hy : C.T.at t = some y) (hk : y.k = .slice e) (hye : C.T.at e = some ye)
  (hl : Bd ⟨env, objs⟩ 0 lo l) (hh : Bd ⟨env, objs⟩ n hi' h) (h1 : l ≤ h) (h2 : h ≤ n) :
  VStep C o ⟨env, objs⟩ (.sl j 0 (off + l * ye.size) (h - l) false) objs := by
 refine VStep.of_pure (st := ⟨env, objs⟩) fun H a w hi => ?_
 obtain ⟨hv, _⟩ := hi.objs.rel j _ hob
 obtain ⟨g1, g2, hp⟩ := ev_rel hi hx
 obtain ⟨ad, c, hp, hnc, hp1, hp2⟩ := hp hv
 obtain ⟨d, inf, hd, _, hkd, _⟩ := C.ty hy
 rw [hk] at hkd
 obtain rfl := kOf_slice hkd
 have hb := run_bounds hi (mx := none) (cap := c) (m := c) true hl hh rfl (fun h => by cases h) h1 (by omega) (Nat.le_refl _) w
 refine ⟨.slice (if c = l then some ad else some (ad.add (l * ye.size))) (h - l) (c - l), ?_, g1, g2, fun _ => ?_⟩
 ·simp only [Option.map_none] at hb
  simp only [execOp, hop, hp, Instr.sliceAt, run_underlying hd, Instr.slice, Sem.run_bind, Result.andThen_ok, Option.map_none, Option.map_some, hb, run_sizeOf hye, Sem.run_pure]
 ·refine ⟨if c = l then ad else ad.add (l * ye.size), c - l, by split <;> rfl, by omega, fun hpos => ?_, fun hf => by cases hf⟩
  rw [if_neg (by omega), hp1 (by omega), add_mk, Nat.add_assoc]
theorem s_store_b {t : TypeId} {x v : Operand} {j i : Nat} {s : List UInt8} {y : Ty} (c : UInt8) (hop : o.op = .store t x v) (hx : ev ⟨env, objs⟩ x = some (.ptr j 0 i)) (hob : objs[j]? = some (.bytes s)) (hjk : C.k ≤ j)
  (hv : ev ⟨env, objs⟩ v = some (.int .u8 c.toNat)) (hy : C.T.at t = some y) (hsz : y.size = 1) (hle : i < s.length) : SStep C o ⟨env, objs⟩ (objs.set j (.bytes (s.set i c))) := by
 intro H a w hi
 obtain ⟨h1, h2, h3, ca, e, fr, h4, h5, h6, h7⟩ := hi.objs.rel j _ hob
 obtain ⟨_, _, hpt⟩ := ev_rel hi hx
 have hpt := hpt h1
 have hr := ev_rel hi hv
 simp only [RelV] at hr
 have hic : i < ca.size := by
  have h8 := h7 i (Value.int .u8 (s[i]).toNat) (by simp [hle])
  exact (Array.getElem?_eq_some_iff.1 h8).1
 have hcell : w.cell? ⟨H.blk j, i, none⟩ = some ca[i] := by simp [World.cell?, h4, hic]
 have hfro : w.frozen? ⟨H.blk j, i, none⟩ = false := by
  obtain ⟨lo, hi'⟩ := fr
  simp only [World.frozen?, h4, Bool.and_eq_false_iff, decide_eq_false_iff_not]
  left
  simp only at h5; omega
 have hst : (store ⟨H.blk j, i, none⟩ (.int .u8 (c.toNat : Int))).run C.P w = .ok () (w.setRow (H.blk j) (ca.setIfInBounds i (.int .u8 (c.toNat : Int)))) := by
  rw [run_store C.P w _ _ _ rfl, hcell]
  simp [hfro, setCell_eq_setRow w (H.blk j) i ca e fr _ h4]
 have hblt := hi.objs.lt _ h2
 refine ⟨w.setRow (H.blk j) (ca.setIfInBounds i (.int .u8 (c.toNat : Int))), H, ?_, ?_⟩
 ·rw [h3, Nat.zero_add] at hpt
  have hadd : (⟨H.blk j, i, none⟩ : Addr).add 0 = ⟨H.blk j, i, none⟩ := by simp [Addr.add]
  simp [execOp, hop, hpt, hr, Instr.storeAt, Instr.sureAddr, storeVar, Value.cells, run_sizeOf hy, hsz, storeCells, hadd, hst]
 ·refine hi.write (ob := .bytes s) hob rfl (fun h => h) ⟨rfl, fun x _ => ⟨rfl, rfl, rfl, rfl⟩⟩ (.inl ⟨rfl, rfl, rfl, rfl⟩) (.inl rfl) (fun hok => absurd hok (by omega)) (fun b => ⟨.inl, fun hb => hb.elim id fun hb => ?_⟩) (fun b _ hne => setRow_other w _ _ _ hne) (by simp) rfl rfl rfl ?_
  ·omega
  ·refine ⟨h1, h2, h3, _, e, fr, setRow_heap w _ _ _ _ _ h4, by simpa using h5, h6, fun q u hq => ?_⟩
   rw [List.map_set] at hq
   rw [List.getElem?_set] at hq
   rw [Array.getElem?_setIfInBounds]
   by_cases e1 : i = q
   ·subst e1
    rw [if_pos rfl, if_pos (by simpa using hle)] at hq
    rw [if_pos rfl, if_pos hic]; exact hq
   ·rw [if_neg e1] at hq
    rw [if_neg e1]
    exact h7 q u hq
theorem v_bytes_str_b {s' d e : TypeId} {x : Operand} {ys yd ye : Ty} {j n : Nat} {full : Bool} {s : List UInt8} (hop : o.op = .convert s' d x)
  (hx : ev ⟨env, objs⟩ x = some (.sl j 0 0 n full)) (hob : objs[j]? = some (.bytes s)) (hn : s.length = n) (hys : C.T.at s' = some ys) (hk : ys.k = .slice e) (hyd : C.T.at d = some yd) (hkd : yd.k = .string) (hye : C.T.at e = some ye) (hke : ye.k = .int .u8) :
  VStep C o ⟨env, objs⟩ (.str s) objs := by
 refine VStep.of_pure (st := ⟨env, objs⟩) fun H a w hi => ?_
 obtain ⟨d1, i1, hd1, _, hk1, _⟩ := C.ty hys
 rw [hk] at hk1
 obtain rfl := kOf_slice hk1
 obtain ⟨d2, i2, hd2, _, hk2, _⟩ := C.ty hyd
 rw [hkd] at hk2
 obtain rfl := kOf_string hk2
 obtain ⟨d3, i3, hd3, _, hk3, _⟩ := C.ty hye
 rw [hke] at hk3
 obtain rfl := kOf_int hk3
 obtain ⟨g1, g2, g3, ca, e', fr, g4, g5, g6, g7⟩ := hi.objs.rel j _ hob
 obtain ⟨o1, o2, o3⟩ := ev_rel hi hx
 obtain ⟨ad, c, f1, f2, f3, f4⟩ := o3 g1
 have hload : (loadCells ad n).run C.P w = .ok ((s.map fun c => ((c.toNat : Nat) : Int)).map (Value.int .u8)).toArray w := by
  have h := run_loadCells_list (P := C.P) w ad (byteVals s) (fun i v hj => by
   have hn0 : 0 < n := by
    have := (List.getElem?_eq_some_iff.1 hj).1
    simp [byteVals] at this; omega
   rw [f3 hn0, add_mk]
   have := g7 _ _ hj
   simp only [World.cell?, g4, Option.isSome_none, Bool.false_eq_true, if_false]
   rw [g3]; simpa using this)
  have e1 : (byteVals s).length = n := by simp [byteVals, hn]
  rw [e1] at h
  rw [h]
  simp [byteVals, Function.comp_def]
 refine ⟨.string ⟨s.toArray⟩, ?_, rfl⟩
 have hrun := run_bytesToString (P := C.P) w ad n c _ hload
 rw [push_bytes] at hrun
 simp only [execOp, hop, f1, convert, Sem.run_bind, run_underlying hd1, run_underlying hd2, run_underlying hd3, Result.andThen_ok, hrun, Sem.run_pure]
 simp
end
end Go.Lens

set_option linter.unusedVariables false
set_option linter.unusedSimpArgs false
namespace Go.Proofs.YtejpblopbdgkaaaGreatDoor
open Go Go.Lens
def numV (s : List UInt8) : Nat := if s.all isDig = true then decF s else 0
theorem take_next {s : List UInt8} {i : Nat} {c : UInt8} (hc : s[i]? = some c) : s.take (i + 1) = s.take i ++ [c] := by
 obtain ⟨h1, h2⟩ := List.getElem?_eq_some_iff.1 hc
 rw [List.take_succ_eq_append_getElem h1, h2]
theorem all_false {s : List UInt8} {i : Nat} {c : UInt8} (hc : s[i]? = some c) (hd : isDig c = false) : s.all isDig = false := by
 rw [List.all_eq_false]
 exact ⟨c, List.mem_of_getElem? hc, by simp [hd]⟩
theorem number_spec (s : List UInt8) (hs : s.length ≤ 10) : Does Tryz.prog 136 [.str s] (.tup [.int .i64 (numV s : Nat), .bool (s.all isDig)]) := by
 refine does tab_ok Tryz.func136 rfl rfl rfl rfl rfl fun w0 H0 hk hj => ?_
 refine W.seq (W.region ?_)
 refine z_p ?_
 refine z_p ?_
 refine WL.nil ?_
 refine W.seq (W.region ?_)
 refine z_p ?_
 refine WL.nil ?_
 refine W.seq (W.seq (W.region ?_))
 refine z_p ?_
 refine sp (v_len rfl rfl rfl rfl rfl trivial) rfl rfl rfl ?_
 refine z_p ?_
 refine WL.nil ?_
 refine W.block ?_
 refine W.while (fun m st => ∃ i, i ≤ s.length ∧ m = s.length - i ∧ (s.take i).all isDig = true ∧ st = ⟨[(0, .str s), (4, .int .i64 (decF (s.take i) : Nat)), (7, .int .i64 (s.length : Nat)), (8, .int .i64 (i : Nat))], []⟩) s.length
  ⟨0, Nat.zero_le _, rfl, by simp, rfl⟩ (by refine ⟨?_, ?_, rfl, Nat.le_of_ble_eq_true rfl⟩ <;> repeat (first | exact trivial | exact rfl | refine ⟨rfl, ?_⟩ | refine ⟨.inr ⟨rfl, ?_⟩, ?_⟩ | refine ⟨.inl rfl, ?_⟩)) ?_
 rintro _ _ ⟨i, hi, rfl, ha, rfl⟩
 have hb : decF (s.take i) < 10000000000 := Nat.lt_of_lt_of_le (decF_lt (List.all_eq_true.1 ha)) (Nat.le_trans (Nat.pow_le_pow_right (by decide) (show (s.take i).length ≤ 10 by rw [List.length_take]; omega)) (by decide))
 by_cases hil : i < s.length
 ·obtain ⟨c, hc⟩ : ∃ c, s[i]? = some c := ⟨s[i], by simp [hil]⟩
  have hcs : s[((i : Nat) : Int).toNat]? = some c := by rw [Int.toNat_natCast]; exact hc
  have htk := take_next hc
  by_cases hd : isDig c = true
  ·have hr := (isDig_iff c).1 hd
   refine W.seq (W.region ?_)
   refine z_T (show ((i : Nat) : Int) < (s.length : Nat) by omega) ?_
   refine WL.nil ?_
   refine W.seq (W.cond_true rfl (W.skip ?_))
   refine W.seq (W.block ?_)
   refine W.seq (W.region ?_)
   refine z_p ?_
   refine z_p ?_
   refine WL.nil ?_
   refine W.seq (W.seq (W.region ?_))
   refine z_p ?_
   refine z_p ?_
   refine sp (v_index_str rfl rfl rfl rfl rfl (by omega) hcs) rfl rfl rfl ?_
   refine z_F (show ¬ (c.toNat : Int) < 48 by omega) ?_
   refine z_p ?_
   refine z_p ?_
   refine z_p ?_
   refine sp (v_index_str rfl rfl rfl rfl rfl (by omega) hcs) rfl rfl rfl ?_
   refine z_F (show ¬ (c.toNat : Int) > 57 by omega) ?_
   refine z_p ?_
   refine WL.nil ?_
   refine W.cond_false rfl (W.skip ?_)
   refine W.region ?_
   refine z_p ?_
   refine z_i ?_
   refine z_p ?_
   refine z_p ?_
   refine sp (v_index_str rfl rfl rfl rfl rfl (by omega) hcs) rfl rfl rfl ?_
   refine sq (v_pure rfl) (show _ = AV.int .u8 ((c.toNat - 48 : Nat) : Int) from congrArg (AV.int .u8) (by rw [IntKind.wrap_u8]; omega)) rfl rfl rfl ?_
   refine sp (v_cvt rfl rfl rfl rfl rfl (by first | rfl | (rw [IntKind.wrap_i64]; omega) | (rw [IntKind.wrap_u64]; omega) | (rw [IntKind.wrap_u8]; omega) | (rw [IntKind.wrap_i32]; omega))) rfl rfl rfl ?_
   refine sq (v_i64 rfl rfl rfl rfl (by omega) (by omega)) (show _ = AV.int .i64 ((decF (s.take (i + 1)) : Nat) : Int) from congrArg (AV.int .i64) (by rw [htk, decF_snoc]; omega)) rfl rfl rfl ?_
   refine z_p ?_
   refine WL.nil ?_
   refine W.region ?_
   refine sq (v_i64 rfl rfl rfl rfl (by omega) (by omega)) (show _ = AV.int .i64 ((i + 1 : Nat) : Int) from rfl) rfl rfl rfl ?_
   refine z_p ?_
   refine WL.nil ?_
   exact ⟨s.length - (i + 1), _, _, by omega, ⟨i + 1, by omega, rfl, by rw [htk, List.all_append, ha]; simp [hd], rfl⟩, (by refine ⟨?_, ?_, rfl, Nat.le_of_ble_eq_true rfl⟩ <;> repeat (first | exact trivial | exact rfl | refine ⟨rfl, ?_⟩ | refine ⟨.inr ⟨rfl, ?_⟩, ?_⟩ | refine ⟨.inl rfl, ?_⟩))⟩
  ·have hd' : isDig c = false := by simpa using hd
   have hall := all_false hc hd'
   have hz : AV.tup [.int .i64 (numV s : Nat), .bool (s.all isDig)] = .tup [.int .i64 0, .bool false] := by rw [numV, hall]; rfl
   have hr : c.toNat < 48 ∨ 57 < c.toNat := by
    rcases Nat.lt_or_ge c.toNat 48 with h | h
    ·exact .inl h
    ·right
     rcases Nat.lt_or_ge 57 c.toNat with h2 | h2
     ·exact h2
     ·exact absurd ((isDig_iff c).2 ⟨h, h2⟩) hd
   rcases hr with hr | hr
   ·skip
    refine W.seq (W.region ?_)
    refine z_T (show ((i : Nat) : Int) < (s.length : Nat) by omega) ?_
    refine WL.nil ?_
    refine W.seq (W.cond_true rfl (W.skip ?_))
    refine W.seq (W.block ?_)
    refine W.seq (W.region ?_)
    refine z_p ?_
    refine z_p ?_
    refine WL.nil ?_
    refine W.seq (W.seq (W.region ?_))
    refine z_p ?_
    refine z_p ?_
    refine sp (v_index_str rfl rfl rfl rfl rfl (by omega) hcs) rfl rfl rfl ?_
    refine z_T (show (c.toNat : Int) < 48 by omega) ?_
    refine z_p ?_
    refine z_o ?_
    refine z_o ?_
    refine z_o ?_
    refine z_o ?_
    refine z_p ?_
    refine WL.nil ?_
    refine W.cond_true rfl ?_
    refine W.seq (W.region ?_)
    refine z_p ?_
    refine z_p ?_
    refine WL.nil ?_
    exact W.ret (fin rfl (.shut (.plain rfl) (.shut (.plain rfl) .nil)) hz.symm)
   ·skip
    refine W.seq (W.region ?_)
    refine z_T (show ((i : Nat) : Int) < (s.length : Nat) by omega) ?_
    refine WL.nil ?_
    refine W.seq (W.cond_true rfl (W.skip ?_))
    refine W.seq (W.block ?_)
    refine W.seq (W.region ?_)
    refine z_p ?_
    refine z_p ?_
    refine WL.nil ?_
    refine W.seq (W.seq (W.region ?_))
    refine z_p ?_
    refine z_p ?_
    refine sp (v_index_str rfl rfl rfl rfl rfl (by omega) hcs) rfl rfl rfl ?_
    refine z_F (show ¬ (c.toNat : Int) < 48 by omega) ?_
    refine z_p ?_
    refine z_p ?_
    refine z_p ?_
    refine sp (v_index_str rfl rfl rfl rfl rfl (by omega) hcs) rfl rfl rfl ?_
    refine z_T (show (c.toNat : Int) > 57 by omega) ?_
    refine z_p ?_
    refine WL.nil ?_
    refine W.cond_true rfl ?_
    refine W.seq (W.region ?_)
    refine z_p ?_
    refine z_p ?_
    refine WL.nil ?_
    exact W.ret (fin rfl (.shut (.plain rfl) (.shut (.plain rfl) .nil)) hz.symm)
 ·have hie : i = s.length := by omega
  subst hie
  rw [List.take_length] at ha ⊢
  refine W.seq (W.region ?_)
  refine z_F (show ¬ ((s.length : Nat) : Int) < (s.length : Nat) by omega) ?_
  refine WL.nil ?_
  refine W.seq (W.cond_false rfl (W.exit ?_))
  refine W.seq (W.region ?_)
  refine z_p ?_
  refine z_p ?_
  refine z_p ?_
  refine WL.nil ?_
  exact W.ret (fin rfl (.shut (.plain rfl) (.shut (.plain rfl) .nil)) (by rw [numV, ha]; rfl))
theorem ne_dash {c : UInt8} (h : c ≠ 45) : (((c.toNat : Nat) : Int) != 45) = true := by
 rw [bne_iff_ne]
 intro e
 exact h (UInt8.toNat_inj.1 (by rw [show (45 : UInt8).toNat = 45 from rfl]; omega))
theorem dParse_spec (s : List UInt8) (hs : s.length ≤ 9223372036854775806) : Does Tryz.prog 98 [.str s] (.tup [parD s, .int .i64 (errD s)]) := by
 have hbad : okD s = false → AV.tup [parD s, .int .i64 (errD s)] = .tup [dateAV 0 0 0, .int .i64 4] := fun h => by
  have e : errD s = 4 := by rw [errD, h]; rfl
  rw [parD, e]; rfl
 refine does tab_ok Tryz.func98 rfl rfl rfl rfl rfl fun w0 H0 hk hj => ?_
 by_cases hl : s.length = 10
 ·obtain ⟨c4, h4⟩ : ∃ c, s[(4 : Int).toNat]? = some c := ⟨s[4], by simp [hl]⟩
  obtain ⟨c7, h7⟩ : ∃ c, s[(7 : Int).toNat]? = some c := ⟨s[7], by simp [hl]⟩
  have g4 : s.getD 4 0 = c4 := by rw [List.getD_eq_getElem?_getD, show s[4]? = some c4 from h4]; rfl
  have g7 : s.getD 7 0 = c7 := by rw [List.getD_eq_getElem?_getD, show s[7]? = some c7 from h7]; rfl
  by_cases e4 : c4 = 45
  ·by_cases e7 : c7 = 45
   ·have hA := number_spec (s.take 4) (by simp; omega)
    have hB := number_spec ((s.drop 5).take 2) (by simp; omega)
    have hC := number_spec (s.drop 8) (by simp; omega)
    have hok : okD s = ((s.take 4).all isDig && ((s.drop 5).take 2).all isDig && (s.drop 8).all isDig) := by
     rw [okD, g4, g7, hl, e4, e7]; simp
    obtain ⟨a, ha⟩ : ∃ a, a = (s.take 4).all isDig := ⟨_, rfl⟩
    obtain ⟨b, hb⟩ : ∃ b, b = ((s.drop 5).take 2).all isDig := ⟨_, rfl⟩
    obtain ⟨c, hc⟩ : ∃ c, c = (s.drop 8).all isDig := ⟨_, rfl⟩
    rw [← ha, ← hb, ← hc] at hok
    rw [← ha] at hA
    rw [← hb] at hB
    rw [← hc] at hC
    refine W.seq (W.region ?_)
    refine z_a 0 [_] ?_
    refine z_p ?_
    refine WL.nil ?_
    refine W.seq (W.seq (W.region ?_))
    refine z_p ?_
    refine sp (v_len rfl rfl rfl rfl rfl trivial) rfl rfl rfl ?_
    refine sq (v_pure rfl) (show _ = AV.bool false from congrArg AV.bool (by rw [hl]; rfl)) rfl rfl rfl ?_
    refine z_p ?_
    refine z_p ?_
    refine sp (v_index_str rfl rfl rfl rfl rfl (by omega) h4) rfl rfl rfl ?_
    refine sq (v_pure rfl) (show _ = AV.bool false from congrArg AV.bool (by rw [e4]; rfl)) rfl rfl rfl ?_
    refine z_p ?_
    refine z_p ?_
    refine z_p ?_
    refine sp (v_index_str rfl rfl rfl rfl rfl (by omega) h7) rfl rfl rfl ?_
    refine sq (v_pure rfl) (show _ = AV.bool false from congrArg AV.bool (by rw [e7]; rfl)) rfl rfl rfl ?_
    refine z_p ?_
    refine WL.nil ?_
    refine W.cond_false rfl (W.skip ?_)
    refine W.seq (W.region ?_)
    refine z_p ?_
    refine sq (v_slice_str rfl rfl rfl rfl rfl ⟨_, _, rfl, by omega, rfl⟩ (by omega) (by omega)) (show _ = AV.str (s.take 4) from rfl) rfl rfl rfl ?_
    refine z_c (hA) ?_
    refine z_p ?_
    refine z_p ?_
    refine z_p ?_
    refine z_p ?_
    refine z_p ?_
    refine WL.nil ?_
    refine W.seq (W.region ?_)
    refine z_p ?_
    refine sq (v_slice_str rfl rfl rfl rfl ⟨_, _, rfl, by omega, rfl⟩ ⟨_, _, rfl, by omega, rfl⟩ (by omega) (by omega)) (show _ = AV.str ((s.drop 5).take 2) from rfl) rfl rfl rfl ?_
    refine z_c (hB) ?_
    refine z_p ?_
    refine z_p ?_
    refine z_p ?_
    refine z_p ?_
    refine z_p ?_
    refine WL.nil ?_
    refine W.seq (W.region ?_)
    refine z_p ?_
    refine sq (v_slice_str rfl rfl rfl rfl ⟨_, _, rfl, by omega, rfl⟩ rfl (by omega) (by omega)) (show _ = AV.str (s.drop 8) from congrArg AV.str (List.take_of_length_le (by simp))) rfl rfl rfl ?_
    refine z_c (hC) ?_
    refine z_p ?_
    refine z_p ?_
    refine z_p ?_
    refine z_p ?_
    refine z_p ?_
    refine WL.nil ?_
    cases a with
    | false =>
     refine W.seq (W.seq (W.region ?_))
     refine z_p ?_
     refine z_p ?_
     refine z_p ?_
     refine z_o ?_
     refine z_o ?_
     refine z_p ?_
     refine z_p ?_
     refine z_o ?_
     refine z_o ?_
     refine z_p ?_
     refine WL.nil ?_
     refine W.cond_true rfl ?_
     refine W.seq (W.region ?_)
     refine sq (v_build rfl rfl rfl rfl rfl rfl rfl) (rfl : _ = AV.agg [_, _, _]) rfl rfl rfl ?_
     refine z_s [_] ?_
     refine z_p ?_
     refine WL.nil ?_
     exact W.ret (fin rfl (.shut (.plain rfl) (.shut (.plain rfl) .nil)) (hbad hok).symm)
    | true =>
     cases b with
     | false =>
      refine W.seq (W.seq (W.region ?_))
      refine z_p ?_
      refine z_p ?_
      refine z_p ?_
      refine z_p ?_
      refine z_p ?_
      refine z_p ?_
      refine z_p ?_
      refine z_o ?_
      refine z_o ?_
      refine z_p ?_
      refine WL.nil ?_
      refine W.cond_true rfl ?_
      refine W.seq (W.region ?_)
      refine sq (v_build rfl rfl rfl rfl rfl rfl rfl) (rfl : _ = AV.agg [_, _, _]) rfl rfl rfl ?_
      refine z_s [_] ?_
      refine z_p ?_
      refine WL.nil ?_
      exact W.ret (fin rfl (.shut (.plain rfl) (.shut (.plain rfl) .nil)) (hbad hok).symm)
     | true =>
      cases c with
      | false =>
       refine W.seq (W.seq (W.region ?_))
       refine z_p ?_
       refine z_p ?_
       refine z_p ?_
       refine z_p ?_
       refine z_p ?_
       refine z_p ?_
       refine z_p ?_
       refine z_p ?_
       refine z_p ?_
       refine z_p ?_
       refine WL.nil ?_
       refine W.cond_true rfl ?_
       refine W.seq (W.region ?_)
       refine sq (v_build rfl rfl rfl rfl rfl rfl rfl) (rfl : _ = AV.agg [_, _, _]) rfl rfl rfl ?_
       refine z_s [_] ?_
       refine z_p ?_
       refine WL.nil ?_
       exact W.ret (fin rfl (.shut (.plain rfl) (.shut (.plain rfl) .nil)) (hbad hok).symm)
      | true =>
       have eA : numV (s.take 4) = yD s := by rw [numV, if_pos ha.symm]; rfl
       have eB : numV ((s.drop 5).take 2) = mD s := by rw [numV, if_pos hb.symm]; rfl
       have eC : numV (s.drop 8) = kD s := by rw [numV, if_pos hc.symm]; rfl
       have hck := dcheck_spec (yD s) (mD s) (kD s)
       have hok' : okD s = true := hok
       rw [eA, eB, eC]
       by_cases hr : rightF (yD s) (mD s) (kD s) = true
       ·rw [if_pos hr] at hck
        have e0 : errD s = 0 := by rw [errD, if_pos hok', if_pos hr]
        refine W.seq (W.seq (W.region ?_))
        refine z_p ?_
        refine z_p ?_
        refine z_p ?_
        refine z_p ?_
        refine z_p ?_
        refine z_p ?_
        refine z_p ?_
        refine z_p ?_
        refine z_p ?_
        refine z_p ?_
        refine WL.nil ?_
        refine W.cond_false rfl (W.skip ?_)
        refine W.seq (W.region ?_)
        refine z_p ?_
        refine z_p ?_
        refine z_p ?_
        refine sq (v_build rfl rfl rfl rfl rfl rfl rfl) (rfl : _ = AV.agg [_, _, _]) rfl rfl rfl ?_
        refine z_a 1 [_, _] ?_
        refine z_s [_, _] ?_
        refine WL.nil ?_
        refine W.seq (W.seq (W.region ?_))
        first | refine z_l3 ?_ | refine z_r3 ?_
        refine z_c (hck) ?_
        refine z_p ?_
        refine WL.nil ?_
        refine W.seq (W.region ?_)
        refine z_p ?_
        refine sq (v_pure rfl) (show _ = AV.bool false from rfl) rfl rfl rfl ?_
        refine WL.nil ?_
        refine W.cond_false rfl (W.skip ?_)
        refine W.seq (W.region ?_)
        first | refine z_l3 ?_ | refine z_r3 ?_
        refine z_s [_, _] ?_
        refine z_p ?_
        refine WL.nil ?_
        exact W.ret (fin rfl (.shut (.plain rfl) (.shut (.plain rfl) .nil)) (by rw [parD, if_pos e0, e0]; rfl))
       ·rw [if_neg hr] at hck
        have e0 : errD s = 11 := by rw [errD, if_pos hok', if_neg hr]
        refine W.seq (W.seq (W.region ?_))
        refine z_p ?_
        refine z_p ?_
        refine z_p ?_
        refine z_p ?_
        refine z_p ?_
        refine z_p ?_
        refine z_p ?_
        refine z_p ?_
        refine z_p ?_
        refine z_p ?_
        refine WL.nil ?_
        refine W.cond_false rfl (W.skip ?_)
        refine W.seq (W.region ?_)
        refine z_p ?_
        refine z_p ?_
        refine z_p ?_
        refine sq (v_build rfl rfl rfl rfl rfl rfl rfl) (rfl : _ = AV.agg [_, _, _]) rfl rfl rfl ?_
        refine z_a 1 [_, _] ?_
        refine z_s [_, _] ?_
        refine WL.nil ?_
        refine W.seq (W.seq (W.region ?_))
        first | refine z_l3 ?_ | refine z_r3 ?_
        refine z_c (hck) ?_
        refine z_p ?_
        refine WL.nil ?_
        refine W.seq (W.region ?_)
        refine z_p ?_
        refine sq (v_pure rfl) (show _ = AV.bool true from rfl) rfl rfl rfl ?_
        refine WL.nil ?_
        refine W.cond_true rfl ?_
        refine W.seq (W.region ?_)
        refine sq (v_build rfl rfl rfl rfl rfl rfl rfl) (rfl : _ = AV.agg [_, _, _]) rfl rfl rfl ?_
        refine z_p ?_
        refine z_s [_, _] ?_
        refine z_p ?_
        refine WL.nil ?_
        exact W.ret (fin rfl (.shut (.plain rfl) (.shut (.plain rfl) .nil)) (by rw [parD, e0, if_neg (by decide)]; rfl))
   ·have hno : okD s = false := by rw [okD, g7, show (c7 == 45) = false by simpa using e7]; simp
    refine W.seq (W.region ?_)
    refine z_a 0 [_] ?_
    refine z_p ?_
    refine WL.nil ?_
    refine W.seq (W.seq (W.region ?_))
    refine z_p ?_
    refine sp (v_len rfl rfl rfl rfl rfl trivial) rfl rfl rfl ?_
    refine sq (v_pure rfl) (show _ = AV.bool false from congrArg AV.bool (by rw [hl]; rfl)) rfl rfl rfl ?_
    refine z_p ?_
    refine z_p ?_
    refine sp (v_index_str rfl rfl rfl rfl rfl (by omega) h4) rfl rfl rfl ?_
    refine sq (v_pure rfl) (show _ = AV.bool false from congrArg AV.bool (by rw [e4]; rfl)) rfl rfl rfl ?_
    refine z_p ?_
    refine z_p ?_
    refine z_p ?_
    refine sp (v_index_str rfl rfl rfl rfl rfl (by omega) h7) rfl rfl rfl ?_
    refine sq (v_pure rfl) (show _ = AV.bool true from congrArg AV.bool (ne_dash e7)) rfl rfl rfl ?_
    refine z_p ?_
    refine WL.nil ?_
    refine W.cond_true rfl ?_
    refine W.seq (W.region ?_)
    refine sq (v_build rfl rfl rfl rfl rfl rfl rfl) (rfl : _ = AV.agg [_, _, _]) rfl rfl rfl ?_
    refine z_s [_] ?_
    refine z_p ?_
    refine WL.nil ?_
    exact W.ret (fin rfl (.shut (.plain rfl) (.shut (.plain rfl) .nil)) (hbad hno).symm)
  ·have hno : okD s = false := by rw [okD, g4, show (c4 == 45) = false by simpa using e4]; simp
   refine W.seq (W.region ?_)
   refine z_a 0 [_] ?_
   refine z_p ?_
   refine WL.nil ?_
   refine W.seq (W.seq (W.region ?_))
   refine z_p ?_
   refine sp (v_len rfl rfl rfl rfl rfl trivial) rfl rfl rfl ?_
   refine sq (v_pure rfl) (show _ = AV.bool false from congrArg AV.bool (by rw [hl]; rfl)) rfl rfl rfl ?_
   refine z_p ?_
   refine z_p ?_
   refine sp (v_index_str rfl rfl rfl rfl rfl (by omega) h4) rfl rfl rfl ?_
   refine sq (v_pure rfl) (show _ = AV.bool true from congrArg AV.bool (ne_dash e4)) rfl rfl rfl ?_
   refine z_p ?_
   refine z_p ?_
   refine z_o ?_
   refine z_o ?_
   refine z_o ?_
   refine z_p ?_
   refine WL.nil ?_
   refine W.cond_true rfl ?_
   refine W.seq (W.region ?_)
   refine sq (v_build rfl rfl rfl rfl rfl rfl rfl) (rfl : _ = AV.agg [_, _, _]) rfl rfl rfl ?_
   refine z_s [_] ?_
   refine z_p ?_
   refine WL.nil ?_
   exact W.ret (fin rfl (.shut (.plain rfl) (.shut (.plain rfl) .nil)) (hbad hno).symm)
 ·have hno : okD s = false := by rw [okD, show (s.length == 10) = false by simpa using hl]; simp
  refine W.seq (W.region ?_)
  refine z_a 0 [_] ?_
  refine z_p ?_
  refine WL.nil ?_
  refine W.seq (W.seq (W.region ?_))
  refine z_p ?_
  refine sp (v_len rfl rfl rfl rfl rfl trivial) rfl rfl rfl ?_
  refine sq (v_pure rfl) (show _ = AV.bool true from congrArg AV.bool (by rw [bne_iff_ne]; omega)) rfl rfl rfl ?_
  refine z_p ?_
  refine z_o ?_
  refine z_o ?_
  refine z_o ?_
  refine z_p ?_
  refine z_p ?_
  refine z_o ?_
  refine z_o ?_
  refine z_o ?_
  refine z_p ?_
  refine WL.nil ?_
  refine W.cond_true rfl ?_
  refine W.seq (W.region ?_)
  refine sq (v_build rfl rfl rfl rfl rfl rfl rfl) (rfl : _ = AV.agg [_, _, _]) rfl rfl rfl ?_
  refine z_s [_] ?_
  refine z_p ?_
  refine WL.nil ?_
  exact W.ret (fin rfl (.shut (.plain rfl) (.shut (.plain rfl) .nil)) (hbad hno).symm)
/-! ### put, Print -/
theorem splice_set (s : List UInt8) (a : Nat) (l : List UInt8) (c : UInt8) (h : a + 1 + l.length ≤ s.length) : (splice s (a + 1) l).set a c = splice s a (c :: l) := by
 have h1 : (s.take (a + 1)).length = a + 1 := by rw [List.length_take]; omega
 have h2 : (s.take (a + 1)).set a c = s.take a ++ [c] := by
  rw [List.take_succ_eq_append_getElem (by omega), List.set_append_right _ _ (by rw [List.length_take]; omega), List.length_take, Nat.min_eq_left (by omega), Nat.sub_self]
  rfl
 rw [splice, splice, List.append_assoc, List.set_append_left _ _ (by omega), h2]
 simp only [List.append_assoc, List.length_cons, List.cons_append, List.nil_append]
 rw [show a + 1 + l.length = a + (l.length + 1) by omega]
theorem set_selfD {l : List AObj} {m : Nat} {x : AObj} (h : l[m]? = some x) : l.set m x = l := by
 obtain ⟨h1, h2⟩ := List.getElem?_eq_some_iff.1 h
 rw [← h2]; exact List.set_getElem_self h1
section
variable {nt : Nat} {w0 : World} {k : Nat} {H0 : View} {ln : Nat → Nat} {hk : ∀ o, o < k → H0.blk o < w0.heap.size} {hj : ∀ x o, x < k → o < k → H0.blk x = H0.blk o → x = o} {sv : List (Array Value × List (Nat × AV))}
  {ops : Array Oper} {o : Oper} {rest : List Oper} {env : List (Nat × AV)} {objs : List AObj} {Q : Exit → St → Prop} {x : Operand} {xs : Array Operand} {ts : Array TypeId} {d j : Nat}
theorem put_si {s : List UInt8} {off n v : Nat} {full : Bool} (hop : o.op = .call { callee := .value x, args := xs, argTypes := ts }) (hx : ev ⟨env, objs⟩ x = some (.func (.func 130) [] [])) (hxs : evL ⟨env, objs⟩ xs.toList = some [.sl j 0 off n full, .int .i64 (v : Int)])
  (hob : objs[j]? = some (.bytes s)) (hle : off + n ≤ s.length) (hv : v ≤ 1000000) (hn : n ≤ 1000) (hkj : k ≤ j) (hg : gd ops ⟨env, objs⟩ o = some true) (hd : o.dst = some d) (hlt : Nat.blt d nt = true)
  (h : WL ⟨Tryz.prog, tab, tab_ok, nt, w0, k, H0, ln, hk, hj, sv⟩ ops rest ⟨(d, .tup []) :: env, objs.set j (.bytes (splice s off (txt n v)))⟩ Q) :
  WL ⟨Tryz.prog, tab, tab_ok, nt, w0, k, H0, ln, hk, hj, sv⟩ ops (o :: rest) ⟨env, objs⟩ Q := by
 refine si Tryz.func130 rfl rfl rfl rfl hop hx hxs rfl rfl hg hd hlt fun tm => ?_
 refine W.get fun hO hE hS hK => ?_
 have hjl := (List.getElem?_eq_some_iff.1 hob).1
 refine W.seq (W.region ?_)
 refine z_p ?_
 refine sp (v_len_b rfl rfl hob rfl rfl) rfl rfl rfl ?_
 refine z_i ?_
 refine z_p ?_
 refine WL.nil ?_
 let S : Nat → St := fun q => ⟨[(0, .sl j 0 off n full), (1, .int .i64 ((v / 10 ^ (n - q) : Nat) : Int)), (4, .int .i64 ((q : Nat) - 1 : Int))], objs.set j (.bytes (splice s (off + q) (txt (n - q) v)))⟩
 have hself : objs.set j (.bytes (splice s (off + n) (txt (n - n) v))) = objs := by
  rw [Nat.sub_self, show txt 0 v = [] from rfl, show splice s (off + n) [] = s by simp [splice], set_selfD hob]
 have fit : ∀ q, ScO (S q).objs ∧ ScE (S q).objs.length (S q).env ∧ ScS (S q).objs.length ((tm, env) :: sv) ∧ k ≤ (S q).objs.length := by
  intro q
  refine ⟨hO.set (fun _ _ _ _ h => by cases h), ScE.of ?_, ?_, ?_⟩
  ·simp only [S, List.length_set, envScoped, AV.inside, Bool.and_true, decide_eq_true_eq]; exact hjl
  ·simp only [S, List.length_set]; exact hS
  ·simp only [S, List.length_set]; exact hK
 refine W.block (W.loopS (fun m st => ∃ q, q ≤ n ∧ m = q ∧ st = S q) n ⟨n, Nat.le_refl _, rfl, rfl⟩
  ⟨⟨[], by simp only [S, hself, List.append_nil]⟩, ⟨rfl, by simp only [Nat.sub_self, Nat.pow_zero, Nat.div_one]; rfl, rfl, trivial⟩, fit n⟩ ?_)
 rintro q _ ⟨_, hq, rfl, rfl⟩
 cases q with
 | zero =>
  refine W.seq (W.seq (W.region ?_))
  refine z_p ?_
  refine z_F (show ¬ ((0 : Nat) : Int) - 1 ≥ 0 by decide) ?_
  refine WL.nil ?_
  refine W.cond_false rfl (W.exit ?_)
  exact ⟨.inr rfl, _, rfl, h⟩
 | succ q =>
  obtain ⟨u, hu⟩ : ∃ u, u = v / 10 ^ (n - (q + 1)) := ⟨_, rfl⟩
  have hn1 : n - q = n - (q + 1) + 1 := by omega
  have hdv : v / 10 ^ (n - q) = u / 10 := by rw [hn1, Nat.pow_succ, ← Nat.div_div_eq_div_mul, hu]
  have htx : txt (n - q) v = UInt8.ofNat (48 + u % 10) :: txt (n - (q + 1)) v := by rw [hn1, txt_cons, hu]
  have hul : u ≤ 1000000 := hu ▸ Nat.le_trans (Nat.div_le_self _ _) hv
  have hset : (splice s (off + (q + 1)) (txt (n - (q + 1)) v)).set (off + q) (UInt8.ofNat (48 + u % 10)) = splice s (off + q) (txt (n - q) v) := by
   rw [htx]; exact splice_set s (off + q) _ _ (by rw [txt_length]; omega)
  have hob' : (objs.set j (.bytes (splice s (off + (q + 1)) (txt (n - (q + 1)) v))))[j]? = some (.bytes (splice s (off + (q + 1)) (txt (n - (q + 1)) v))) := by rw [List.getElem?_set_self hjl]
  have hsl : (splice s (off + (q + 1)) (txt (n - (q + 1)) v)).length = s.length := by
   simp only [splice, List.length_append, List.length_take, List.length_drop, txt_length]; omega
  show W _ _ ⟨[(0, .sl j 0 off n full), (1, .int .i64 ((v / 10 ^ (n - (q + 1)) : Nat) : Int)), (4, .int .i64 (((q + 1 : Nat) : Int) - 1))], objs.set j (.bytes (splice s (off + (q + 1)) (txt (n - (q + 1)) v)))⟩ _
  rw [← hu]
  refine W.seq (W.seq (W.region ?_))
  refine z_p ?_
  refine z_T (show ((q + 1 : Nat) : Int) - 1 ≥ 0 by omega) ?_
  refine WL.nil ?_
  refine W.cond_true rfl (W.skip ?_)
  refine W.seq (W.block ?_)
  refine W.seq (W.region ?_)
  refine z_p ?_
  refine z_p ?_
  refine z_p ?_
  refine sp (v_bin rfl rfl rfl (rem_nn (by omega) (by omega))) rfl rfl rfl ?_
  refine sq (v_i64 rfl rfl rfl rfl (by omega) (by omega)) (show _ = AV.int .i64 ((48 + u % 10 : Nat) : Int) from congrArg (AV.int .i64) (by omega)) rfl rfl rfl ?_
  refine sq (v_conv_int rfl rfl rfl rfl rfl) (show _ = AV.int .u8 ((UInt8.ofNat (48 + u % 10)).toNat : Nat) from congrArg (AV.int .u8) (by rw [dig_nat _ (by omega), IntKind.wrap_u8]; omega)) rfl rfl rfl ?_
  refine sq (v_indexAddr_b rfl rfl hob' rfl rfl rfl rfl (by omega) (by omega)) (show _ = AV.ptr j 0 (off + q) from congrArg (AV.ptr j 0) (show off + (((q + 1 : Nat) : Int) - 1).toNat * 1 = off + q by omega)) rfl rfl rfl ?_
  refine ss (s_store_b _ rfl rfl hob' hkj rfl rfl rfl (by omega)) (show _ = objs.set j (.bytes (splice s (off + q) (txt (n - q) v))) by rw [List.set_set, hset]) rfl rfl ?_
  refine WL.nil ?_
  refine W.region ?_
  refine z_p ?_
  refine sq (v_bin rfl rfl rfl (quo_i64 (by omega) (by omega) (by omega))) (show _ = AV.int .i64 ((v / 10 ^ (n - q) : Nat) : Int) from congrArg (AV.int .i64) (by rw [hdv]; rfl)) rfl rfl rfl ?_
  refine z_p ?_
  refine WL.nil ?_
  refine W.region ?_
  refine z_p ?_
  refine sq (v_i64 rfl rfl rfl rfl (by omega) (by omega)) (show _ = AV.int .i64 ((q : Nat) - 1 : Int) from congrArg (AV.int .i64) (by omega)) rfl rfl rfl ?_
  refine z_p ?_
  refine WL.nil ?_
  exact ⟨q, _, _, by omega, ⟨q, by omega, rfl, rfl⟩, ⟨[], (List.append_nil _).symm⟩, ⟨rfl, rfl, rfl, trivial⟩, fit q⟩
end
end Go.Proofs.YtejpblopbdgkaaaGreatDoor

set_option linter.unusedVariables false
set_option linter.unusedSimpArgs false
namespace Go.Proofs.YtejpblopbdgkaaaGreatDoor
open Go Go.Lens
theorem txt_four (y : Nat) : ∃ a b c d, txt 4 y = [a, b, c, d] := by
 have h := txt_length 4 y
 match txt 4 y, h with
 | [a, b, c, d], _ => exact ⟨a, b, c, d, rfl⟩
theorem txt_two (y : Nat) : ∃ a b, txt 2 y = [a, b] := by
 have h := txt_length 2 y
 match txt 2 y, h with
 | [a, b], _ => exact ⟨a, b, rfl⟩
theorem datePrint_spec {y m d : Nat} (h : rightF y m d = true) : Does Tryz.prog 89 [dateAV y m d] (.tup [.str (txtD y m d), .int .i64 0]) := by
 have hck := dcheck_spec y m d
 rw [if_pos h] at hck
 obtain ⟨⟨_, h1⟩, ⟨_, h2⟩, _, h3⟩ := rightF_le h
 obtain ⟨y1, y2, y3, y4, hy⟩ := txt_four y
 obtain ⟨m1, m2, hm⟩ := txt_two m
 obtain ⟨d1, d2, hd⟩ := txt_two d
 refine does tab_ok Tryz.func89 rfl rfl rfl rfl rfl fun w0 H0 hk hj => ?_
 refine W.seq (W.region ?_)
 first | refine z_B 0 [_] ?_ | refine sn (a_box rfl rfl (.inr ⟨trivial, rfl⟩)) (rfl : _ = AV.ptr 0 0 0) (rfl : _ = [_]) rfl rfl rfl ?_
 refine z_p ?_
 refine z_p ?_
 refine WL.nil ?_
 refine W.seq (W.seq (W.region ?_))
 first | refine z_l3 ?_ | refine z_r3 ?_
 refine z_c (hck) ?_
 refine z_p ?_
 refine WL.nil ?_
 refine W.seq (W.region ?_)
 refine z_p ?_
 refine sq (v_pure rfl) (show _ = AV.bool false from rfl) rfl rfl rfl ?_
 refine WL.nil ?_
 refine W.cond_false rfl (W.skip ?_)
 refine W.seq (W.region ?_)
 refine sn (v_buildSlice rfl rfl rfl rfl rfl rfl rfl (Nat.le_of_ble_eq_true rfl) (Nat.le_of_ble_eq_true rfl) rfl rfl rfl rfl) (rfl : _ = AV.sl 1 0 0 10 true) (rfl : _ = [_, _]) rfl rfl rfl ?_
 refine sn (v_mark [48, 48, 48, 48, 45, 48, 48, 45, 48, 48] rfl rfl rfl rfl (by decide) rfl rfl rfl rfl rfl) (rfl : _ = AV.sl 1 0 0 10 true) (rfl : _ = [_, AObj.bytes [48, 48, 48, 48, 45, 48, 48, 45, 48, 48]]) rfl rfl rfl ?_
 refine z_p ?_
 refine WL.nil ?_
 refine W.seq (W.drawnR mixed [13, 14, 15, 16] (by kernel_rfl) ?_)
 apply DrawFrom.stepR
 ·intro more
  refine z_p ?_
  exact z_e
 apply DrawFrom.stepR
 ·intro more
  refine sp (v_slice_b (l := 0) (h := 4) rfl rfl rfl rfl rfl rfl rfl ⟨_, _, rfl, by omega, rfl⟩ (by omega) (by omega)) rfl rfl rfl ?_
  exact z_e
 apply DrawFrom.stepR
 ·intro more
  first | refine z_f ?_ | refine z_g ?_
  exact z_e
 apply DrawFrom.stepR
 ·intro more
  first | refine z_l ?_ | refine z_r ?_
  exact z_e
 refine DrawFrom.doneR (rfl : _ = (_, _) :: (_, _) :: (_, _) :: (_, _) :: _) ?_
 refine put_si rfl rfl rfl rfl (Nat.le_of_ble_eq_true rfl) (by omega) (by decide) (Nat.zero_le _) rfl rfl rfl ?_
 rw [hy]
 refine WL.nil ?_
 refine W.seq (W.drawnR mixed [18, 19, 20, 21] (by kernel_rfl) ?_)
 apply DrawFrom.stepR
 ·intro more
  refine z_p ?_
  exact z_e
 apply DrawFrom.stepR
 ·intro more
  refine sp (v_slice_b (l := 5) (h := 7) rfl rfl rfl rfl rfl rfl ⟨_, _, rfl, by omega, rfl⟩ ⟨_, _, rfl, by omega, rfl⟩ (by omega) (by omega)) rfl rfl rfl ?_
  exact z_e
 apply DrawFrom.stepR
 ·intro more
  first | refine z_f ?_ | refine z_g ?_
  exact z_e
 apply DrawFrom.stepR
 ·intro more
  first | refine z_l ?_ | refine z_r ?_
  exact z_e
 refine DrawFrom.doneR (rfl : _ = (_, _) :: (_, _) :: (_, _) :: (_, _) :: _) ?_
 refine put_si rfl rfl rfl rfl (Nat.le_of_ble_eq_true rfl) (by omega) (by decide) (Nat.zero_le _) rfl rfl rfl ?_
 rw [hm]
 refine WL.nil ?_
 refine W.seq (W.drawnR mixed [23, 24, 25, 26] (by kernel_rfl) ?_)
 apply DrawFrom.stepR
 ·intro more
  refine z_p ?_
  exact z_e
 apply DrawFrom.stepR
 ·intro more
  refine sp (v_slice_b (l := 8) (h := 10) rfl rfl rfl rfl rfl rfl ⟨_, _, rfl, by omega, rfl⟩ rfl (by omega) (by omega)) rfl rfl rfl ?_
  exact z_e
 apply DrawFrom.stepR
 ·intro more
  first | refine z_f ?_ | refine z_g ?_
  exact z_e
 apply DrawFrom.stepR
 ·intro more
  first | refine z_l ?_ | refine z_r ?_
  exact z_e
 refine DrawFrom.doneR (rfl : _ = (_, _) :: (_, _) :: (_, _) :: (_, _) :: _) ?_
 refine put_si rfl rfl rfl rfl (Nat.le_of_ble_eq_true rfl) (by omega) (by decide) (Nat.zero_le _) rfl rfl rfl ?_
 rw [hd]
 refine WL.nil ?_
 refine W.seq (W.region ?_)
 refine z_p ?_
 refine sq (v_bytes_str_b rfl rfl rfl rfl rfl rfl rfl rfl rfl rfl) (show _ = AV.str (txtD y m d) from congrArg AV.str (by rw [txtD, hy, hm, hd]; rfl)) rfl rfl rfl ?_
 refine z_p ?_
 refine z_p ?_
 refine WL.nil ?_
 exact W.ret (fin rfl (.shut (.plain rfl) (.shut (.plain rfl) .nil)) rfl)
/-! ### the reference -/
def pS (i : Nat) : Nat := if i ≤ 4 then 0 else if i ≤ 7 then 1 else 2
def vS (s : List UInt8) : Nat → List Nat
  | 0 => [0, 0, 0]
  | i + 1 => if i = 4 ∨ i = 7 then vS s i else (vS s i).set (pS i) (10 * (vS s i).getD (pS i) 0 + ((s.getD i 0).toNat - 48))
def gS (s : List UInt8) : Nat → Bool
  | 0 => true
  | i + 1 => gS s i && (if i = 4 ∨ i = 7 then s.getD i 0 == 45 else isDig (s.getD i 0))
theorem vS_length (s : List UInt8) : ∀ i, (vS s i).length = 3
 | 0 => rfl
 | i + 1 => by
  rw [vS]; split
  ·exact vS_length s i
  ·rw [List.length_set]; exact vS_length s i
theorem gS_false {s : List UInt8} {i : Nat} (h : gS s i = false) : ∀ k, gS s (i + k) = false
 | 0 => h
 | k + 1 => by
  show (gS s (i + k) && _) = false
  rw [gS_false h k]; rfl
theorem ten_of {s : List UInt8} (h : s.length = 10) : ∃ a b c d e f g h i j, s = [a, b, c, d, e, f, g, h, i, j] := by
 match s, h with
 | [a, b, c, d, e, f, g, h, i, j], _ => exact ⟨a, b, c, d, e, f, g, h, i, j, rfl⟩
theorem gS_ten {s : List UInt8} (h : s.length = 10) : okD s = gS s 10 := by
 obtain ⟨a, b, c, d, e, f, g, h, i, j, rfl⟩ := ten_of h
 rw [Bool.eq_iff_iff]
 simp only [okD, gS, List.length_cons, List.length_nil, List.take_succ_cons, List.take_zero, List.drop_succ_cons, List.drop_zero, List.all_cons, List.all_nil, List.getD_cons_succ, List.getD_cons_zero, Bool.and_eq_true, Bool.true_and, Bool.and_true]
 simp
 constructor <;> (intro h; simp_all)
theorem vS_ten {s : List UInt8} (h : s.length = 10) : vS s 10 = [yD s, mD s, kD s] := by
 obtain ⟨a, b, c, d, e, f, g, h, i, j, rfl⟩ := ten_of h
 rfl
theorem pS_lt (i : Nat) : pS i < 3 := by unfold pS; split <;> (try split) <;> omega
theorem rDateParse_spec (s : List UInt8) (hs : s.length ≤ 9223372036854775806) : Does Tryz.prog 102 [.str s] (.tup [parD s, .int .i64 (errD s)]) := by
 have hbad : okD s = false → AV.tup [parD s, .int .i64 (errD s)] = .tup [dateAV 0 0 0, .int .i64 4] := fun h => by
  have e : errD s = 4 := by rw [errD, h]; rfl
  rw [parD, e]; rfl
 refine does tab_ok Tryz.func102 rfl rfl rfl rfl rfl fun w0 H0 hk hj => ?_
 by_cases hl : s.length = 10
 ·let O : AObj := .cells [.int .i64 0, .int .i64 0, .int .i64 0] 0 1 false none
  let S : Nat → St := fun i => ⟨[(0, .str s), (2, .ptr 0 0 0), (4, .ptr 1 0 0), (5, .sl 2 0 0 3 true), (6, .int .i64 (pS i : Nat)), (7, .int .i64 (i : Nat))], [O, O, .cells (i64AV (vS s i)) 0 1 true (some 3)]⟩
  refine W.seq (W.region ?_)
  refine z_a 0 [_] ?_
  refine z_p ?_
  refine WL.nil ?_
  refine W.seq (W.region ?_)
  refine sq (v_build rfl rfl rfl rfl rfl rfl rfl) (rfl : _ = AV.agg [_, _, _]) rfl rfl rfl ?_
  refine z_a 1 [_, _] ?_
  refine z_s [_, _] ?_
  refine WL.nil ?_
  refine W.seq (W.seq (W.region ?_))
  refine z_p ?_
  refine sp (v_len rfl rfl rfl rfl rfl trivial) rfl rfl rfl ?_
  refine sq (v_pure rfl) (show _ = AV.bool false from congrArg AV.bool (by rw [hl]; rfl)) rfl rfl rfl ?_
  refine WL.nil ?_
  refine W.cond_false rfl (W.skip ?_)
  refine W.seq (W.region ?_)
  refine sn (v_buildSlice rfl rfl rfl rfl rfl rfl rfl (Nat.le_of_ble_eq_true rfl) (Nat.le_of_ble_eq_true rfl) rfl rfl rfl rfl) (rfl : _ = AV.sl 2 0 0 3 true) (rfl : _ = [_, _, _]) rfl rfl rfl ?_
  refine z_p ?_
  refine WL.nil ?_
  refine W.seq (W.region ?_)
  refine z_p ?_
  refine WL.nil ?_
  refine W.seq (W.seq (W.region ?_))
  refine z_p ?_
  refine WL.nil ?_
  refine W.block ?_
  refine W.while (fun m st => ∃ i, i ≤ 10 ∧ m = 10 - i ∧ gS s i = true ∧ (∀ x ∈ vS s i, x < 10 ^ i) ∧ st = S i) 10
   ⟨0, by decide, rfl, rfl, (by intro x hx; simp [vS] at hx; omega), rfl⟩ (by refine ⟨?_, ?_, rfl, Nat.le_of_ble_eq_true rfl⟩ <;> repeat (first | exact trivial | exact rfl | refine ⟨rfl, ?_⟩ | refine ⟨.inr ⟨rfl, ?_⟩, ?_⟩ | refine ⟨.inl rfl, ?_⟩)) ?_
  rintro _ _ ⟨i, hi, rfl, hg, hv, rfl⟩
  have hlv := vS_length s i
  have hps := pS_lt i
  by_cases hil : i < 10
  ·obtain ⟨c, hc⟩ : ∃ c, s[i]? = some c := ⟨s[i], by simp [hl, hil]⟩
   have hcs : s[((i : Nat) : Int).toNat]? = some c := by rw [Int.toNat_natCast]; exact hc
   have hcd : s.getD i 0 = c := by rw [List.getD_eq_getElem?_getD, hc]; rfl
   have hmono : gS s (i + 1) = false → okD s = false := fun h => by
    rw [gS_ten hl]
    have := gS_false h (10 - (i + 1))
    rwa [show i + 1 + (10 - (i + 1)) = 10 by omega] at this
   by_cases hsep : i = 4 ∨ i = 7
   ·have hg1 : gS s (i + 1) = (c == 45) := by rw [gS, hg, if_pos hsep, hcd]; rfl
    have hv1 : vS s (i + 1) = vS s i := by rw [vS, if_pos hsep]
    have hp1 : ((pS i : Nat) : Int) + 1 = (pS (i + 1) : Nat) := by rcases hsep with rfl | rfl <;> rfl
    by_cases hc45 : c = 45
    ·have hst : S (i + 1) = ⟨[(0, .str s), (2, .ptr 0 0 0), (4, .ptr 1 0 0), (5, .sl 2 0 0 3 true), (6, .int .i64 (pS (i + 1) : Nat)), (7, .int .i64 ((i + 1 : Nat) : Int))], [O, O, .cells (i64AV (vS s i)) 0 1 true (some 3)]⟩ := by simp only [S, hv1]
     have hgt : gS s (i + 1) = true := by rw [hg1, hc45]; rfl
     have hvt : ∀ x ∈ vS s (i + 1), x < 10 ^ (i + 1) := fun x hx => Nat.lt_of_lt_of_le (hv x (hv1 ▸ hx)) (Nat.pow_le_pow_right (by decide) (by omega))
     rcases hsep with rfl | rfl
     ·skip
      refine W.seq (W.seq (W.region ?_))
      refine z_p ?_
      refine z_T (show ((4 : Nat) : Int) < 10 by decide) ?_
      refine WL.nil ?_
      refine W.cond_true rfl (W.skip ?_)
      refine W.seq (W.block ?_)
      refine W.seq (W.seq (W.region ?_))
      refine z_p ?_
      refine sq (v_pure rfl) (show _ = AV.bool true from rfl) rfl rfl rfl ?_
      refine z_p ?_
      refine z_o ?_
      refine z_o ?_
      refine z_p ?_
      refine WL.nil ?_
      refine W.cond_true rfl ?_
      refine W.seq (W.seq (W.region ?_))
      refine z_p ?_
      refine z_p ?_
      refine sp (v_index_str rfl rfl rfl rfl rfl (by omega) hcs) rfl rfl rfl ?_
      refine sq (v_pure rfl) (show _ = AV.bool false from congrArg AV.bool (by rw [hc45]; rfl)) rfl rfl rfl ?_
      refine WL.nil ?_
      refine W.cond_false rfl (W.skip ?_)
      refine W.seq (W.region ?_)
      refine z_p ?_
      refine sq (v_i64 rfl rfl rfl rfl (by omega) (by omega)) (show _ = AV.int .i64 (pS 5 : Nat) from rfl) rfl rfl rfl ?_
      refine z_p ?_
      refine WL.nil ?_
      refine W.exit ?_
      refine W.region ?_
      refine z_p ?_
      refine sq (v_i64 rfl rfl rfl rfl (by omega) (by omega)) (show _ = AV.int .i64 ((5 : Nat) : Int) from rfl) rfl rfl rfl ?_
      refine z_p ?_
      refine WL.nil ?_
      exact ⟨5, _, _, by omega, ⟨5, by omega, rfl, hgt, hvt, hst.symm⟩, (by refine ⟨?_, ?_, rfl, Nat.le_of_ble_eq_true rfl⟩ <;> repeat (first | exact trivial | exact rfl | refine ⟨rfl, ?_⟩ | refine ⟨.inr ⟨rfl, ?_⟩, ?_⟩ | refine ⟨.inl rfl, ?_⟩))⟩
     ·skip
      refine W.seq (W.seq (W.region ?_))
      refine z_p ?_
      refine z_T (show ((7 : Nat) : Int) < 10 by decide) ?_
      refine WL.nil ?_
      refine W.cond_true rfl (W.skip ?_)
      refine W.seq (W.block ?_)
      refine W.seq (W.seq (W.region ?_))
      refine z_p ?_
      refine sq (v_pure rfl) (show _ = AV.bool false from rfl) rfl rfl rfl ?_
      refine z_p ?_
      refine z_p ?_
      refine sq (v_pure rfl) (show _ = AV.bool true from rfl) rfl rfl rfl ?_
      refine z_p ?_
      refine WL.nil ?_
      refine W.cond_true rfl ?_
      refine W.seq (W.seq (W.region ?_))
      refine z_p ?_
      refine z_p ?_
      refine sp (v_index_str rfl rfl rfl rfl rfl (by omega) hcs) rfl rfl rfl ?_
      refine sq (v_pure rfl) (show _ = AV.bool false from congrArg AV.bool (by rw [hc45]; rfl)) rfl rfl rfl ?_
      refine WL.nil ?_
      refine W.cond_false rfl (W.skip ?_)
      refine W.seq (W.region ?_)
      refine z_p ?_
      refine sq (v_i64 rfl rfl rfl rfl (by omega) (by omega)) (show _ = AV.int .i64 (pS 8 : Nat) from rfl) rfl rfl rfl ?_
      refine z_p ?_
      refine WL.nil ?_
      refine W.exit ?_
      refine W.region ?_
      refine z_p ?_
      refine sq (v_i64 rfl rfl rfl rfl (by omega) (by omega)) (show _ = AV.int .i64 ((8 : Nat) : Int) from rfl) rfl rfl rfl ?_
      refine z_p ?_
      refine WL.nil ?_
      exact ⟨2, _, _, by omega, ⟨8, by omega, rfl, hgt, hvt, hst.symm⟩, (by refine ⟨?_, ?_, rfl, Nat.le_of_ble_eq_true rfl⟩ <;> repeat (first | exact trivial | exact rfl | refine ⟨rfl, ?_⟩ | refine ⟨.inr ⟨rfl, ?_⟩, ?_⟩ | refine ⟨.inl rfl, ?_⟩))⟩
    ·have hno := hmono (by rw [hg1]; simpa using hc45)
     rcases hsep with rfl | rfl
     ·skip
      refine W.seq (W.seq (W.region ?_))
      refine z_p ?_
      refine z_T (show ((4 : Nat) : Int) < 10 by decide) ?_
      refine WL.nil ?_
      refine W.cond_true rfl (W.skip ?_)
      refine W.seq (W.block ?_)
      refine W.seq (W.seq (W.region ?_))
      refine z_p ?_
      refine sq (v_pure rfl) (show _ = AV.bool true from rfl) rfl rfl rfl ?_
      refine z_p ?_
      refine z_o ?_
      refine z_o ?_
      refine z_p ?_
      refine WL.nil ?_
      refine W.cond_true rfl ?_
      refine W.seq (W.seq (W.region ?_))
      refine z_p ?_
      refine z_p ?_
      refine sp (v_index_str rfl rfl rfl rfl rfl (by omega) hcs) rfl rfl rfl ?_
      refine sq (v_pure rfl) (show _ = AV.bool true from congrArg AV.bool (ne_dash hc45)) rfl rfl rfl ?_
      refine WL.nil ?_
      refine W.cond_true rfl ?_
      refine W.seq (W.region ?_)
      first | refine z_l3 ?_ | refine z_r3 ?_
      refine z_s [_, _, _] ?_
      refine z_p ?_
      refine WL.nil ?_
      exact W.ret (fin rfl (.shut (.plain rfl) (.shut (.plain rfl) .nil)) (hbad hno).symm)
     ·skip
      refine W.seq (W.seq (W.region ?_))
      refine z_p ?_
      refine z_T (show ((7 : Nat) : Int) < 10 by decide) ?_
      refine WL.nil ?_
      refine W.cond_true rfl (W.skip ?_)
      refine W.seq (W.block ?_)
      refine W.seq (W.seq (W.region ?_))
      refine z_p ?_
      refine sq (v_pure rfl) (show _ = AV.bool false from rfl) rfl rfl rfl ?_
      refine z_p ?_
      refine z_p ?_
      refine sq (v_pure rfl) (show _ = AV.bool true from rfl) rfl rfl rfl ?_
      refine z_p ?_
      refine WL.nil ?_
      refine W.cond_true rfl ?_
      refine W.seq (W.seq (W.region ?_))
      refine z_p ?_
      refine z_p ?_
      refine sp (v_index_str rfl rfl rfl rfl rfl (by omega) hcs) rfl rfl rfl ?_
      refine sq (v_pure rfl) (show _ = AV.bool true from congrArg AV.bool (ne_dash hc45)) rfl rfl rfl ?_
      refine WL.nil ?_
      refine W.cond_true rfl ?_
      refine W.seq (W.region ?_)
      first | refine z_l3 ?_ | refine z_r3 ?_
      refine z_s [_, _, _] ?_
      refine z_p ?_
      refine WL.nil ?_
      exact W.ret (fin rfl (.shut (.plain rfl) (.shut (.plain rfl) .nil)) (hbad hno).symm)
   ·have hi4 : i ≠ 4 := fun h => hsep (.inl h)
    have hi7 : i ≠ 7 := fun h => hsep (.inr h)
    have n4 : (((i : Nat) : Int) == 4) = false := by rw [beq_eq_false_iff_ne]; omega
    have n7 : (((i : Nat) : Int) == 7) = false := by rw [beq_eq_false_iff_ne]; omega
    have hg1 : gS s (i + 1) = isDig c := by rw [gS, hg, if_neg hsep, hcd]; rfl
    have hp1 : pS (i + 1) = pS i := by unfold pS; split <;> split <;> (try split) <;> (try split) <;> omega
    by_cases hd : isDig c = true
    ·have hr := (isDig_iff c).1 hd
     have hpl : pS i < (vS s i).length := by rw [hlv]; exact hps
     obtain ⟨u, hu⟩ : ∃ u, u = (vS s i).getD (pS i) 0 := ⟨_, rfl⟩
     have hum : u ∈ vS s i := by rw [hu, List.getD_eq_getElem?_getD, List.getElem?_eq_getElem hpl]; exact List.getElem_mem hpl
     have hu10 := hv u hum
     have hu9 : u < 10000000000 := Nat.lt_of_lt_of_le hu10 (Nat.le_trans (Nat.pow_le_pow_right (by decide) (show i ≤ 10 by omega)) (by decide))
     have hgu : (i64AV (vS s i))[pS i]? = some (.int .i64 (u : Nat)) := by
      rw [hu, List.getD_eq_getElem?_getD, List.getElem?_eq_getElem hpl]; exact i64AV_get hpl
     have hv1 : vS s (i + 1) = (vS s i).set (pS i) (10 * u + (c.toNat - 48)) := by rw [vS, if_neg hsep, hcd, hu]
     have hst : S (i + 1) = ⟨[(0, .str s), (2, .ptr 0 0 0), (4, .ptr 1 0 0), (5, .sl 2 0 0 3 true), (6, .int .i64 (pS i : Nat)), (7, .int .i64 ((i + 1 : Nat) : Int))], [O, O, .cells ((i64AV (vS s i)).set (pS i) (.int .i64 ((10 * u + (c.toNat - 48) : Nat) : Int))) 0 1 true (some 3)]⟩ := by
      simp only [S, hv1, hp1, i64AV_set]
     have hvt : ∀ x ∈ vS s (i + 1), x < 10 ^ (i + 1) := fun x hx => by
      rw [hv1] at hx
      rcases List.mem_or_eq_of_mem_set hx with hx | rfl
      ·exact Nat.lt_of_lt_of_le (hv x hx) (Nat.pow_le_pow_right (by decide) (by omega))
      ·rw [Nat.pow_succ]; omega
     have hil5 : (i64AV (vS s i)).length = 3 := by rw [i64AV_length]; exact hlv
     refine W.seq (W.seq (W.region ?_))
     refine z_p ?_
     refine z_T (show ((i : Nat) : Int) < 10 by omega) ?_
     refine WL.nil ?_
     refine W.cond_true rfl (W.skip ?_)
     refine W.seq (W.block ?_)
     refine W.seq (W.seq (W.region ?_))
     refine z_p ?_
     refine sq (v_pure rfl) (show _ = AV.bool false from congrArg AV.bool n4) rfl rfl rfl ?_
     refine z_p ?_
     refine z_p ?_
     refine sq (v_pure rfl) (show _ = AV.bool false from congrArg AV.bool n7) rfl rfl rfl ?_
     refine z_p ?_
     refine WL.nil ?_
     refine W.cond_false rfl (W.skip ?_)
     refine W.seq (W.seq (W.region ?_))
     refine z_p ?_
     refine z_p ?_
     refine sp (v_index_str rfl rfl rfl rfl rfl (by omega) hcs) rfl rfl rfl ?_
     refine z_F (show ¬ (c.toNat : Int) < 48 by omega) ?_
     refine z_p ?_
     refine z_p ?_
     refine z_p ?_
     refine sp (v_index_str rfl rfl rfl rfl rfl (by omega) hcs) rfl rfl rfl ?_
     refine z_F (show ¬ (c.toNat : Int) > 57 by omega) ?_
     refine z_p ?_
     refine WL.nil ?_
     refine W.cond_false rfl (W.skip ?_)
     refine W.drawnR mixed [44, 45, 46, 47, 48, 49, 50, 51, 52, 53, 54, 55, 56] (by kernel_rfl) ?_
     apply DrawFrom.stepR
     ·intro more
      refine z_p ?_
      exact z_e
     apply DrawFrom.stepR
     ·intro more
      refine z_p ?_
      exact z_e
     apply DrawFrom.stepR
     ·intro more
      refine z_p ?_
      exact z_e
     apply DrawFrom.stepR
     ·intro more
      refine z_p ?_
      exact z_e
     apply DrawFrom.stepR
     ·intro more
      refine sq (v_indexAddr rfl rfl rfl rfl rfl rfl rfl (by omega) (by omega)) (show _ = AV.ptr 2 0 (pS i) from congrArg (AV.ptr 2 0) (show 0 + ((pS i : Nat) : Int).toNat * 1 = pS i by omega)) rfl rfl rfl ?_
      exact z_e
     apply DrawFrom.stepR
     ·intro more
      refine sp (v_load rfl rfl rfl rfl hgu) rfl rfl rfl ?_
      exact z_e
     apply DrawFrom.stepR
     ·intro more
      refine z_i ?_
      exact z_e
     apply DrawFrom.stepR
     ·intro more
      refine z_p ?_
      exact z_e
     apply DrawFrom.stepR
     ·intro more
      refine z_p ?_
      exact z_e
     apply DrawFrom.stepR
     ·intro more
      refine sp (v_index_str rfl rfl rfl rfl rfl (by omega) hcs) rfl rfl rfl ?_
      exact z_e
     apply DrawFrom.stepR
     ·intro more
      refine sp (v_cvt rfl rfl rfl rfl rfl (by first | rfl | (rw [IntKind.wrap_i64]; omega) | (rw [IntKind.wrap_u64]; omega) | (rw [IntKind.wrap_u8]; omega) | (rw [IntKind.wrap_i32]; omega))) rfl rfl rfl ?_
      exact z_e
     apply DrawFrom.stepR
     ·intro more
      refine z_i ?_
      exact z_e
     apply DrawFrom.stepR
     ·intro more
      refine sq (v_i64 rfl rfl rfl rfl (by omega) (by omega)) (show _ = AV.int .i64 ((10 * u + (c.toNat - 48) : Nat) : Int) from congrArg (AV.int .i64) (by omega)) rfl rfl rfl ?_
      exact z_e
     refine DrawFrom.doneR (rfl : _ = (_, _) :: (_, _) :: (_, _) :: (_, _) :: (_, _) :: (_, _) :: (_, _) :: (_, _) :: (_, _) :: (_, _) :: (_, _) :: (_, _) :: (_, _) :: _) ?_
     refine sq (v_indexAddr rfl rfl rfl rfl rfl rfl rfl (by omega) (by omega)) (show _ = AV.ptr 2 0 (pS i) from congrArg (AV.ptr 2 0) (show 0 + ((pS i : Nat) : Int).toNat * 1 = pS i by omega)) rfl rfl rfl ?_
     refine ss (a_store1 rfl rfl rfl rfl trivial (fun _ => rfl) rfl rfl (by omega)) (rfl : _ = [_, _, _]) rfl rfl ?_
     refine WL.nil ?_
     refine W.region ?_
     refine z_p ?_
     refine sq (v_i64 rfl rfl rfl rfl (by omega) (by omega)) (show _ = AV.int .i64 ((i + 1 : Nat) : Int) from rfl) rfl rfl rfl ?_
     refine z_p ?_
     refine WL.nil ?_
     exact ⟨10 - (i + 1), _, _, by omega, ⟨i + 1, by omega, rfl, by rw [hg1]; exact hd, hvt, hst.symm⟩, (by refine ⟨?_, ?_, rfl, Nat.le_of_ble_eq_true rfl⟩ <;> repeat (first | exact trivial | exact rfl | refine ⟨rfl, ?_⟩ | refine ⟨.inr ⟨rfl, ?_⟩, ?_⟩ | refine ⟨.inl rfl, ?_⟩))⟩
    ·have hd' : isDig c = false := by simpa using hd
     have hno := hmono (by rw [hg1]; exact hd')
     have hr : c.toNat < 48 ∨ 57 < c.toNat := by
      rcases Nat.lt_or_ge c.toNat 48 with h | h
      ·exact .inl h
      ·right
       rcases Nat.lt_or_ge 57 c.toNat with h2 | h2
       ·exact h2
       ·exact absurd ((isDig_iff c).2 ⟨h, h2⟩) hd
     rcases hr with hr | hr
     ·skip
      refine W.seq (W.seq (W.region ?_))
      refine z_p ?_
      refine z_T (show ((i : Nat) : Int) < 10 by omega) ?_
      refine WL.nil ?_
      refine W.cond_true rfl (W.skip ?_)
      refine W.seq (W.block ?_)
      refine W.seq (W.seq (W.region ?_))
      refine z_p ?_
      refine sq (v_pure rfl) (show _ = AV.bool false from congrArg AV.bool n4) rfl rfl rfl ?_
      refine z_p ?_
      refine z_p ?_
      refine sq (v_pure rfl) (show _ = AV.bool false from congrArg AV.bool n7) rfl rfl rfl ?_
      refine z_p ?_
      refine WL.nil ?_
      refine W.cond_false rfl (W.skip ?_)
      refine W.seq (W.seq (W.region ?_))
      refine z_p ?_
      refine z_p ?_
      refine sp (v_index_str rfl rfl rfl rfl rfl (by omega) hcs) rfl rfl rfl ?_
      refine z_T (show (c.toNat : Int) < 48 by omega) ?_
      refine z_p ?_
      refine z_o ?_
      refine z_o ?_
      refine z_o ?_
      refine z_o ?_
      refine z_p ?_
      refine WL.nil ?_
      refine W.cond_true rfl ?_
      refine W.seq (W.region ?_)
      first | refine z_l3 ?_ | refine z_r3 ?_
      refine z_s [_, _, _] ?_
      refine z_p ?_
      refine WL.nil ?_
      exact W.ret (fin rfl (.shut (.plain rfl) (.shut (.plain rfl) .nil)) (hbad hno).symm)
     ·skip
      refine W.seq (W.seq (W.region ?_))
      refine z_p ?_
      refine z_T (show ((i : Nat) : Int) < 10 by omega) ?_
      refine WL.nil ?_
      refine W.cond_true rfl (W.skip ?_)
      refine W.seq (W.block ?_)
      refine W.seq (W.seq (W.region ?_))
      refine z_p ?_
      refine sq (v_pure rfl) (show _ = AV.bool false from congrArg AV.bool n4) rfl rfl rfl ?_
      refine z_p ?_
      refine z_p ?_
      refine sq (v_pure rfl) (show _ = AV.bool false from congrArg AV.bool n7) rfl rfl rfl ?_
      refine z_p ?_
      refine WL.nil ?_
      refine W.cond_false rfl (W.skip ?_)
      refine W.seq (W.seq (W.region ?_))
      refine z_p ?_
      refine z_p ?_
      refine sp (v_index_str rfl rfl rfl rfl rfl (by omega) hcs) rfl rfl rfl ?_
      refine z_F (show ¬ (c.toNat : Int) < 48 by omega) ?_
      refine z_p ?_
      refine z_p ?_
      refine z_p ?_
      refine sp (v_index_str rfl rfl rfl rfl rfl (by omega) hcs) rfl rfl rfl ?_
      refine z_T (show (c.toNat : Int) > 57 by omega) ?_
      refine z_p ?_
      refine WL.nil ?_
      refine W.cond_true rfl ?_
      refine W.seq (W.region ?_)
      first | refine z_l3 ?_ | refine z_r3 ?_
      refine z_s [_, _, _] ?_
      refine z_p ?_
      refine WL.nil ?_
      exact W.ret (fin rfl (.shut (.plain rfl) (.shut (.plain rfl) .nil)) (hbad hno).symm)
  ·have hie : i = 10 := by omega
   subst hie
   have hok : okD s = true := by rw [gS_ten hl]; exact hg
   have hrt := right_spec (yD s) (mD s) (kD s)
   have hS : S 10 = ⟨[(0, .str s), (2, .ptr 0 0 0), (4, .ptr 1 0 0), (5, .sl 2 0 0 3 true), (6, .int .i64 (pS 10 : Nat)), (7, .int .i64 ((10 : Nat) : Int))], [O, O, .cells [.int .i64 (yD s : Nat), .int .i64 (mD s : Nat), .int .i64 (kD s : Nat)] 0 1 true (some 3)]⟩ := by
    simp only [S, vS_ten hl]; rfl
   rw [hS]
   by_cases hr : rightF (yD s) (mD s) (kD s) = true
   ·rw [hr] at hrt
    have e0 : errD s = 0 := by rw [errD, if_pos hok, if_pos hr]
    refine W.seq (W.seq (W.region ?_))
    refine z_p ?_
    refine z_F (show ¬ ((10 : Nat) : Int) < 10 by decide) ?_
    refine WL.nil ?_
    refine W.cond_false rfl (W.exit ?_)
    refine W.seq (W.middleS mixed [(8, .cells [.int .i64 0, .int .i64 0, .int .i64 0] 1 1 false none)] [58, 59, 60, 61, 62, 63, 64, 65, 66, 67, 8] [] [] [0, 1, 2, 3, 4, 5, 6, 7, 8, 9, 10] 0 rfl rfl rfl rfl rfl rfl rfl rfl rfl rfl ?_)
    apply MidVS.step
    ·rfl
    ·intro mo more
     refine z_p ?_
     exact z_e
    apply MidVS.step
    ·rfl
    ·intro mo more
     first | refine sp (v_indexAddr rfl rfl rfl rfl rfl rfl rfl (by omega) (by omega)) rfl rfl rfl ?_ | refine sp (v_indexAddr_row rfl rfl rfl rfl rfl rfl (by omega) (by omega) (by assumption)) rfl rfl rfl ?_
     exact z_e
    apply MidVS.step
    ·rfl
    ·intro mo more
     first | refine z_l ?_ | refine z_r ?_
     exact z_e
    apply MidVS.step
    ·rfl
    ·intro mo more
     refine z_p ?_
     exact z_e
    apply MidVS.step
    ·rfl
    ·intro mo more
     first | refine sp (v_indexAddr rfl rfl rfl rfl rfl rfl rfl (by omega) (by omega)) rfl rfl rfl ?_ | refine sp (v_indexAddr_row rfl rfl rfl rfl rfl rfl (by omega) (by omega) (by assumption)) rfl rfl rfl ?_
     exact z_e
    apply MidVS.step
    ·rfl
    ·intro mo more
     first | refine z_l ?_ | refine z_r ?_
     exact z_e
    apply MidVS.step
    ·rfl
    ·intro mo more
     refine z_p ?_
     exact z_e
    apply MidVS.step
    ·rfl
    ·intro mo more
     first | refine sp (v_indexAddr rfl rfl rfl rfl rfl rfl rfl (by omega) (by omega)) rfl rfl rfl ?_ | refine sp (v_indexAddr_row rfl rfl rfl rfl rfl rfl (by omega) (by omega) (by assumption)) rfl rfl rfl ?_
     exact z_e
    apply MidVS.step
    ·rfl
    ·intro mo more
     first | refine z_l ?_ | refine z_r ?_
     exact z_e
    apply MidVS.step
    ·rfl
    ·intro mo more
     refine sq (v_build rfl rfl rfl rfl rfl rfl rfl) (rfl : _ = AV.agg [_, _, _]) rfl rfl rfl ?_
     exact z_e
    refine MidVS.alloc 0 3 rfl rfl rfl rfl rfl rfl rfl rfl rfl rfl ?_
    refine MidVS.done ?_
    refine MidP.done ?_
    refine MidMP.done ?_
    refine MidFS.done ?_
    refine z_s [_, _, _, _] ?_
    refine WL.nil ?_
    refine W.seq (W.region ?_)
    first | refine z_l3 ?_ | refine z_r3 ?_
    refine z_c (hrt) ?_
    refine z_p ?_
    refine WL.nil ?_
    refine W.seq (W.seq (W.region ?_))
    refine z_p ?_
    refine z_p ?_
    refine WL.nil ?_
    refine W.cond_false rfl (W.skip ?_)
    refine W.seq (W.region ?_)
    first | refine z_l3 ?_ | refine z_r3 ?_
    refine z_s [_, _, _, _] ?_
    refine z_p ?_
    refine WL.nil ?_
    exact W.ret (fin rfl (.shut (.plain rfl) (.shut (.plain rfl) .nil)) (by rw [parD, if_pos e0, e0]; rfl))
   ·have hr' : rightF (yD s) (mD s) (kD s) = false := by simpa using hr
    rw [hr'] at hrt
    have e0 : errD s = 11 := by rw [errD, if_pos hok, if_neg hr]
    refine W.seq (W.seq (W.region ?_))
    refine z_p ?_
    refine z_F (show ¬ ((10 : Nat) : Int) < 10 by decide) ?_
    refine WL.nil ?_
    refine W.cond_false rfl (W.exit ?_)
    refine W.seq (W.middleS mixed [(8, .cells [.int .i64 0, .int .i64 0, .int .i64 0] 1 1 false none)] [58, 59, 60, 61, 62, 63, 64, 65, 66, 67, 8] [] [] [0, 1, 2, 3, 4, 5, 6, 7, 8, 9, 10] 0 rfl rfl rfl rfl rfl rfl rfl rfl rfl rfl ?_)
    apply MidVS.step
    ·rfl
    ·intro mo more
     refine z_p ?_
     exact z_e
    apply MidVS.step
    ·rfl
    ·intro mo more
     first | refine sp (v_indexAddr rfl rfl rfl rfl rfl rfl rfl (by omega) (by omega)) rfl rfl rfl ?_ | refine sp (v_indexAddr_row rfl rfl rfl rfl rfl rfl (by omega) (by omega) (by assumption)) rfl rfl rfl ?_
     exact z_e
    apply MidVS.step
    ·rfl
    ·intro mo more
     first | refine z_l ?_ | refine z_r ?_
     exact z_e
    apply MidVS.step
    ·rfl
    ·intro mo more
     refine z_p ?_
     exact z_e
    apply MidVS.step
    ·rfl
    ·intro mo more
     first | refine sp (v_indexAddr rfl rfl rfl rfl rfl rfl rfl (by omega) (by omega)) rfl rfl rfl ?_ | refine sp (v_indexAddr_row rfl rfl rfl rfl rfl rfl (by omega) (by omega) (by assumption)) rfl rfl rfl ?_
     exact z_e
    apply MidVS.step
    ·rfl
    ·intro mo more
     first | refine z_l ?_ | refine z_r ?_
     exact z_e
    apply MidVS.step
    ·rfl
    ·intro mo more
     refine z_p ?_
     exact z_e
    apply MidVS.step
    ·rfl
    ·intro mo more
     first | refine sp (v_indexAddr rfl rfl rfl rfl rfl rfl rfl (by omega) (by omega)) rfl rfl rfl ?_ | refine sp (v_indexAddr_row rfl rfl rfl rfl rfl rfl (by omega) (by omega) (by assumption)) rfl rfl rfl ?_
     exact z_e
    apply MidVS.step
    ·rfl
    ·intro mo more
     first | refine z_l ?_ | refine z_r ?_
     exact z_e
    apply MidVS.step
    ·rfl
    ·intro mo more
     refine sq (v_build rfl rfl rfl rfl rfl rfl rfl) (rfl : _ = AV.agg [_, _, _]) rfl rfl rfl ?_
     exact z_e
    refine MidVS.alloc 0 3 rfl rfl rfl rfl rfl rfl rfl rfl rfl rfl ?_
    refine MidVS.done ?_
    refine MidP.done ?_
    refine MidMP.done ?_
    refine MidFS.done ?_
    refine z_s [_, _, _, _] ?_
    refine WL.nil ?_
    refine W.seq (W.region ?_)
    first | refine z_l3 ?_ | refine z_r3 ?_
    refine z_c (hrt) ?_
    refine z_p ?_
    refine WL.nil ?_
    refine W.seq (W.seq (W.region ?_))
    refine z_p ?_
    refine z_p ?_
    refine WL.nil ?_
    refine W.cond_true rfl ?_
    refine W.seq (W.region ?_)
    first | refine z_l3 ?_ | refine z_r3 ?_
    refine z_s [_, _, _, _] ?_
    refine z_p ?_
    refine WL.nil ?_
    exact W.ret (fin rfl (.shut (.plain rfl) (.shut (.plain rfl) .nil)) (by rw [parD, e0, if_neg (by decide)]; rfl))
 ·have hno : okD s = false := by rw [okD, show (s.length == 10) = false by simpa using hl]; simp
  refine W.seq (W.region ?_)
  refine z_a 0 [_] ?_
  refine z_p ?_
  refine WL.nil ?_
  refine W.seq (W.region ?_)
  refine sq (v_build rfl rfl rfl rfl rfl rfl rfl) (rfl : _ = AV.agg [_, _, _]) rfl rfl rfl ?_
  refine z_a 1 [_, _] ?_
  refine z_s [_, _] ?_
  refine WL.nil ?_
  refine W.seq (W.seq (W.region ?_))
  refine z_p ?_
  refine sp (v_len rfl rfl rfl rfl rfl trivial) rfl rfl rfl ?_
  refine sq (v_pure rfl) (show _ = AV.bool true from congrArg AV.bool (by rw [bne_iff_ne]; omega)) rfl rfl rfl ?_
  refine WL.nil ?_
  refine W.cond_true rfl ?_
  refine W.seq (W.region ?_)
  first | refine z_l3 ?_ | refine z_r3 ?_
  refine z_s [_, _] ?_
  refine z_p ?_
  refine WL.nil ?_
  exact W.ret (fin rfl (.shut (.plain rfl) (.shut (.plain rfl) .nil)) (hbad hno).symm)
end Go.Proofs.YtejpblopbdgkaaaGreatDoor

set_option linter.unusedVariables false
set_option linter.unusedSimpArgs false
namespace Go.Proofs.YtejpblopbdgkaaaGreatDoor
open Go Go.Lens
theorem take_nextW {s : List (List UInt8)} {i : Nat} {c : List UInt8} (hc : s[i]? = some c) : s.take (i + 1) = s.take i ++ [c] := by
 obtain ⟨h1, h2⟩ := List.getElem?_eq_some_iff.1 hc
 rw [List.take_succ_eq_append_getElem h1, h2]
theorem rSplit_spec (s : List UInt8) (hs : s.length ≤ 1000000000) : Does Tryz.prog 101 [.str s] (.row (strsAV (splitF 32 s)) (splitF 32 s).length) := by
 refine does tab_ok Tryz.func101 rfl rfl rfl rfl rfl fun w0 H0 hk hj => ?_
 refine W.slots 1 (show W _ _ ⟨_, [.slot]⟩ _ from ?_)
 refine W.seq (W.region ?_)
 refine z_p ?_
 refine WL.nil ?_
 refine W.seq (W.region ?_)
 refine z_p ?_
 refine WL.nil ?_
 refine W.seq (W.region ?_)
 refine z_p ?_
 refine WL.nil ?_
 refine W.seq (W.seq (W.region ?_))
 refine z_p ?_
 refine WL.nil ?_
 refine W.block ?_
 refine W.while (fun m st => ∃ (i f : Nat) (q : List (List UInt8)), i ≤ s.length + 1 ∧ m = s.length + 1 - i ∧ f ≤ i ∧ q.length ≤ i ∧ ((i ≤ s.length ∧ splitF 32 s = q ++ splitF 32 (s.drop f) ∧ (32 : UInt8) ∉ (s.drop f).take (i - f)) ∨ (i = s.length + 1 ∧ q = splitF 32 s)) ∧
   st = ⟨[(0, .str s), (3, gV 0 q.length), (4, .int .i64 (f : Nat)), (5, .int .i64 (i : Nat))], [gO 9 1 (strsAV q) q.length]⟩) (s.length + 1)
  ⟨0, 0, [], Nat.zero_le _, rfl, Nat.le_refl _, Nat.le_refl _, .inl ⟨Nat.zero_le _, rfl, by simp⟩, rfl⟩ (by refine ⟨?_, ?_, rfl, Nat.le_of_ble_eq_true rfl⟩ <;> repeat (first | exact trivial | exact rfl | refine ⟨rfl, ?_⟩ | refine ⟨.inr ⟨rfl, ?_⟩, ?_⟩ | refine ⟨.inl rfl, ?_⟩)) ?_
 rintro _ _ ⟨i, f, q, hi, rfl, hf, hq, hc, rfl⟩
 by_cases hil : i ≤ s.length
 ·obtain ⟨hsp, hno⟩ : splitF 32 s = q ++ splitF 32 (s.drop f) ∧ (32 : UInt8) ∉ (s.drop f).take (i - f) := by
   rcases hc with ⟨_, h⟩ | ⟨h, _⟩
   ·exact h
   ·omega
  have put : ∀ (t : List UInt8), t = (s.drop f).take (i - f) → (i = s.length ∨ s[i]? = some 32) → ((i + 1 ≤ s.length ∧ splitF 32 s = (q ++ [t]) ++ splitF 32 (s.drop (i + 1)) ∧ (32 : UInt8) ∉ (s.drop (i + 1)).take (i + 1 - (i + 1))) ∨ (i + 1 = s.length + 1 ∧ q ++ [t] = splitF 32 s)) := by
   intro t ht hcase
   by_cases hie : i = s.length
   ·right
    refine ⟨by omega, ?_⟩
    have h1 : (s.drop f).take (i - f) = s.drop f := List.take_of_length_le (by rw [List.length_drop]; omega)
    rw [h1] at hno ht
    rw [hsp, splitF_none hno, ht]
   ·left
    have h32 : s[i]? = some 32 := hcase.resolve_left hie
    obtain ⟨h1, h2⟩ := List.getElem?_eq_some_iff.1 h32
    refine ⟨by omega, ?_, by simp⟩
    have h3 : s.drop f = t ++ 32 :: s.drop (i + 1) := by
     have h4 : (s.drop f).drop (i - f) = 32 :: s.drop (i + 1) := by rw [List.drop_drop, show f + (i - f) = i by omega, List.drop_eq_getElem_cons h1, h2]
     rw [← h4, ht, List.take_append_drop]
    rw [hsp, h3, splitF_cons _ (ht ▸ hno)]
    simp
  have hal : ∀ t : List UInt8, (q ++ [t]).length = q.length + 1 := fun t => by simp
  have happ : ∀ t : List UInt8, strsAV q ++ [.str t] = strsAV (q ++ [t]) := fun t => by simp [strsAV]
  by_cases hie : i = s.length
  ·have hput := put _ rfl (.inl hie)
   refine W.seq (W.seq (W.region ?_))
   refine z_p ?_
   refine z_p ?_
   refine sp (v_len rfl rfl rfl rfl rfl trivial) rfl rfl rfl ?_
   refine z_T (show ((i : Nat) : Int) ≤ (s.length : Nat) by omega) ?_
   refine WL.nil ?_
   refine W.cond_true rfl (W.skip ?_)
   refine W.seq (W.block ?_)
   refine W.seq (W.region ?_)
   refine z_p ?_
   refine z_p ?_
   refine sp (v_len rfl rfl rfl rfl rfl trivial) rfl rfl rfl ?_
   refine sq (v_pure rfl) (show _ = AV.bool true from congrArg AV.bool (by rw [hie]; exact beq_self_eq_true _)) rfl rfl rfl ?_
   refine z_p ?_
   refine z_o ?_
   refine z_o ?_
   refine z_o ?_
   refine z_o ?_
   refine z_o ?_
   refine z_o ?_
   refine z_o ?_
   refine z_o ?_
   refine z_p ?_
   refine WL.nil ?_
   refine W.cond_true rfl ?_
   refine W.seq (W.region ?_)
   refine z_p ?_
   refine z_p ?_
   refine z_p ?_
   refine z_p ?_
   refine sq (v_slice_str rfl rfl rfl rfl ⟨_, _, rfl, by omega, rfl⟩ ⟨_, _, rfl, by omega, rfl⟩ (by omega) (by omega)) (show _ = AV.str ((s.drop f).take (i - f)) from rfl) rfl rfl rfl ?_
   refine sq (v_buildRow rfl rfl rfl rfl rfl rfl rfl (Nat.le_of_ble_eq_true rfl) (Nat.le_of_ble_eq_true rfl) rfl rfl rfl rfl) (rfl : _ = AV.row [_] 1) rfl rfl rfl ?_
   refine sn (v_gr (n := q.length) (ds := [.str ((s.drop f).take (i - f))]) 0 rfl rfl rfl rfl (by simp [strsAV]) rfl rfl rfl rfl rfl rfl rfl rfl (by decide) rfl (by show (q.length + 1) * 16 ≤ _; omega) (by omega)) (show _ = gV 0 (q ++ [(s.drop f).take (i - f)]).length by rw [hal]) (show _ = [gO 9 1 (strsAV (q ++ [(s.drop f).take (i - f)])) (q ++ [(s.drop f).take (i - f)]).length] by rw [← happ, hal]; rfl) rfl rfl rfl ?_
   refine z_p ?_
   refine WL.nil ?_
   refine W.region ?_
   refine z_p ?_
   refine sq (v_i64 rfl rfl rfl rfl (by omega) (by omega)) (show _ = AV.int .i64 ((i + 1 : Nat) : Int) from rfl) rfl rfl rfl ?_
   refine z_p ?_
   refine WL.nil ?_
   refine W.region ?_
   refine z_p ?_
   refine sq (v_i64 rfl rfl rfl rfl (by omega) (by omega)) (show _ = AV.int .i64 ((i + 1 : Nat) : Int) from rfl) rfl rfl rfl ?_
   refine z_p ?_
   refine WL.nil ?_
   exact ⟨s.length + 1 - (i + 1), _, _, by omega, ⟨i + 1, i + 1, _, by omega, rfl, Nat.le_refl _, by rw [hal]; omega, hput, rfl⟩, (by cases q <;> exact (by refine ⟨?_, ?_, rfl, Nat.le_of_ble_eq_true rfl⟩ <;> repeat (first | exact trivial | exact rfl | refine ⟨rfl, ?_⟩ | refine ⟨.inr ⟨rfl, ?_⟩, ?_⟩ | refine ⟨.inl rfl, ?_⟩)))⟩
  ·obtain ⟨c, hcc⟩ : ∃ c, s[i]? = some c := ⟨s[i]'(by omega), List.getElem?_eq_getElem (by omega)⟩
   have hcs : s[((i : Nat) : Int).toNat]? = some c := by rw [Int.toNat_natCast]; exact hcc
   have hmin : (if ((s.length : Nat) : Int) - 1 < ((i : Nat) : Int) then ((s.length : Nat) : Int) - 1 else ((i : Nat) : Int)) = ((i : Nat) : Int) := if_neg (by omega)
   have hne : (((i : Nat) : Int) == ((s.length : Nat) : Int)) = false := by rw [beq_eq_false_iff_ne]; omega
   by_cases h32 : c = 32
   ·have hput := put _ rfl (.inr (by rw [hcc, h32]))
    refine W.seq (W.seq (W.region ?_))
    refine z_p ?_
    refine z_p ?_
    refine sp (v_len rfl rfl rfl rfl rfl trivial) rfl rfl rfl ?_
    refine z_T (show ((i : Nat) : Int) ≤ (s.length : Nat) by omega) ?_
    refine WL.nil ?_
    refine W.cond_true rfl (W.skip ?_)
    refine W.seq (W.block ?_)
    refine W.seq (W.region ?_)
    refine z_p ?_
    refine z_p ?_
    refine sp (v_len rfl rfl rfl rfl rfl trivial) rfl rfl rfl ?_
    refine sq (v_pure rfl) (show _ = AV.bool false from congrArg AV.bool hne) rfl rfl rfl ?_
    refine z_p ?_
    refine z_p ?_
    refine z_p ?_
    refine z_p ?_
    refine sp (v_len rfl rfl rfl rfl rfl trivial) rfl rfl rfl ?_
    refine z_i ?_
    refine sq (v_min2 rfl rfl rfl) (show _ = AV.int .i64 (i : Nat) from congrArg (AV.int .i64) hmin) rfl rfl rfl ?_
    refine sp (v_index_str rfl rfl rfl rfl rfl (by omega) hcs) rfl rfl rfl ?_
    refine sq (v_pure rfl) (show _ = AV.bool true from congrArg AV.bool (by rw [h32]; rfl)) rfl rfl rfl ?_
    refine z_p ?_
    refine WL.nil ?_
    refine W.cond_true rfl ?_
    refine W.seq (W.region ?_)
    refine z_p ?_
    refine z_p ?_
    refine z_p ?_
    refine z_p ?_
    refine sq (v_slice_str rfl rfl rfl rfl ⟨_, _, rfl, by omega, rfl⟩ ⟨_, _, rfl, by omega, rfl⟩ (by omega) (by omega)) (show _ = AV.str ((s.drop f).take (i - f)) from rfl) rfl rfl rfl ?_
    refine sq (v_buildRow rfl rfl rfl rfl rfl rfl rfl (Nat.le_of_ble_eq_true rfl) (Nat.le_of_ble_eq_true rfl) rfl rfl rfl rfl) (rfl : _ = AV.row [_] 1) rfl rfl rfl ?_
    refine sn (v_gr (n := q.length) (ds := [.str ((s.drop f).take (i - f))]) 0 rfl rfl rfl rfl (by simp [strsAV]) rfl rfl rfl rfl rfl rfl rfl rfl (by decide) rfl (by show (q.length + 1) * 16 ≤ _; omega) (by omega)) (show _ = gV 0 (q ++ [(s.drop f).take (i - f)]).length by rw [hal]) (show _ = [gO 9 1 (strsAV (q ++ [(s.drop f).take (i - f)])) (q ++ [(s.drop f).take (i - f)]).length] by rw [← happ, hal]; rfl) rfl rfl rfl ?_
    refine z_p ?_
    refine WL.nil ?_
    refine W.region ?_
    refine z_p ?_
    refine sq (v_i64 rfl rfl rfl rfl (by omega) (by omega)) (show _ = AV.int .i64 ((i + 1 : Nat) : Int) from rfl) rfl rfl rfl ?_
    refine z_p ?_
    refine WL.nil ?_
    refine W.region ?_
    refine z_p ?_
    refine sq (v_i64 rfl rfl rfl rfl (by omega) (by omega)) (show _ = AV.int .i64 ((i + 1 : Nat) : Int) from rfl) rfl rfl rfl ?_
    refine z_p ?_
    refine WL.nil ?_
    exact ⟨s.length + 1 - (i + 1), _, _, by omega, ⟨i + 1, i + 1, _, by omega, rfl, Nat.le_refl _, by rw [hal]; omega, hput, rfl⟩, (by cases q <;> exact (by refine ⟨?_, ?_, rfl, Nat.le_of_ble_eq_true rfl⟩ <;> repeat (first | exact trivial | exact rfl | refine ⟨rfl, ?_⟩ | refine ⟨.inr ⟨rfl, ?_⟩, ?_⟩ | refine ⟨.inl rfl, ?_⟩)))⟩
   ·have hno' : (32 : UInt8) ∉ (s.drop f).take (i + 1 - f) := by
     have h1 : (s.drop f)[i - f]? = some c := by rw [List.getElem?_drop, show f + (i - f) = i by omega]; exact hcc
     rw [show i + 1 - f = i - f + 1 by omega, take_next h1]
     intro hm
     rcases List.mem_append.1 hm with hm | hm
     ·exact hno hm
     ·rw [List.mem_singleton] at hm; exact h32 hm.symm
    refine W.seq (W.seq (W.region ?_))
    refine z_p ?_
    refine z_p ?_
    refine sp (v_len rfl rfl rfl rfl rfl trivial) rfl rfl rfl ?_
    refine z_T (show ((i : Nat) : Int) ≤ (s.length : Nat) by omega) ?_
    refine WL.nil ?_
    refine W.cond_true rfl (W.skip ?_)
    refine W.seq (W.block ?_)
    refine W.seq (W.region ?_)
    refine z_p ?_
    refine z_p ?_
    refine sp (v_len rfl rfl rfl rfl rfl trivial) rfl rfl rfl ?_
    refine sq (v_pure rfl) (show _ = AV.bool false from congrArg AV.bool hne) rfl rfl rfl ?_
    refine z_p ?_
    refine z_p ?_
    refine z_p ?_
    refine z_p ?_
    refine sp (v_len rfl rfl rfl rfl rfl trivial) rfl rfl rfl ?_
    refine z_i ?_
    refine sq (v_min2 rfl rfl rfl) (show _ = AV.int .i64 (i : Nat) from congrArg (AV.int .i64) hmin) rfl rfl rfl ?_
    refine sp (v_index_str rfl rfl rfl rfl rfl (by omega) hcs) rfl rfl rfl ?_
    refine sq (v_pure rfl) (show _ = AV.bool false from congrArg AV.bool ((b_eqI c 32 (by decide)).trans (by simpa using h32))) rfl rfl rfl ?_
    refine z_p ?_
    refine WL.nil ?_
    refine W.cond_false rfl (W.skip ?_)
    refine W.region ?_
    refine z_p ?_
    refine sq (v_i64 rfl rfl rfl rfl (by omega) (by omega)) (show _ = AV.int .i64 ((i + 1 : Nat) : Int) from rfl) rfl rfl rfl ?_
    refine z_p ?_
    refine WL.nil ?_
    exact ⟨s.length + 1 - (i + 1), _, _, by omega, ⟨i + 1, f, q, by omega, rfl, by omega, by omega, .inl ⟨by omega, hsp, hno'⟩, rfl⟩, (by cases q <;> exact (by refine ⟨?_, ?_, rfl, Nat.le_of_ble_eq_true rfl⟩ <;> repeat (first | exact trivial | exact rfl | refine ⟨rfl, ?_⟩ | refine ⟨.inr ⟨rfl, ?_⟩, ?_⟩ | refine ⟨.inl rfl, ?_⟩)))⟩
 ·obtain ⟨hie, hqs⟩ : i = s.length + 1 ∧ q = splitF 32 s := by
   rcases hc with ⟨h, _⟩ | h
   ·omega
   ·exact h
  have hqp : 0 < q.length := by rw [hqs, splitF_length]; omega
  rw [← hqs]
  obtain ⟨n, hn⟩ : ∃ n, q.length = n + 1 := ⟨q.length - 1, by omega⟩
  have hlq : (strsAV q).length = n + 1 := by rw [strsAV_length, hn]
  rw [hn]
  refine W.seq (W.seq (W.region ?_))
  refine z_p ?_
  refine z_p ?_
  refine sp (v_len rfl rfl rfl rfl rfl trivial) rfl rfl rfl ?_
  refine z_F (show ¬ ((i : Nat) : Int) ≤ (s.length : Nat) by omega) ?_
  refine WL.nil ?_
  refine W.cond_false rfl (W.exit ?_)
  refine W.seq (W.region ?_)
  refine z_p ?_
  refine z_p ?_
  refine WL.nil ?_
  refine W.ret (fin rfl (.shut (.sl rfl (by rw [hlq]; omega) (by simp)) .nil) ?_)
  show AV.row (((strsAV q).drop 0).take ((n + 1) * 1)) (n + 1) = _
  rw [List.drop_zero, List.take_of_length_le (by rw [hlq]; omega)]
/-- the account of a word; -1: it is none's -/
def accF (s : List UInt8) : Int := if ofB s = true then ofI s else -1
theorem account_spec (s : List UInt8) : Does Tryz.prog 103 [.str s] (.int .i64 (accF s)) := by
 refine does tab_ok Tryz.func103 rfl rfl rfl rfl rfl fun w0 H0 hk hj => ?_
 refine W.seq (W.region ?_)
 refine z_p ?_
 refine WL.nil ?_
 refine W.seq (W.seq (W.region ?_))
 refine z_p ?_
 refine WL.nil ?_
 refine W.block ?_
 refine W.while (fun m st => ∃ i, i ≤ 5 ∧ m = 5 - i ∧ s ∉ wordL.take i ∧ st = ⟨[(0, .str s), (3, .int .i64 (i : Nat))], []⟩) 5
  ⟨0, by decide, rfl, by simp, rfl⟩ (by refine ⟨?_, ?_, rfl, Nat.le_of_ble_eq_true rfl⟩ <;> repeat (first | exact trivial | exact rfl | refine ⟨rfl, ?_⟩ | refine ⟨.inr ⟨rfl, ?_⟩, ?_⟩ | refine ⟨.inl rfl, ?_⟩)) ?_
 rintro _ _ ⟨i, hi, rfl, hno, rfl⟩
 by_cases hil : i < 5
 ·have hw := refWord_spec (i : Int)
  obtain ⟨h1, h2, _⟩ := word_of i hil
  by_cases he : wordF i = s
  ·skip
   refine W.seq (W.seq (W.region ?_))
   refine z_p ?_
   refine z_T (show ((i : Nat) : Int) < 5 by omega) ?_
   refine WL.nil ?_
   refine W.cond_true rfl (W.skip ?_)
   refine W.seq (W.block ?_)
   refine W.seq (W.region ?_)
   refine z_p ?_
   refine z_c (hw) ?_
   refine z_p ?_
   refine WL.nil ?_
   refine W.seq (W.region ?_)
   refine z_p ?_
   refine z_p ?_
   refine sq (v_pure rfl) (show _ = AV.bool true from congrArg AV.bool (beq_iff_eq.2 he)) rfl rfl rfl ?_
   refine WL.nil ?_
   refine W.cond_true rfl ?_
   refine W.seq (W.region ?_)
   refine z_p ?_
   refine z_p ?_
   refine WL.nil ?_
   exact W.ret (fin rfl (.shut (.plain rfl) .nil) (by rw [accF, ← he, if_pos h2, h1]; rfl))
  ·have hno' : s ∉ wordL.take (i + 1) := by
    rw [take_nextW (word_nth i hil)]
    intro hm
    rcases List.mem_append.1 hm with hm | hm
    ·exact hno hm
    ·rw [List.mem_singleton] at hm; exact he hm.symm
   refine W.seq (W.seq (W.region ?_))
   refine z_p ?_
   refine z_T (show ((i : Nat) : Int) < 5 by omega) ?_
   refine WL.nil ?_
   refine W.cond_true rfl (W.skip ?_)
   refine W.seq (W.block ?_)
   refine W.seq (W.region ?_)
   refine z_p ?_
   refine z_c (hw) ?_
   refine z_p ?_
   refine WL.nil ?_
   refine W.seq (W.region ?_)
   refine z_p ?_
   refine z_p ?_
   refine sq (v_pure rfl) (show _ = AV.bool false from congrArg AV.bool (beq_eq_false_iff_ne.2 he)) rfl rfl rfl ?_
   refine WL.nil ?_
   refine W.cond_false rfl (W.skip ?_)
   refine W.region ?_
   refine z_p ?_
   refine sq (v_i64 rfl rfl rfl rfl (by omega) (by omega)) (show _ = AV.int .i64 ((i + 1 : Nat) : Int) from rfl) rfl rfl rfl ?_
   refine z_p ?_
   refine WL.nil ?_
   exact ⟨5 - (i + 1), _, _, by omega, ⟨i + 1, by omega, rfl, hno', rfl⟩, (by refine ⟨?_, ?_, rfl, Nat.le_of_ble_eq_true rfl⟩ <;> repeat (first | exact trivial | exact rfl | refine ⟨rfl, ?_⟩ | refine ⟨.inr ⟨rfl, ?_⟩, ?_⟩ | refine ⟨.inl rfl, ?_⟩))⟩
 ·have hie : i = 5 := by omega
  subst hie
  have hb : ofB s = false := by
   rw [ofB, decide_eq_false_iff_not]; exact hno
  refine W.seq (W.seq (W.region ?_))
  refine z_p ?_
  refine z_F (show ¬ ((5 : Nat) : Int) < 5 by decide) ?_
  refine WL.nil ?_
  refine W.cond_false rfl (W.exit ?_)
  refine W.seq (W.region ?_)
  refine z_p ?_
  refine WL.nil ?_
  exact W.ret (fin rfl (.shut (.plain rfl) .nil) (by rw [accF, hb]; rfl))
/-! ### Cents, Point -/
theorem wzero_sub : Sub (.agg [.nils, .bool false]) (wAV 0) := by rw [wAV_zero]; exact Sub.agg1 Sub.nils
theorem centsZ_bad {s : List UInt8} (h : centsE s ≠ 0) : centsZ s = 0 := by rw [centsZ, if_neg h]
theorem dumpCents_spec (s : List UInt8) (hs : s.length ≤ 9223372036854775806) : Does Tryz.prog 10 [.str s] (.tup [wAV (centsZ s), .int .i64 (centsE s)]) := by
 have hp := decParse_spec s hs
 have hsc := scale_spec (decZ s) (decK s)
 have hco := coef_spec (decZ s) (decK s)
 refine does tab_ok Tryz.func10 rfl rfl rfl rfl rfl fun w0 H0 hk hj => ?_
 refine W.seq (W.region ?_)
 refine z_a 0 [_] ?_
 refine z_p ?_
 refine WL.nil ?_
 refine W.seq (W.region ?_)
 refine z_p ?_
 refine z_c (hp) ?_
 refine z_p ?_
 refine z_p ?_
 refine z_p ?_
 refine z_a 1 [_, _] ?_
 refine z_s [_, _] ?_
 refine z_p ?_
 refine WL.nil ?_
 by_cases he : decErr s = 0
 ·rw [he]
  by_cases h2 : decK s = 2
  ·have e0 : centsE s = 0 := by rw [centsE, if_pos he, if_pos h2]
   have z0 : centsZ s = decZ s := by rw [centsZ, if_pos e0]
   refine W.seq (W.block ?_)
   refine W.seq (W.region ?_)
   refine z_p ?_
   refine sq (v_pure rfl) (show _ = AV.bool false from rfl) rfl rfl rfl ?_
   refine z_p ?_
   refine WL.nil ?_
   refine W.cond_false rfl ?_
   refine W.seq (W.region ?_)
   refine sq (v_load rfl rfl rfl rfl rfl) (show _ = decAV (decZ s) (decK s) from rfl) rfl rfl rfl ?_
   refine z_c (hsc) ?_
   refine sq (v_pure rfl) (show _ = AV.bool false from congrArg AV.bool (by rw [h2]; rfl)) rfl rfl rfl ?_
   refine z_p ?_
   refine WL.nil ?_
   refine W.cond_false rfl (W.skip ?_)
   refine W.seq (W.region ?_)
   refine sq (v_load rfl rfl rfl rfl rfl) (show _ = decAV (decZ s) (decK s) from rfl) rfl rfl rfl ?_
   refine z_c (hco) ?_
   refine z_s [_, _] ?_
   refine z_p ?_
   refine WL.nil ?_
   exact W.ret (fin (cs := [wAV (decZ s), .int .i64 0]) rfl (.shut (.plain (wAV_plain _)) (.shut (.plain rfl) .nil)) (by rw [e0, z0]; rfl))
  ·have e0 : centsE s = 10 := by rw [centsE, if_pos he, if_neg h2]
   have z0 : centsZ s = 0 := centsZ_bad (by rw [e0]; decide)
   refine W.seq (W.block ?_)
   refine W.seq (W.region ?_)
   refine z_p ?_
   refine sq (v_pure rfl) (show _ = AV.bool false from rfl) rfl rfl rfl ?_
   refine z_p ?_
   refine WL.nil ?_
   refine W.cond_false rfl ?_
   refine W.seq (W.region ?_)
   refine sq (v_load rfl rfl rfl rfl rfl) (show _ = decAV (decZ s) (decK s) from rfl) rfl rfl rfl ?_
   refine z_c (hsc) ?_
   refine sq (v_pure rfl) (show _ = AV.bool true from congrArg AV.bool (by rw [bne_iff_ne]; omega)) rfl rfl rfl ?_
   refine z_p ?_
   refine WL.nil ?_
   refine W.cond_true rfl ?_
   refine W.seq (W.region ?_)
   refine sp (VStep.sub (v_build rfl rfl rfl rfl rfl rfl rfl) wzero_sub) rfl rfl rfl ?_
   refine z_s [_, _] ?_
   refine z_p ?_
   refine WL.nil ?_
   exact W.ret (fin (cs := [wAV 0, .int .i64 10]) rfl (.shut (.plain (wAV_plain _)) (.shut (.plain rfl) .nil)) (by rw [e0, z0]; rfl))
 ·have e0 : centsE s = decErr s := by rw [centsE, if_neg he]
  have z0 : centsZ s = 0 := centsZ_bad (by rw [e0]; exact he)
  refine W.seq (W.block ?_)
  refine W.seq (W.region ?_)
  refine z_p ?_
  refine sq (v_pure rfl) (show _ = AV.bool true from congrArg AV.bool (bne_iff_ne.2 he)) rfl rfl rfl ?_
  refine z_p ?_
  refine WL.nil ?_
  refine W.cond_true rfl ?_
  refine W.seq (W.region ?_)
  refine sp (VStep.sub (v_build rfl rfl rfl rfl rfl rfl rfl) wzero_sub) rfl rfl rfl ?_
  refine z_p ?_
  refine z_s [_, _] ?_
  refine z_p ?_
  refine WL.nil ?_
  exact W.ret (fin (cs := [wAV 0, .int .i64 (decErr s)]) rfl (.shut (.plain (wAV_plain _)) (.shut (.plain rfl) .nil)) (by rw [e0, z0]; rfl))
theorem dumpPoint_spec {i : Nat} {z : Int} (hz : Bd i z) (hi : i ≤ 400000) : Does Tryz.prog 9 [wAV z] (.str (dText z 2)) := by
 have hof : Does Tryz.prog 31 [wAV z, .int .i64 2] (.tup [decAV z 2, .int .i64 0]) := dOf_spec z 2
 have hp := dPrint (k := 2) hz hi (by decide)
 refine does tab_ok Tryz.func9 rfl rfl rfl rfl rfl fun w0 H0 hk hj => ?_
 refine W.seq (W.region ?_)
 first | refine z_B 0 [_] ?_ | refine sn (a_box rfl rfl (.inr ⟨trivial, rfl⟩)) (rfl : _ = AV.ptr 0 0 0) (rfl : _ = [_]) rfl rfl rfl ?_
 refine z_p ?_
 refine WL.nil ?_
 refine W.seq (W.region ?_)
 refine sq (v_load rfl rfl rfl rfl rfl) (show _ = wAV z from rfl) rfl rfl rfl ?_
 refine z_c (hof) ?_
 refine z_p ?_
 refine z_p ?_
 refine z_p ?_
 refine z_a 1 [_, _] ?_
 refine z_s [_, _] ?_
 refine z_p ?_
 refine WL.nil ?_
 refine W.seq (W.region ?_)
 refine sq (v_load rfl rfl rfl rfl rfl) (show _ = decAV z 2 from rfl) rfl rfl rfl ?_
 refine z_c (hp) ?_
 refine z_p ?_
 refine WL.nil ?_
 exact W.ret (fin rfl (.shut (.plain rfl) .nil) rfl)
theorem rPoint_spec {i : Nat} {z : Int} (hz : Bd i z) (hi : i ≤ 50000) : Does Tryz.prog 13 [rwAV z] (.str (dText z 2)) := by
 have hp := rdPrint (k := 2) hz hi (by decide)
 refine does tab_ok Tryz.func13 rfl rfl rfl rfl rfl fun w0 H0 hk hj => ?_
 refine W.seq (W.region ?_)
 first | refine z_B 0 [_] ?_ | refine sn (a_box rfl rfl (.inr ⟨trivial, rfl⟩)) (rfl : _ = AV.ptr 0 0 0) (rfl : _ = [_]) rfl rfl rfl ?_
 refine z_p ?_
 refine WL.nil ?_
 refine W.seq (W.region ?_)
 refine sq (v_load rfl rfl rfl rfl rfl) (show _ = rwAV z from rfl) rfl rfl rfl ?_
 refine sq (v_build rfl rfl rfl rfl rfl rfl rfl) (show _ = rDecAV z 2 from rfl) rfl rfl rfl ?_
 refine z_c (hp) ?_
 refine z_p ?_
 refine WL.nil ?_
 exact W.ret (fin rfl (.shut (.plain rfl) .nil) rfl)
theorem rCents_spec (s : List UInt8) (hs : s.length ≤ 1000000000) : Does Tryz.prog 11 [.str s] (.tup [rwAV (centsZ s), .int .i64 (centsE s)]) := by
 have h0 : Does Tryz.prog 36 [.int .i64 0] (rwAV 0) := rFrom_spec 0 (by decide) (by decide)
 have hp := rDecParse_spec s hs
 refine does tab_ok Tryz.func11 rfl rfl rfl rfl rfl fun w0 H0 hk hj => ?_
 refine W.seq (W.region ?_)
 refine z_a 0 [_] ?_
 refine z_p ?_
 refine WL.nil ?_
 refine W.seq (W.region ?_)
 refine sc h0 rfl rfl rfl rfl rfl (rwAV_plain _) rfl rfl rfl ?_
 refine z_a 1 [_, _] ?_
 refine z_s [_, _] ?_
 refine WL.nil ?_
 by_cases hl : 4096 < s.length
 ·have e0 : centsE s = 7 := by rw [centsE, show decErr s = 7 by rw [decErr, if_pos hl]]; rfl
  have z0 : centsZ s = 0 := centsZ_bad (by rw [e0]; decide)
  refine W.seq (W.seq (W.region ?_))
  refine z_p ?_
  refine sp (v_len rfl rfl rfl rfl rfl trivial) rfl rfl rfl ?_
  refine z_T (show ((s.length : Nat) : Int) > 4096 by omega) ?_
  refine WL.nil ?_
  refine W.cond_true rfl ?_
  refine W.seq (W.region ?_)
  refine sq (v_load rfl rfl rfl rfl rfl) (show _ = rwAV 0 from rfl) rfl rfl rfl ?_
  refine z_s [_, _] ?_
  refine z_p ?_
  refine WL.nil ?_
  exact W.ret (fin (cs := [rwAV 0, .int .i64 7]) rfl (.shut (.plain (rwAV_plain _)) (.shut (.plain rfl) .nil)) (by rw [e0, z0]; rfl))
 ·have hde : decErr s = dErr s := by rw [decErr, if_neg hl]
  by_cases he : dErr s = 0
  ·have hK : decK s = (dBehind s).length := by rw [decK, if_pos (hde.trans he)]
   have hZ : decZ s = dZ s := by rw [decZ, if_pos (hde.trans he)]; rfl
   have hR : rdAV s = rDecAV (decZ s) (decK s) := by rw [rdAV, if_pos he, hK, hZ]
   rw [hR, he] at hp
   by_cases h2 : decK s = 2
   ·have e0 : centsE s = 0 := by rw [centsE, if_pos (hde.trans he), if_pos h2]
    have z0 : centsZ s = decZ s := by rw [centsZ, if_pos e0]
    refine W.seq (W.seq (W.region ?_))
    refine z_p ?_
    refine sp (v_len rfl rfl rfl rfl rfl trivial) rfl rfl rfl ?_
    refine z_F (show ¬ ((s.length : Nat) : Int) > 4096 by omega) ?_
    refine WL.nil ?_
    refine W.cond_false rfl (W.skip ?_)
    refine W.seq (W.region ?_)
    refine z_p ?_
    refine z_c (hp) ?_
    refine z_p ?_
    refine z_p ?_
    refine z_p ?_
    refine z_a 2 [_, _, _] ?_
    refine z_s [_, _, _] ?_
    refine z_p ?_
    refine WL.nil ?_
    refine W.seq (W.seq (W.region ?_))
    refine z_p ?_
    refine sq (v_pure rfl) (show _ = AV.bool false from rfl) rfl rfl rfl ?_
    refine WL.nil ?_
    refine W.cond_false rfl (W.skip ?_)
    refine W.seq (W.seq (W.region ?_))
    first | refine z_f ?_ | refine z_g ?_
    first | refine z_l ?_ | refine z_r ?_
    refine sq (v_pure rfl) (show _ = AV.bool false from congrArg AV.bool (by rw [h2]; rfl)) rfl rfl rfl ?_
    refine WL.nil ?_
    refine W.cond_false rfl (W.skip ?_)
    refine W.seq (W.region ?_)
    first | refine z_f ?_ | refine z_g ?_
    refine sq (v_load rfl rfl rfl rfl rfl) (show _ = rwAV (decZ s) from rfl) rfl rfl rfl ?_
    refine z_s [_, _, _] ?_
    refine z_p ?_
    refine WL.nil ?_
    exact W.ret (fin (cs := [rwAV (decZ s), .int .i64 0]) rfl (.shut (.plain (rwAV_plain _)) (.shut (.plain rfl) .nil)) (by rw [e0, z0]; rfl))
   ·have e0 : centsE s = 10 := by rw [centsE, if_pos (hde.trans he), if_neg h2]
    have z0 : centsZ s = 0 := centsZ_bad (by rw [e0]; decide)
    refine W.seq (W.seq (W.region ?_))
    refine z_p ?_
    refine sp (v_len rfl rfl rfl rfl rfl trivial) rfl rfl rfl ?_
    refine z_F (show ¬ ((s.length : Nat) : Int) > 4096 by omega) ?_
    refine WL.nil ?_
    refine W.cond_false rfl (W.skip ?_)
    refine W.seq (W.region ?_)
    refine z_p ?_
    refine z_c (hp) ?_
    refine z_p ?_
    refine z_p ?_
    refine z_p ?_
    refine z_a 2 [_, _, _] ?_
    refine z_s [_, _, _] ?_
    refine z_p ?_
    refine WL.nil ?_
    refine W.seq (W.seq (W.region ?_))
    refine z_p ?_
    refine sq (v_pure rfl) (show _ = AV.bool false from rfl) rfl rfl rfl ?_
    refine WL.nil ?_
    refine W.cond_false rfl (W.skip ?_)
    refine W.seq (W.seq (W.region ?_))
    first | refine z_f ?_ | refine z_g ?_
    first | refine z_l ?_ | refine z_r ?_
    refine sq (v_pure rfl) (show _ = AV.bool true from congrArg AV.bool (by rw [bne_iff_ne]; omega)) rfl rfl rfl ?_
    refine WL.nil ?_
    refine W.cond_true rfl ?_
    refine W.seq (W.region ?_)
    refine sq (v_load rfl rfl rfl rfl rfl) (show _ = rwAV 0 from rfl) rfl rfl rfl ?_
    refine z_s [_, _, _] ?_
    refine z_p ?_
    refine WL.nil ?_
    exact W.ret (fin (cs := [rwAV 0, .int .i64 10]) rfl (.shut (.plain (rwAV_plain _)) (.shut (.plain rfl) .nil)) (by rw [e0, z0]; rfl))
  ·have e0 : centsE s = dErr s := by rw [centsE, hde, if_neg he]
   have z0 : centsZ s = 0 := centsZ_bad (by rw [e0]; exact he)
   have hR : rdAV s = rDecAV 0 0 := by rw [rdAV, if_neg he]
   rw [hR] at hp
   refine W.seq (W.seq (W.region ?_))
   refine z_p ?_
   refine sp (v_len rfl rfl rfl rfl rfl trivial) rfl rfl rfl ?_
   refine z_F (show ¬ ((s.length : Nat) : Int) > 4096 by omega) ?_
   refine WL.nil ?_
   refine W.cond_false rfl (W.skip ?_)
   refine W.seq (W.region ?_)
   refine z_p ?_
   refine z_c (hp) ?_
   refine z_p ?_
   refine z_p ?_
   refine z_p ?_
   refine z_a 2 [_, _, _] ?_
   refine z_s [_, _, _] ?_
   refine z_p ?_
   refine WL.nil ?_
   refine W.seq (W.seq (W.region ?_))
   refine z_p ?_
   refine sq (v_pure rfl) (show _ = AV.bool true from congrArg AV.bool (bne_iff_ne.2 he)) rfl rfl rfl ?_
   refine WL.nil ?_
   refine W.cond_true rfl ?_
   refine W.seq (W.region ?_)
   refine sq (v_load rfl rfl rfl rfl rfl) (show _ = rwAV 0 from rfl) rfl rfl rfl ?_
   refine z_p ?_
   refine z_s [_, _, _] ?_
   refine z_p ?_
   refine WL.nil ?_
   exact W.ret (fin (cs := [rwAV 0, .int .i64 (dErr s)]) rfl (.shut (.plain (rwAV_plain _)) (.shut (.plain rfl) .nil)) (by rw [e0, z0]; rfl))
end Go.Proofs.YtejpblopbdgkaaaGreatDoor

set_option linter.unusedVariables false
set_option linter.unusedSimpArgs false
namespace Go.Proofs.YtejpblopbdgkaaaGreatDoor
open Go Go.Lens
theorem splitF_le (c : UInt8) : ∀ s : List UInt8, ∀ x ∈ splitF c s, x.length ≤ s.length
 | [], x, h => by
  simp only [splitF, List.mem_singleton] at h
  subst h; simp
 | y :: s, x, h => by
  have ih := splitF_le c s
  have hn := splitF_ne c s
  rw [splitF] at h
  split at h
  ·rcases List.mem_cons.1 h with rfl | h
   ·simp
   ·exact Nat.le_trans (ih x h) (by simp)
  ·cases hs : splitF c s with
   | nil => exact absurd hs hn
   | cons a l =>
    rw [hs] at h ih
    simp only [List.headD_cons, List.tail_cons] at h
    rcases List.mem_cons.1 h with rfl | h
    ·have := ih a (by simp)
     simp only [List.length_cons]; omega
    ·exact Nat.le_trans (ih x (List.mem_cons_of_mem _ h)) (by simp)
theorem decZ_big {s : List UInt8} (h : decErr s = 0) : (decZ s).natAbs < bigA := by
 have h0 := h
 rw [decErr] at h
 split at h
 ·cases h
 ·rename_i hl
  have hb : dBad s = false := by
   cases hb : dBad s
   ·rfl
   ·rw [dErr, hb] at h; simp at h
  have h1 := decF_lt (dAll_digs hb)
  have h2 := dAll_length s
  have h3 : (10 : Nat) ^ (dAll s).length ≤ bigA := Nat.pow_le_pow_right (by decide) (show _ ≤ bigE by rw [dAll, List.length_append]; unfold bigE; omega)
  rw [decZ, if_pos h0]
  split <;> omega
theorem centsZ_big (s : List UInt8) : (centsZ s).natAbs < bigA := by
 rw [centsZ]
 split
 ·rename_i h; exact decZ_big (centsE_zero h).1
 ·exact bigA_pos
theorem big_le (q : Nat) (hq : 4096 ≤ 19 * q) : bigA ≤ LB ^ q := by
 have h1 : (10 : Nat) ^ 19 ≤ LB := by decide
 have h2 := Nat.pow_le_pow_left h1 q
 rw [← Nat.pow_mul] at h2
 exact Nat.le_trans (Nat.pow_le_pow_right (by decide) (by unfold bigE; omega)) h2
theorem Bd.big {z : Int} (h : z.natAbs < bigA) : Bd 216 z := Nat.lt_of_lt_of_le h (big_le 216 (by decide))
theorem Lim.big {z : Int} (h : z.natAbs < bigA) : Lim z.natAbs := Lim.small (N := 1) (by omega) (by decide)
theorem RLim.big {z : Int} (h : z.natAbs < bigA) : RLim z.natAbs := RLim.small (N := 1) (by omega) (by decide)
/-- a line's entry, as it is handed back -/
def entV (s : List UInt8) : En := if entE s = 0 then entOf s else ⟨0, 0, 0, 0, 0, []⟩
theorem entV_bad {s : List UInt8} {e : Int} (h : entE s = e) (he : e ≠ 0) : AV.tup [(entV s).av, .int .i64 (entE s)] = .tup [entryAV 0 0 0 0 0 [], .int .i64 e] := by
 have h1 : ¬ entE s = 0 := by rw [h]; exact he
 rw [entV, if_neg h1, h]; rfl
theorem entE_four {s : List UInt8} (hn : ¬ (splitF 32 s).length = 4) : entE s = 4 := by
 rw [entE]
 split
 ·rename_i h; exact absurd (by rw [h]; rfl) hn
 ·rfl
theorem dEntry_spec (s : List UInt8) (hs : s.length ≤ 1000000000) : Does Tryz.prog 59 [.str s] (.tup [(entV s).av, .int .i64 (entE s)]) := by
 have hspl := split_spec s 32 hs
 refine does tab_ok Tryz.func59 rfl rfl rfl rfl rfl fun w0 H0 hk hj => ?_
 by_cases hn : (splitF 32 s).length = 4
 ·obtain ⟨a, b, c, d, hsp⟩ : ∃ a b c d, splitF 32 s = [a, b, c, d] := by
   match splitF 32 s, hn with
   | [a, b, c, d], _ => exact ⟨a, b, c, d, rfl⟩
  have hle := splitF_le 32 s
  rw [hsp] at hle
  have la := hle a (by simp)
  have ld := hle d (by simp)
  have hE : entE s = if errD a ≠ 0 then errD a else if ofB b = true ∧ ofB c = true then centsE d else 14 := by rw [entE, hsp]
  have hO : entOf s = ⟨yD a, mD a, kD a, ofI b, ofI c, wText (decZ d)⟩ := by rw [entOf, hsp]
  have hspl' : Does Tryz.prog 97 [.str s, .str [32]] (.row [.str a, .str b, .str c, .str d] 4) := by rw [hsp] at hspl; exact hspl
  have hpa := dParse_spec a (by omega)
  have hob := of_spec2 b
  have hoc := of_spec2 c
  have hce := dumpCents_spec d (by omega)
  have hne : [AV.str a, .str b, .str c, .str d] ≠ [] := by simp
  refine W.seq (W.region ?_)
  refine z_a 0 [_] ?_
  refine z_p ?_
  refine WL.nil ?_
  refine W.seq (W.region ?_)
  refine z_p ?_
  refine z_c (hspl') ?_
  refine z_p ?_
  refine WL.nil ?_
  refine W.seq (W.seq (W.region ?_))
  refine z_p ?_
  first | refine z_n ?_ | refine z_m ?_ | refine z_k ?_
  refine sq (v_pure rfl) (show _ = AV.bool false from rfl) rfl rfl rfl ?_
  refine WL.nil ?_
  refine W.cond_false rfl (W.skip ?_)
  by_cases ea : errD a = 0
  ·have hpd : parD a = dateAV (yD a) (mD a) (kD a) := by rw [parD, if_pos ea]
   rw [hpd, ea] at hpa
   refine W.seq (W.region ?_)
   refine z_p ?_
   first | refine sp (v_indexAddr rfl rfl rfl rfl rfl rfl rfl (by omega) (by omega)) rfl rfl rfl ?_ | refine sp (v_indexAddr_row rfl rfl rfl rfl rfl rfl (by omega) (by omega) (by assumption)) rfl rfl rfl ?_
   first | refine z_l ?_ | refine z_r ?_
   refine z_c (hpa) ?_
   refine z_p ?_
   refine z_p ?_
   refine z_p ?_
   refine z_a 1 [_, _] ?_
   refine z_s [_, _] ?_
   refine z_p ?_
   refine WL.nil ?_
   refine W.seq (W.seq (W.region ?_))
   refine z_p ?_
   refine sq (v_pure rfl) (show _ = AV.bool false from rfl) rfl rfl rfl ?_
   refine WL.nil ?_
   refine W.cond_false rfl (W.skip ?_)
   refine W.seq (W.region ?_)
   refine z_p ?_
   first | refine sp (v_indexAddr rfl rfl rfl rfl rfl rfl rfl (by omega) (by omega)) rfl rfl rfl ?_ | refine sp (v_indexAddr_row rfl rfl rfl rfl rfl rfl (by omega) (by omega) (by assumption)) rfl rfl rfl ?_
   first | refine z_l ?_ | refine z_r ?_
   refine z_c (hob) ?_
   refine z_p ?_
   refine z_p ?_
   refine z_p ?_
   refine z_p ?_
   refine z_p ?_
   refine WL.nil ?_
   refine W.seq (W.region ?_)
   refine z_p ?_
   first | refine sp (v_indexAddr rfl rfl rfl rfl rfl rfl rfl (by omega) (by omega)) rfl rfl rfl ?_ | refine sp (v_indexAddr_row rfl rfl rfl rfl rfl rfl (by omega) (by omega) (by assumption)) rfl rfl rfl ?_
   first | refine z_l ?_ | refine z_r ?_
   refine z_c (hoc) ?_
   refine z_p ?_
   refine z_p ?_
   refine z_p ?_
   refine z_p ?_
   refine z_p ?_
   refine WL.nil ?_
   cases eb : ofB b with
   | false =>
    have e14 : entE s = 14 := by rw [hE, if_neg (by simp [ea]), eb]; rfl
    refine W.seq (W.seq (W.region ?_))
    refine z_p ?_
    refine z_p ?_
    refine z_p ?_
    refine z_o ?_
    refine z_o ?_
    refine z_p ?_
    refine WL.nil ?_
    refine W.cond_true rfl ?_
    refine W.seq (W.region ?_)
    refine sq (v_build rfl rfl rfl rfl rfl rfl rfl) (rfl : _ = AV.agg [_, _, _, _, _, _]) rfl rfl rfl ?_
    refine z_s [_, _] ?_
    refine z_p ?_
    refine WL.nil ?_
    exact W.ret (fin rfl (.shut (.plain rfl) (.shut (.plain rfl) .nil)) (entV_bad e14 (by decide)).symm)
   | true =>
    cases ec : ofB c with
    | false =>
     have e14 : entE s = 14 := by rw [hE, if_neg (by simp [ea]), eb, ec]; rfl
     refine W.seq (W.seq (W.region ?_))
     refine z_p ?_
     refine z_p ?_
     refine z_p ?_
     refine z_p ?_
     refine z_p ?_
     refine z_p ?_
     refine WL.nil ?_
     refine W.cond_true rfl ?_
     refine W.seq (W.region ?_)
     refine sq (v_build rfl rfl rfl rfl rfl rfl rfl) (rfl : _ = AV.agg [_, _, _, _, _, _]) rfl rfl rfl ?_
     refine z_s [_, _] ?_
     refine z_p ?_
     refine WL.nil ?_
     exact W.ret (fin rfl (.shut (.plain rfl) (.shut (.plain rfl) .nil)) (entV_bad e14 (by decide)).symm)
    | true =>
     have ee : entE s = centsE d := by rw [hE, if_neg (by simp [ea]), eb, ec]; rfl
     by_cases e0 : centsE d = 0
     ·have hz : centsZ d = decZ d := by rw [centsZ, if_pos e0]
      have hpr := wPrint (decZ d) (Lim.big (decZ_big (centsE_zero e0).1))
      rw [hz, e0] at hce
      have hv : AV.tup [(entV s).av, .int .i64 (entE s)] = .tup [entryAV (yD a) (mD a) (kD a) (ofI b) (ofI c) (wText (decZ d)), .int .i64 0] := by
       rw [entV, if_pos (ee.trans e0), ee, e0, hO]; rfl
      refine W.seq (W.seq (W.region ?_))
      refine z_p ?_
      refine z_p ?_
      refine z_p ?_
      refine z_p ?_
      refine z_p ?_
      refine z_p ?_
      refine WL.nil ?_
      refine W.cond_false rfl (W.skip ?_)
      refine W.seq (W.region ?_)
      refine z_p ?_
      first | refine sp (v_indexAddr rfl rfl rfl rfl rfl rfl rfl (by omega) (by omega)) rfl rfl rfl ?_ | refine sp (v_indexAddr_row rfl rfl rfl rfl rfl rfl (by omega) (by omega) (by assumption)) rfl rfl rfl ?_
      first | refine z_l ?_ | refine z_r ?_
      refine z_c (hce) ?_
      refine z_p ?_
      refine z_p ?_
      refine z_p ?_
      refine z_a 2 [_, _, _] ?_
      refine z_s [_, _, _] ?_
      refine z_p ?_
      refine WL.nil ?_
      refine W.seq (W.seq (W.region ?_))
      refine z_p ?_
      refine sq (v_pure rfl) (show _ = AV.bool false from rfl) rfl rfl rfl ?_
      refine WL.nil ?_
      refine W.cond_false rfl (W.skip ?_)
      refine W.seq (W.drawnR mixed [61, 62, 63, 64, 65] (by kernel_rfl) ?_)
      apply DrawFrom.stepR
      ·intro more
       refine sq (v_load rfl rfl rfl rfl rfl) (show _ = dateAV (yD a) (mD a) (kD a) from rfl) rfl rfl rfl ?_
       exact z_e
      apply DrawFrom.stepR
      ·intro more
       refine z_p ?_
       exact z_e
      apply DrawFrom.stepR
      ·intro more
       refine z_p ?_
       exact z_e
      apply DrawFrom.stepR
      ·intro more
       refine sq (v_load rfl rfl rfl rfl rfl) (show _ = wAV (decZ d) from rfl) rfl rfl rfl ?_
       exact z_e
      apply DrawFrom.stepR
      ·intro more
       refine z_c (hpr) ?_
       exact z_e
      refine DrawFrom.doneR (rfl : _ = (_, _) :: (_, _) :: (_, _) :: (_, _) :: (_, _) :: _) ?_
      refine sq (v_build rfl rfl rfl rfl rfl rfl rfl) (rfl : _ = AV.agg [_, _, _, _, _, _]) rfl rfl rfl ?_
      refine z_s [_, _, _] ?_
      refine z_p ?_
      refine WL.nil ?_
      exact W.ret (fin rfl (.shut (.plain rfl) (.shut (.plain rfl) .nil)) hv.symm)
     ·have hz : centsZ d = 0 := centsZ_bad e0
      rw [hz] at hce
      refine W.seq (W.seq (W.region ?_))
      refine z_p ?_
      refine z_p ?_
      refine z_p ?_
      refine z_p ?_
      refine z_p ?_
      refine z_p ?_
      refine WL.nil ?_
      refine W.cond_false rfl (W.skip ?_)
      refine W.seq (W.region ?_)
      refine z_p ?_
      first | refine sp (v_indexAddr rfl rfl rfl rfl rfl rfl rfl (by omega) (by omega)) rfl rfl rfl ?_ | refine sp (v_indexAddr_row rfl rfl rfl rfl rfl rfl (by omega) (by omega) (by assumption)) rfl rfl rfl ?_
      first | refine z_l ?_ | refine z_r ?_
      refine z_c (hce) ?_
      refine z_p ?_
      refine z_p ?_
      refine z_p ?_
      refine z_a 2 [_, _, _] ?_
      refine z_s [_, _, _] ?_
      refine z_p ?_
      refine WL.nil ?_
      refine W.seq (W.seq (W.region ?_))
      refine z_p ?_
      refine sq (v_pure rfl) (show _ = AV.bool true from congrArg AV.bool (bne_iff_ne.2 e0)) rfl rfl rfl ?_
      refine WL.nil ?_
      refine W.cond_true rfl ?_
      refine W.seq (W.region ?_)
      refine sq (v_build rfl rfl rfl rfl rfl rfl rfl) (rfl : _ = AV.agg [_, _, _, _, _, _]) rfl rfl rfl ?_
      refine z_p ?_
      refine z_s [_, _, _] ?_
      refine z_p ?_
      refine WL.nil ?_
      exact W.ret (fin rfl (.shut (.plain rfl) (.shut (.plain rfl) .nil)) (entV_bad ee e0).symm)
  ·have hpd : parD a = dateAV 0 0 0 := by rw [parD, if_neg ea]
   have ee : entE s = errD a := by rw [hE, if_pos ea]
   rw [hpd] at hpa
   refine W.seq (W.region ?_)
   refine z_p ?_
   first | refine sp (v_indexAddr rfl rfl rfl rfl rfl rfl rfl (by omega) (by omega)) rfl rfl rfl ?_ | refine sp (v_indexAddr_row rfl rfl rfl rfl rfl rfl (by omega) (by omega) (by assumption)) rfl rfl rfl ?_
   first | refine z_l ?_ | refine z_r ?_
   refine z_c (hpa) ?_
   refine z_p ?_
   refine z_p ?_
   refine z_p ?_
   refine z_a 1 [_, _] ?_
   refine z_s [_, _] ?_
   refine z_p ?_
   refine WL.nil ?_
   refine W.seq (W.seq (W.region ?_))
   refine z_p ?_
   refine sq (v_pure rfl) (show _ = AV.bool true from congrArg AV.bool (bne_iff_ne.2 ea)) rfl rfl rfl ?_
   refine WL.nil ?_
   refine W.cond_true rfl ?_
   refine W.seq (W.region ?_)
   refine sq (v_build rfl rfl rfl rfl rfl rfl rfl) (rfl : _ = AV.agg [_, _, _, _, _, _]) rfl rfl rfl ?_
   refine z_p ?_
   refine z_s [_, _] ?_
   refine z_p ?_
   refine WL.nil ?_
   exact W.ret (fin rfl (.shut (.plain rfl) (.shut (.plain rfl) .nil)) (entV_bad ee ea).symm)
 ·have e4 := entE_four hn
  refine W.seq (W.region ?_)
  refine z_a 0 [_] ?_
  refine z_p ?_
  refine WL.nil ?_
  refine W.seq (W.region ?_)
  refine z_p ?_
  refine sc hspl rfl rfl rfl rfl rfl (by simp [AV.plain]) rfl rfl rfl ?_
  refine z_p ?_
  refine WL.nil ?_
  refine W.seq (W.seq (W.region ?_))
  refine z_p ?_
  first | refine z_n ?_ | refine z_m ?_ | refine z_k ?_
  refine sq (v_pure rfl) (show _ = AV.bool true from congrArg AV.bool (by rw [bne_iff_ne]; omega)) rfl rfl rfl ?_
  refine WL.nil ?_
  refine W.cond_true rfl ?_
  refine W.seq (W.region ?_)
  refine sq (v_build rfl rfl rfl rfl rfl rfl rfl) (rfl : _ = AV.agg [_, _, _, _, _, _]) rfl rfl rfl ?_
  refine z_s [_] ?_
  refine z_p ?_
  refine WL.nil ?_
  exact W.ret (fin rfl (.shut (.plain rfl) (.shut (.plain rfl) .nil)) (entV_bad e4 (by decide)).symm)
theorem accF_neg {s : List UInt8} : accF s < 0 ↔ ofB s = false := by
 rw [accF]
 cases h : ofB s
 ·simp
 ·have := (isF_true.1 (word_ofD h).2).1
  simp only [if_true, reduceCtorEq, iff_false]; omega
theorem rOne_spec (s : List UInt8) (hs : s.length ≤ 1000000000) : Does Tryz.prog 61 [.str s] (.tup [(entV s).av, .int .i64 (entE s)]) := by
 have hspl := rSplit_spec s hs
 refine does tab_ok Tryz.func61 rfl rfl rfl rfl rfl fun w0 H0 hk hj => ?_
 by_cases hn : (splitF 32 s).length = 4
 ·obtain ⟨a, b, c, d, hsp⟩ : ∃ a b c d, splitF 32 s = [a, b, c, d] := by
   match splitF 32 s, hn with
   | [a, b, c, d], _ => exact ⟨a, b, c, d, rfl⟩
  have hle := splitF_le 32 s
  rw [hsp] at hle
  have la := hle a (by simp)
  have ld := hle d (by simp)
  have hE : entE s = if errD a ≠ 0 then errD a else if ofB b = true ∧ ofB c = true then centsE d else 14 := by rw [entE, hsp]
  have hO : entOf s = ⟨yD a, mD a, kD a, ofI b, ofI c, wText (decZ d)⟩ := by rw [entOf, hsp]
  have hspl' : Does Tryz.prog 101 [.str s] (.row [.str a, .str b, .str c, .str d] 4) := by rw [hsp] at hspl; exact hspl
  have hpa := rDateParse_spec a (by omega)
  have hob := account_spec b
  have hoc := account_spec c
  have hce := rCents_spec d (by omega)
  have hne : [AV.str a, .str b, .str c, .str d] ≠ [] := by simp
  refine W.seq (W.region ?_)
  refine z_a 0 [_] ?_
  refine z_p ?_
  refine WL.nil ?_
  refine W.seq (W.region ?_)
  refine sq (v_build rfl rfl rfl rfl rfl rfl rfl) (rfl : _ = AV.agg [_, _, _, _, _, _]) rfl rfl rfl ?_
  refine z_a 1 [_, _] ?_
  refine z_s [_, _] ?_
  refine WL.nil ?_
  refine W.seq (W.region ?_)
  refine z_p ?_
  refine z_c (hspl') ?_
  refine z_p ?_
  refine WL.nil ?_
  refine W.seq (W.seq (W.region ?_))
  refine z_p ?_
  first | refine z_n ?_ | refine z_m ?_ | refine z_k ?_
  refine sq (v_pure rfl) (show _ = AV.bool false from rfl) rfl rfl rfl ?_
  refine WL.nil ?_
  refine W.cond_false rfl (W.skip ?_)
  by_cases ea : errD a = 0
  ·have hpd : parD a = dateAV (yD a) (mD a) (kD a) := by rw [parD, if_pos ea]
   rw [hpd, ea] at hpa
   refine W.seq (W.region ?_)
   refine z_p ?_
   first | refine sp (v_indexAddr rfl rfl rfl rfl rfl rfl rfl (by omega) (by omega)) rfl rfl rfl ?_ | refine sp (v_indexAddr_row rfl rfl rfl rfl rfl rfl (by omega) (by omega) (by assumption)) rfl rfl rfl ?_
   first | refine z_l ?_ | refine z_r ?_
   refine z_c (hpa) ?_
   refine z_p ?_
   refine z_p ?_
   refine z_p ?_
   refine z_a 2 [_, _, _] ?_
   refine z_s [_, _, _] ?_
   refine z_p ?_
   refine WL.nil ?_
   refine W.seq (W.seq (W.region ?_))
   refine z_p ?_
   refine sq (v_pure rfl) (show _ = AV.bool false from rfl) rfl rfl rfl ?_
   refine WL.nil ?_
   refine W.cond_false rfl (W.skip ?_)
   refine W.seq (W.region ?_)
   refine z_p ?_
   first | refine sp (v_indexAddr rfl rfl rfl rfl rfl rfl rfl (by omega) (by omega)) rfl rfl rfl ?_ | refine sp (v_indexAddr_row rfl rfl rfl rfl rfl rfl (by omega) (by omega) (by assumption)) rfl rfl rfl ?_
   first | refine z_l ?_ | refine z_r ?_
   refine z_c (hob) ?_
   refine z_p ?_
   refine WL.nil ?_
   refine W.seq (W.region ?_)
   refine z_p ?_
   first | refine sp (v_indexAddr rfl rfl rfl rfl rfl rfl rfl (by omega) (by omega)) rfl rfl rfl ?_ | refine sp (v_indexAddr_row rfl rfl rfl rfl rfl rfl (by omega) (by omega) (by assumption)) rfl rfl rfl ?_
   first | refine z_l ?_ | refine z_r ?_
   refine z_c (hoc) ?_
   refine z_p ?_
   refine WL.nil ?_
   by_cases eb : ofB b = false
   ·have e14 : entE s = 14 := by rw [hE, if_neg (by simp [ea]), eb]; rfl
    refine W.seq (W.seq (W.region ?_))
    refine z_p ?_
    refine z_T (accF_neg.2 eb) ?_
    refine z_p ?_
    refine z_o ?_
    refine z_o ?_
    refine z_p ?_
    refine WL.nil ?_
    refine W.cond_true rfl ?_
    refine W.seq (W.region ?_)
    first | refine sq (v_load rfl rfl rfl rfl rfl) (rfl : _ = AV.agg [_, _, _, _, _, _]) rfl rfl rfl ?_ | refine sq (v_load_radr rfl rfl rfl rfl) (rfl : _ = AV.agg [_, _, _, _, _, _]) rfl rfl rfl ?_
    refine z_s [_, _, _] ?_
    refine z_p ?_
    refine WL.nil ?_
    exact W.ret (fin rfl (.shut (.plain rfl) (.shut (.plain rfl) .nil)) (entV_bad e14 (by decide)).symm)
   ·have eb' : ofB b = true := by simpa using eb
    have ab : accF b = ofI b := by rw [accF, if_pos eb']
    by_cases ec : ofB c = false
    ·have e14 : entE s = 14 := by rw [hE, if_neg (by simp [ea]), ec]; simp
     refine W.seq (W.seq (W.region ?_))
     refine z_p ?_
     refine z_F (fun h => eb (accF_neg.1 h)) ?_
     refine z_p ?_
     refine z_p ?_
     refine z_T (accF_neg.2 ec) ?_
     refine z_p ?_
     refine WL.nil ?_
     refine W.cond_true rfl ?_
     refine W.seq (W.region ?_)
     first | refine sq (v_load rfl rfl rfl rfl rfl) (rfl : _ = AV.agg [_, _, _, _, _, _]) rfl rfl rfl ?_ | refine sq (v_load_radr rfl rfl rfl rfl) (rfl : _ = AV.agg [_, _, _, _, _, _]) rfl rfl rfl ?_
     refine z_s [_, _, _] ?_
     refine z_p ?_
     refine WL.nil ?_
     exact W.ret (fin rfl (.shut (.plain rfl) (.shut (.plain rfl) .nil)) (entV_bad e14 (by decide)).symm)
    ·have ec' : ofB c = true := by simpa using ec
     have ac : accF c = ofI c := by rw [accF, if_pos ec']
     have ee : entE s = centsE d := by rw [hE, if_neg (by simp [ea]), eb', ec']; rfl
     by_cases e0 : centsE d = 0
     ·have hz : centsZ d = decZ d := by rw [centsZ, if_pos e0]
      have hbig := decZ_big (centsE_zero e0).1
      have hpr := rwPrint (decZ d) (RLim.big hbig) (Lim.big hbig)
      rw [hz, e0] at hce
      have hv : AV.tup [(entV s).av, .int .i64 (entE s)] = .tup [entryAV (yD a) (mD a) (kD a) (ofI b) (ofI c) (wText (decZ d)), .int .i64 0] := by
       rw [entV, if_pos (ee.trans e0), ee, e0, hO]; rfl
      rw [← ab, ← ac] at hv
      refine W.seq (W.seq (W.region ?_))
      refine z_p ?_
      refine z_F (fun h => eb (accF_neg.1 h)) ?_
      refine z_p ?_
      refine z_p ?_
      refine z_F (fun h => ec (accF_neg.1 h)) ?_
      refine z_p ?_
      refine WL.nil ?_
      refine W.cond_false rfl (W.skip ?_)
      refine W.seq (W.region ?_)
      refine z_p ?_
      first | refine sp (v_indexAddr rfl rfl rfl rfl rfl rfl rfl (by omega) (by omega)) rfl rfl rfl ?_ | refine sp (v_indexAddr_row rfl rfl rfl rfl rfl rfl (by omega) (by omega) (by assumption)) rfl rfl rfl ?_
      first | refine z_l ?_ | refine z_r ?_
      refine z_c (hce) ?_
      refine z_p ?_
      refine z_p ?_
      refine z_p ?_
      refine z_a 3 [_, _, _, _] ?_
      refine z_s [_, _, _, _] ?_
      refine z_p ?_
      refine WL.nil ?_
      refine W.seq (W.seq (W.region ?_))
      refine z_p ?_
      refine sq (v_pure rfl) (show _ = AV.bool false from rfl) rfl rfl rfl ?_
      refine WL.nil ?_
      refine W.cond_false rfl (W.skip ?_)
      refine W.seq (W.region ?_)
      refine sq (v_load rfl rfl rfl rfl rfl) (show _ = rwAV (decZ d) from rfl) rfl rfl rfl ?_
      refine z_c (hpr) ?_
      refine z_p ?_
      refine WL.nil ?_
      refine W.seq (W.region ?_)
      refine sq (v_load rfl rfl rfl rfl rfl) (show _ = dateAV (yD a) (mD a) (kD a) from rfl) rfl rfl rfl ?_
      refine z_p ?_
      refine z_p ?_
      refine z_p ?_
      refine sq (v_build rfl rfl rfl rfl rfl rfl rfl) (rfl : _ = AV.agg [_, _, _, _, _, _]) rfl rfl rfl ?_
      refine z_s [_, _, _, _] ?_
      refine z_p ?_
      refine WL.nil ?_
      exact W.ret (fin rfl (.shut (.plain rfl) (.shut (.plain rfl) .nil)) hv.symm)
     ·have hz : centsZ d = 0 := centsZ_bad e0
      rw [hz] at hce
      refine W.seq (W.seq (W.region ?_))
      refine z_p ?_
      refine z_F (fun h => eb (accF_neg.1 h)) ?_
      refine z_p ?_
      refine z_p ?_
      refine z_F (fun h => ec (accF_neg.1 h)) ?_
      refine z_p ?_
      refine WL.nil ?_
      refine W.cond_false rfl (W.skip ?_)
      refine W.seq (W.region ?_)
      refine z_p ?_
      first | refine sp (v_indexAddr rfl rfl rfl rfl rfl rfl rfl (by omega) (by omega)) rfl rfl rfl ?_ | refine sp (v_indexAddr_row rfl rfl rfl rfl rfl rfl (by omega) (by omega) (by assumption)) rfl rfl rfl ?_
      first | refine z_l ?_ | refine z_r ?_
      refine z_c (hce) ?_
      refine z_p ?_
      refine z_p ?_
      refine z_p ?_
      refine z_a 3 [_, _, _, _] ?_
      refine z_s [_, _, _, _] ?_
      refine z_p ?_
      refine WL.nil ?_
      refine W.seq (W.seq (W.region ?_))
      refine z_p ?_
      refine sq (v_pure rfl) (show _ = AV.bool true from congrArg AV.bool (bne_iff_ne.2 e0)) rfl rfl rfl ?_
      refine WL.nil ?_
      refine W.cond_true rfl ?_
      refine W.seq (W.region ?_)
      first | refine sq (v_load rfl rfl rfl rfl rfl) (rfl : _ = AV.agg [_, _, _, _, _, _]) rfl rfl rfl ?_ | refine sq (v_load_radr rfl rfl rfl rfl) (rfl : _ = AV.agg [_, _, _, _, _, _]) rfl rfl rfl ?_
      refine z_p ?_
      refine z_s [_, _, _, _] ?_
      refine z_p ?_
      refine WL.nil ?_
      exact W.ret (fin rfl (.shut (.plain rfl) (.shut (.plain rfl) .nil)) (entV_bad ee e0).symm)
  ·have hpd : parD a = dateAV 0 0 0 := by rw [parD, if_neg ea]
   have ee : entE s = errD a := by rw [hE, if_pos ea]
   rw [hpd] at hpa
   refine W.seq (W.region ?_)
   refine z_p ?_
   first | refine sp (v_indexAddr rfl rfl rfl rfl rfl rfl rfl (by omega) (by omega)) rfl rfl rfl ?_ | refine sp (v_indexAddr_row rfl rfl rfl rfl rfl rfl (by omega) (by omega) (by assumption)) rfl rfl rfl ?_
   first | refine z_l ?_ | refine z_r ?_
   refine z_c (hpa) ?_
   refine z_p ?_
   refine z_p ?_
   refine z_p ?_
   refine z_a 2 [_, _, _] ?_
   refine z_s [_, _, _] ?_
   refine z_p ?_
   refine WL.nil ?_
   refine W.seq (W.seq (W.region ?_))
   refine z_p ?_
   refine sq (v_pure rfl) (show _ = AV.bool true from congrArg AV.bool (bne_iff_ne.2 ea)) rfl rfl rfl ?_
   refine WL.nil ?_
   refine W.cond_true rfl ?_
   refine W.seq (W.region ?_)
   first | refine sq (v_load rfl rfl rfl rfl rfl) (rfl : _ = AV.agg [_, _, _, _, _, _]) rfl rfl rfl ?_ | refine sq (v_load_radr rfl rfl rfl rfl) (rfl : _ = AV.agg [_, _, _, _, _, _]) rfl rfl rfl ?_
   refine z_p ?_
   refine z_s [_, _, _] ?_
   refine z_p ?_
   refine WL.nil ?_
   exact W.ret (fin rfl (.shut (.plain rfl) (.shut (.plain rfl) .nil)) (entV_bad ee ea).symm)
 ·have e4 := entE_four hn
  refine W.seq (W.region ?_)
  refine z_a 0 [_] ?_
  refine z_p ?_
  refine WL.nil ?_
  refine W.seq (W.region ?_)
  refine sq (v_build rfl rfl rfl rfl rfl rfl rfl) (rfl : _ = AV.agg [_, _, _, _, _, _]) rfl rfl rfl ?_
  refine z_a 1 [_, _] ?_
  refine z_s [_, _] ?_
  refine WL.nil ?_
  refine W.seq (W.region ?_)
  refine z_p ?_
  refine sc hspl rfl rfl rfl rfl rfl (by simp [AV.plain]) rfl rfl rfl ?_
  refine z_p ?_
  refine WL.nil ?_
  refine W.seq (W.seq (W.region ?_))
  refine z_p ?_
  first | refine z_n ?_ | refine z_m ?_ | refine z_k ?_
  refine sq (v_pure rfl) (show _ = AV.bool true from congrArg AV.bool (by rw [bne_iff_ne]; omega)) rfl rfl rfl ?_
  refine WL.nil ?_
  refine W.cond_true rfl ?_
  refine W.seq (W.region ?_)
  first | refine sq (v_load rfl rfl rfl rfl rfl) (rfl : _ = AV.agg [_, _, _, _, _, _]) rfl rfl rfl ?_ | refine sq (v_load_radr rfl rfl rfl rfl) (rfl : _ = AV.agg [_, _, _, _, _, _]) rfl rfl rfl ?_
  refine z_s [_, _] ?_
  refine z_p ?_
  refine WL.nil ?_
  exact W.ret (fin rfl (.shut (.plain rfl) (.shut (.plain rfl) .nil)) (entV_bad e4 (by decide)).symm)
end Go.Proofs.YtejpblopbdgkaaaGreatDoor

set_option linter.unusedVariables false
set_option linter.unusedSimpArgs false
namespace Go.Proofs.YtejpblopbdgkaaaGreatDoor
open Go Go.Lens
end Go.Proofs.YtejpblopbdgkaaaGreatDoor

set_option linter.unusedVariables false
set_option linter.unusedSimpArgs false
namespace Go.Proofs.YtejpblopbdgkaaaGreatDoor
open Go Go.Lens
/-! ### what comes in -/
end Go.Proofs.YtejpblopbdgkaaaGreatDoor

set_option linter.unusedVariables false
set_option linter.unusedSimpArgs false
namespace Go.Proofs.YtejpblopbdgkaaaGreatDoor
open Go Go.Lens
end Go.Proofs.YtejpblopbdgkaaaGreatDoor

set_option linter.unusedVariables false
set_option linter.unusedSimpArgs false
namespace Go.Proofs.YtejpblopbdgkaaaGreatDoor
open Go Go.Lens
theorem Bk.inX {m j n : Nat} {l : List En} {X Y Z : AObj} (h : Bk m j l X Y Z) (hm : m < n) (hj : j < n) : X.inB n = true := by
 have := fun cs ver esz own (e : X = .cells cs ver esz false own) => (e ▸ h : Bk m j l (.cells cs ver esz false own) Y Z).scoped hm hj
 obtain ⟨cv, es, rfl, _, _⟩ := h.bk
 exact this _ _ _ _ rfl
theorem Bk.inY {m j n : Nat} {l : List En} {X Y Z : AObj} (h : Bk m j l X Y Z) : Y.inB n = true := by cases h <;> rfl
theorem Bk.inZ {m j n : Nat} {l : List En} {X Y Z : AObj} (h : Bk m j l X Y Z) : Z.inB n = true := by cases h <;> rfl
end Go.Proofs.YtejpblopbdgkaaaGreatDoor
