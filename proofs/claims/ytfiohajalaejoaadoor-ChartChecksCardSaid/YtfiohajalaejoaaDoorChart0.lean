/- chart: is, Check. -/
import Derived.Test.YtfiohajalaejoaaDoorWhole0
import Derived.Test.YtfiohajalaejoaaDoorDate0
set_option linter.unusedVariables false
set_option linter.unusedSimpArgs false
namespace Go.Proofs.YtfiohajalaejoaaDoor
open Go Go.Lens

def isF (a : Int) : Bool := decide (0 ≤ a) && decide (a < 5)
theorem is_spec (a : Int) : Does Tryd.prog 27 [.int .i64 a] (.bool (isF a)) := by
  refine does tab_ok Tryd.func27 rfl rfl rfl rfl rfl fun w0 H0 hk hj => ?_
  refine W.seq (W.region ?_)
  refine sp (v_pure rfl) rfl rfl rfl ?_
  refine WL.nil ?_
  refine W.seq (W.region ?_)
  refine sp (v_pure rfl) rfl rfl rfl ?_
  refine spb (v_pure rfl) rfl rfl rfl (fun h4 => ?_) (fun h4 => ?_)
  · skip
    rw [decide_eq_true_eq] at h4
    refine sp (v_pure rfl) rfl rfl rfl ?_
    refine sp (v_pure rfl) rfl rfl rfl ?_
    refine sp (v_pure rfl) rfl rfl rfl ?_
    refine sp (v_pure rfl) rfl rfl rfl ?_
    refine sp (v_pure rfl) rfl rfl rfl ?_
    refine WL.nil ?_
    refine W.ret (fin rfl (.shut (.plain (by first | rfl | simp [plainL, AV.plain])) .nil) ?_)
    refine congrArg AV.bool ?_; rw [Bool.eq_iff_iff]; simp [isF] <;> omega
  · skip
    rw [decide_eq_false_iff_not] at h4
    refine sp (v_pure rfl) rfl rfl rfl ?_
    refine so rfl rfl rfl ?_
    refine so rfl rfl rfl ?_
    refine sp (v_pure rfl) rfl rfl rfl ?_
    refine sp (v_pure rfl) rfl rfl rfl ?_
    refine WL.nil ?_
    refine W.ret (fin rfl (.shut (.plain (by first | rfl | simp [plainL, AV.plain])) .nil) ?_)
    refine congrArg AV.bool ?_; rw [Bool.eq_iff_iff]; simp [isF] <;> omega

def wE (s : List UInt8) : Int := if (plainP s).length > 4096 then 7 else if numText (plainP s) = false then 5 else if signP s && (digs LB (decF (plainP s)) == []) then 5 else 0
def wL (s : List UInt8) : List Nat := if wE s = 0 then digs LB (decF (plainP s)) else []
def wB (s : List UInt8) : Bool := if wE s = 0 then signP s && !(digs LB (decF (plainP s)) == []) else false
theorem wholeParse_eq (s : List UInt8) : wholeParse s = .tup [wholeRow (wL s) (wB s), .int .i64 (wE s)] := by
  simp only [wholeParse, wL, wB, wE]
  by_cases h1 : (plainP s).length > 4096
  · simp [h1]
  · by_cases h2 : numText (plainP s) = false
    · simp [h1, h2]
    · by_cases h3 : (signP s && (digs LB (decF (plainP s)) == [])) = true
      · simp only [if_neg h1, if_neg h2, if_pos h3]; rfl
      · simp only [if_neg h1, if_neg h2, if_neg h3]; rfl

def entryAV (y m d db cr : Int) (am : List UInt8) : AV := .agg [.int .i64 y, .int .i64 m, .int .i64 d, .int .i64 db, .int .i64 cr, .str am]
def chartF (y m d db cr : Int) (am : List UInt8) : Int :=
  if rightF y m d = false then 11 else if isF db = false ∨ isF cr = false then 2 else if db = cr then 13 else if wE am ≠ 0 then wE am else
  if (if wL am = [] then (0 : Int) else if wB am then -1 else 1) ≤ 0 then 19 else 0

theorem chartCheck_spec (y m d db cr : Int) (am : List UInt8) (hs : am.length ≤ 9223372036854775807) : Does Tryd.prog 12 [entryAV y m d db cr am] (.int .i64 (chartF y m d db cr am)) := by
  have hw := wholeParse_spec am hs
  rw [wholeParse_eq] at hw
  refine does tab_ok Tryd.func12 rfl rfl rfl rfl rfl fun w0 H0 hk hj => ?_
  refine W.seq (W.region ?_)
  first | refine sn (a_box rfl rfl (.inl rfl)) (rfl : _ = AV.ptr 0 0 0) (rfl : _ = [_]) rfl rfl rfl ?_ | refine sn (a_box rfl rfl (.inr ⟨trivial, rfl⟩)) (rfl : _ = AV.ptr 0 0 0) (rfl : _ = [_]) rfl rfl rfl ?_
  refine sp (v_pure rfl) rfl rfl rfl ?_
  refine WL.nil ?_
  refine W.seq (W.block ?_)
  refine W.seq (W.region ?_)
  first | refine sp (v_fieldAddr rfl rfl rfl rfl rfl rfl rfl (by decide)) rfl rfl rfl ?_ | refine sp (v_fieldAddr_radr rfl rfl rfl rfl rfl rfl (by decide)) rfl rfl rfl ?_
  first | refine sq (v_load rfl rfl rfl rfl rfl) (rfl : _ = AV.agg [_, _, _]) rfl rfl rfl ?_ | refine sq (v_load_radr rfl rfl rfl rfl) (rfl : _ = AV.agg [_, _, _]) rfl rfl rfl ?_
  refine sc (dcheck_spec y m d) rfl rfl rfl rfl (by first | rfl | simp [plainL, AV.plain]) (by first | rfl | simp [plainL, AV.plain]) rfl rfl rfl ?_
  refine sp (v_pure rfl) rfl rfl rfl ?_
  refine sp (v_pure rfl) rfl rfl rfl ?_
  refine WL.nil ?_
  refine W.cond rfl (fun hc5 => ?_) (fun hc5 => ?_)
  · rw [bne_iff_ne] at hc5
    refine W.seq (W.region ?_)
    refine sp (v_pure rfl) rfl rfl rfl ?_
    refine WL.nil ?_
    refine W.ret (fin rfl (.shut (.plain (by first | rfl | simp [plainL, AV.plain])) .nil) ?_)
    refine congrArg (AV.int .i64) ?_; clear hk hj hw; cases hr : rightF y m d <;> simp_all [chartF]
  · rw [bne_eq_false_iff_eq] at hc5
    refine W.seq (W.region ?_)
    first | refine sp (v_fieldAddr rfl rfl rfl rfl rfl rfl rfl (by decide)) rfl rfl rfl ?_ | refine sp (v_fieldAddr_radr rfl rfl rfl rfl rfl rfl (by decide)) rfl rfl rfl ?_
    first | refine sp (v_load rfl rfl rfl rfl rfl) rfl rfl rfl ?_ | refine sp (v_load_radr rfl rfl rfl rfl) rfl rfl rfl ?_
    refine sc (is_spec db) rfl rfl rfl rfl (by first | rfl | simp [plainL, AV.plain]) (by first | rfl | simp [plainL, AV.plain]) rfl rfl rfl ?_
    refine spb (v_pure rfl) rfl rfl rfl (fun h14 => ?_) (fun h14 => ?_)
    · skip
      refine sp (v_pure rfl) rfl rfl rfl ?_
      refine so rfl rfl rfl ?_
      refine so rfl rfl rfl ?_
      refine so rfl rfl rfl ?_
      refine so rfl rfl rfl ?_
      refine sp (v_pure rfl) rfl rfl rfl ?_
      refine sp (v_pure rfl) rfl rfl rfl ?_
      refine WL.nil ?_
      refine W.cond_true rfl ?_
      refine W.seq (W.region ?_)
      refine sp (v_pure rfl) rfl rfl rfl ?_
      refine WL.nil ?_
      refine W.ret (fin rfl (.shut (.plain (by first | rfl | simp [plainL, AV.plain])) .nil) ?_)
      refine congrArg (AV.int .i64) ?_; clear hk hj hw; cases hr : rightF y m d <;> simp_all [chartF]
    · skip
      refine sp (v_pure rfl) rfl rfl rfl ?_
      first | refine sp (v_fieldAddr rfl rfl rfl rfl rfl rfl rfl (by decide)) rfl rfl rfl ?_ | refine sp (v_fieldAddr_radr rfl rfl rfl rfl rfl rfl (by decide)) rfl rfl rfl ?_
      first | refine sp (v_load rfl rfl rfl rfl rfl) rfl rfl rfl ?_ | refine sp (v_load_radr rfl rfl rfl rfl) rfl rfl rfl ?_
      refine sc (is_spec cr) rfl rfl rfl rfl (by first | rfl | simp [plainL, AV.plain]) (by first | rfl | simp [plainL, AV.plain]) rfl rfl rfl ?_
      refine sp (v_pure rfl) rfl rfl rfl ?_
      refine sp (v_pure rfl) rfl rfl rfl ?_
      refine sp (v_pure rfl) rfl rfl rfl ?_
      refine WL.nil ?_
      refine W.cond rfl (fun hc10 => ?_) (fun hc10 => ?_)
      · skip
        refine W.seq (W.region ?_)
        refine sp (v_pure rfl) rfl rfl rfl ?_
        refine WL.nil ?_
        refine W.ret (fin rfl (.shut (.plain (by first | rfl | simp [plainL, AV.plain])) .nil) ?_)
        refine congrArg (AV.int .i64) ?_; clear hk hj hw; cases hr : rightF y m d <;> simp_all [chartF]
      · skip
        refine W.seq (W.region ?_)
        first | refine sp (v_fieldAddr rfl rfl rfl rfl rfl rfl rfl (by decide)) rfl rfl rfl ?_ | refine sp (v_fieldAddr_radr rfl rfl rfl rfl rfl rfl (by decide)) rfl rfl rfl ?_
        first | refine sp (v_load rfl rfl rfl rfl rfl) rfl rfl rfl ?_ | refine sp (v_load_radr rfl rfl rfl rfl) rfl rfl rfl ?_
        first | refine sp (v_fieldAddr rfl rfl rfl rfl rfl rfl rfl (by decide)) rfl rfl rfl ?_ | refine sp (v_fieldAddr_radr rfl rfl rfl rfl rfl rfl (by decide)) rfl rfl rfl ?_
        first | refine sp (v_load rfl rfl rfl rfl rfl) rfl rfl rfl ?_ | refine sp (v_load_radr rfl rfl rfl rfl) rfl rfl rfl ?_
        refine sp (v_pure rfl) rfl rfl rfl ?_
        refine sp (v_pure rfl) rfl rfl rfl ?_
        refine WL.nil ?_
        refine W.cond rfl (fun hc21 => ?_) (fun hc21 => ?_)
        · rw [beq_iff_eq] at hc21
          refine W.seq (W.region ?_)
          refine sp (v_pure rfl) rfl rfl rfl ?_
          refine WL.nil ?_
          refine W.ret (fin rfl (.shut (.plain (by first | rfl | simp [plainL, AV.plain])) .nil) ?_)
          refine congrArg (AV.int .i64) ?_; clear hk hj hw; cases hr : rightF y m d <;> simp_all [chartF]
        · rw [beq_eq_false_iff_ne] at hc21
          refine W.skip ?_
          refine W.seq (W.region ?_)
          first | refine sp (v_fieldAddr rfl rfl rfl rfl rfl rfl rfl (by decide)) rfl rfl rfl ?_ | refine sp (v_fieldAddr_radr rfl rfl rfl rfl rfl rfl (by decide)) rfl rfl rfl ?_
          first | refine sp (v_load rfl rfl rfl rfl rfl) rfl rfl rfl ?_ | refine sp (v_load_radr rfl rfl rfl rfl) rfl rfl rfl ?_
          refine sc hw rfl rfl rfl rfl (by simp [plainL, AV.plain]) (by simp [plainL, AV.plain, wholeRow_plain]) rfl rfl rfl ?_
          refine sp (v_pure rfl) rfl rfl rfl ?_
          refine sp (v_pure rfl) rfl rfl rfl ?_
          refine sp (v_pure rfl) rfl rfl rfl ?_
          refine sn (a_alloc rfl rfl rfl rfl) (rfl : _ = AV.ptr 1 0 0) (rfl : _ = [_, _]) rfl rfl rfl ?_
          refine ss (a_storeA rfl rfl rfl rfl rfl (fun h => by cases h) rfl rfl rfl (Nat.le_of_ble_eq_true rfl)) (rfl : _ = [_, _]) rfl rfl ?_
          refine sp (v_pure rfl) rfl rfl rfl ?_
          refine WL.nil ?_
          refine W.seq (W.seq (W.region ?_))
          refine sp (v_pure rfl) rfl rfl rfl ?_
          refine sp (v_pure rfl) rfl rfl rfl ?_
          refine WL.nil ?_
          refine W.cond rfl (fun hc34 => ?_) (fun hc34 => ?_)
          · rw [bne_iff_ne] at hc34
            refine W.seq (W.region ?_)
            refine sp (v_pure rfl) rfl rfl rfl ?_
            refine sp (v_pure rfl) rfl rfl rfl ?_
            refine WL.nil ?_
            refine W.ret (fin rfl (.shut (.plain (by first | rfl | simp [plainL, AV.plain])) .nil) ?_)
            refine congrArg (AV.int .i64) ?_; clear hk hj hw; cases hr : rightF y m d <;> simp_all [chartF]
          · rw [bne_eq_false_iff_eq] at hc34
            refine W.skip ?_
            refine W.seq (W.seq (W.region ?_))
            first | refine sq (v_load rfl rfl rfl rfl rfl) (rfl : _ = AV.agg [_, _]) rfl rfl rfl ?_ | refine sq (v_load_radr rfl rfl rfl rfl) (rfl : _ = AV.agg [_, _]) rfl rfl rfl ?_
            refine sc (sign_spec (wL am) (wB am)) rfl rfl rfl rfl (by first | rfl | simp [plainL, AV.plain]) (by first | rfl | simp [plainL, AV.plain]) rfl rfl rfl ?_
            refine sp (v_pure rfl) rfl rfl rfl ?_
            refine WL.nil ?_
            refine W.cond rfl (fun hc38 => ?_) (fun hc38 => ?_)
            · rw [decide_eq_true_eq] at hc38
              refine W.seq (W.region ?_)
              refine sp (v_pure rfl) rfl rfl rfl ?_
              refine WL.nil ?_
              refine W.ret (fin rfl (.shut (.plain (by first | rfl | simp [plainL, AV.plain])) .nil) ?_)
              refine congrArg (AV.int .i64) ?_; clear hk hj hw; cases hr : rightF y m d <;> simp_all [chartF]
            · rw [decide_eq_false_iff_not] at hc38
              refine W.skip ?_
              refine W.seq (W.region ?_)
              refine sp (v_pure rfl) rfl rfl rfl ?_
              refine WL.nil ?_
              refine W.ret (fin rfl (.shut (.plain (by first | rfl | simp [plainL, AV.plain])) .nil) ?_)
              refine congrArg (AV.int .i64) ?_; clear hk hj hw; cases hr : rightF y m d <;> simp_all [chartF]

end Go.Proofs.YtfiohajalaejoaaDoor
