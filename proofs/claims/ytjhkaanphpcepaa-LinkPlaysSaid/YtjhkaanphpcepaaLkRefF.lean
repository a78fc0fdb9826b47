/- The document's end: Quiet, open, fill, Send. -/
import Derived.Test.YtjhkaanphpcepaaLkInv
import Derived.Test.YtjhkaanphpcepaaLkCut
import Derived.Test.YtjhkaanphpcepaaLkPlain
import Derived.Test.YtjhkaanphpcepaaLkDue
import Derived.Test.YtjhkaanphpcepaaLkGot
set_option maxRecDepth 100000
set_option linter.unusedSimpArgs false
set_option linter.unusedVariables false
namespace Go.Proofs.Lk
open Go.Pv

def rcs (e : En) (w a : PV) : List PV := [.int .i64 e.most, .str e.rest, w, .int .i64 e.next, .int .i64 e.exp, a, .str e.read, .bool e.ack]
/-- The document's end: as an end, but for what is laid aside. -/
def rpv (e : En) (L : List Pc) : PV := .agg (rcs e (pcs e.way) (pcs L))
def rz : List PV := [.int .i64 0, .str [], .nilsl, .int .i64 0, .int .i64 0, .nilsl, .str [], .bool false]
theorem rquiet_fs (e : En) (L : List Pc) : Fsp Try.prog 30 [] 0 [rpv e L] [] 0 (.bool (decide (e.way.length = 0) && !e.ack)) := by
  cases h : decide (e.way.length = 0)
  · have h2 : ((e.way.length : Int) == 0) = false := by simp at h ⊢; omega
    have h3 : (((e.way.map Pc.pv).length : Int) == 0) = false := by rw [List.length_map]; exact h2
    (refine Fsp.of (nx := 0) mixed Try.func30 rfl (by decide) (by first | exact Nat.le_refl _ | simp) (by simp [Try.f30]) ⟨by decide, by decide⟩ ?_; simp -implicitDefEqProofs only [push_cast, Try.f30, rpv, rcs, pcs, h3, Int.reduceBEq, Int.reduceBNe, Int.reduceEq, Int.reduceNe, Int.reducePow, Nat.reduceAdd, Nat.reduceMul, Nat.reduceSub, Nat.reduceLT, Nat.reduceLeDiff, Nat.reduceEqDiff, Nat.reduceBEq, Int.reduceLT, Int.reduceLE, Int.reduceAdd, Int.reduceSub, Int.reduceMul, Int.reduceToNat, Int.reduceNeg, reduceIte, reduceCtorEq, reduceBEq])
  · have h2 : ((e.way.length : Int) == 0) = true := by simp at h ⊢; omega
    have h3 : (((e.way.map Pc.pv).length : Int) == 0) = true := by rw [List.length_map]; exact h2
    (refine Fsp.of (nx := 0) mixed Try.func30 rfl (by decide) (by first | exact Nat.le_refl _ | simp) (by simp [Try.f30]) ⟨by decide, by decide⟩ ?_; simp -implicitDefEqProofs only [push_cast, Try.f30, rpv, rcs, pcs, h3, Int.reduceBEq, Int.reduceBNe, Int.reduceEq, Int.reduceNe, Int.reducePow, Nat.reduceAdd, Nat.reduceMul, Nat.reduceSub, Nat.reduceLT, Nat.reduceLeDiff, Nat.reduceEqDiff, Nat.reduceBEq, Int.reduceLT, Int.reduceLE, Int.reduceAdd, Int.reduceSub, Int.reduceMul, Int.reduceToNat, Int.reduceNeg, reduceIte, reduceCtorEq, reduceBEq])
structure RoS (e : En) where
  i : Nat
  hi : i ≤ e.way.length
  s : Nat
  h : s + pcSum (e.way.drop i) = e.rest.length + pcSum e.way
def RoS.st (L : List Pc) {e : En} (a : RoS e) : PS := { n := 25, env := [(4, .int .i64 a.i), (3, .int .i64 a.s), (1, .box 0 0), (2, .int .i64 0)], objs := [(0, some (rcs e (pcs e.way) (pcs L)))], live := [], nxt := 60 }
theorem ropen_fs (e : En) (L : List Pc) (h1 : e.rest.length ≤ 1000000) (h2 : pcSum e.way ≤ 16000000) (h3 : e.way.length ≤ 16) : Fsp Try.prog 35 [] 0 [rpv e L] [] 0 (.int .i64 ((e.rest.length + pcSum e.way : Nat) : Int)) := by
  (refine Fsp.of (nx := 0) mixed Try.func35 rfl (by decide) (by first | exact Nat.le_refl _ | simp) (by simp [Try.f35]) ⟨by decide, by decide⟩ ?_; simp -implicitDefEqProofs only [push_cast, Try.f35, rpv, rcs, pcs, Int.reduceBEq, Int.reduceBNe, Int.reduceEq, Int.reduceNe, Int.reducePow, Nat.reduceAdd, Nat.reduceMul, Nat.reduceSub, Nat.reduceLT, Nat.reduceLeDiff, Nat.reduceEqDiff, Nat.reduceBEq, Int.reduceLT, Int.reduceLE, Int.reduceAdd, Int.reduceSub, Int.reduceMul, Int.reduceToNat, Int.reduceNeg, reduceIte, reduceCtorEq, reduceBEq])
  refine loopC_of (α := RoS e) (RoS.st L) (fun a => e.way.length - a.i) ⟨0, by omega, e.rest.length, rfl⟩ ?_ ?_
  · (simp only [RoS.st, rcs, pcs]; exact Wk.by _ _ _ [(0, 0)] [] [] (by simp) (by simp [wkV, PV.el, PV.weak, PS.get, PS.obj, PS.lv, lkp_hit, lkp_miss, lkp_nil, lko]) (by simp [PS.get, PS.obj, PS.lv, lkp_hit, lkp_miss, lkp_nil, lko, wkL, wkC, PV.weak]) (by simp [PS.get, PS.obj, PS.lv, lkp_hit, lkp_miss, lkp_nil, lko]) (by rfl) (by rfl) (by simp [lko]) (by simp) (by simp) (by simp) (fun i hi => absurd hi (Nat.not_lt_zero i)))
  · rintro ⟨i, hi, s, hs⟩
    simp -implicitDefEqProofs only [push_cast, RoS.st, rcs, pcs, Int.reduceBEq, Int.reduceBNe, Int.reduceEq, Int.reduceNe, Int.reducePow, Nat.reduceAdd, Nat.reduceMul, Nat.reduceSub, Nat.reduceLT, Nat.reduceLeDiff, Nat.reduceEqDiff, Nat.reduceBEq, Int.reduceLT, Int.reduceLE, Int.reduceAdd, Int.reduceSub, Int.reduceMul, Int.reduceToNat, Int.reduceNeg, reduceIte, reduceCtorEq, reduceBEq]
    refine condC_split (fun h4 => ?_) (fun h4 => ?_)
    · have hlt : i < e.way.length := by simpa using h4
      have hg := pcs_at hlt
      have hsum := hs
      rw [pcs_drop hlt, pcSum] at hsum
      have v1 : IntKind.i64.wrap ((i : Int) + 1) = ((i + 1 : Nat) : Int) := by (rw [wrap_i64_id (by omega) (by omega)]; rfl)
      have v2 : IntKind.i64.wrap ((s : Int) + ((e.way.getD i pc0).b.length : Int)) = ((s + (e.way.getD i pc0).b.length : Nat) : Int) := by (rw [wrap_i64_id (by omega) (by omega)]; rfl)
      simp -implicitDefEqProofs only [push_cast, hg, Pc.pv, Int.reduceBEq, Int.reduceBNe, Int.reduceEq, Int.reduceNe, Int.reducePow, Nat.reduceAdd, Nat.reduceMul, Nat.reduceSub, Nat.reduceLT, Nat.reduceLeDiff, Nat.reduceEqDiff, Nat.reduceBEq, Int.reduceLT, Int.reduceLE, Int.reduceAdd, Int.reduceSub, Int.reduceMul, Int.reduceToNat, Int.reduceNeg, reduceIte, reduceCtorEq, reduceBEq]
      refine ⟨by simpa using hlt, ?_⟩
      simp -implicitDefEqProofs only [push_cast, v1, v2, Int.reduceBEq, Int.reduceBNe, Int.reduceEq, Int.reduceNe, Int.reducePow, Nat.reduceAdd, Nat.reduceMul, Nat.reduceSub, Nat.reduceLT, Nat.reduceLeDiff, Nat.reduceEqDiff, Nat.reduceBEq, Int.reduceLT, Int.reduceLE, Int.reduceAdd, Int.reduceSub, Int.reduceMul, Int.reduceToNat, Int.reduceNeg, reduceIte, reduceCtorEq, reduceBEq]
      refine ⟨⟨i + 1, by omega, s + (e.way.getD i pc0).b.length, by omega⟩, by simp only; omega, ?_⟩
      (simp only [RoS.st, rcs, pcs]; exact Wk.by _ _ _ [(0, 0)] [] [] (by simp) (by simp [wkV, PV.el, PV.weak, PS.get, PS.obj, PS.lv, lkp_hit, lkp_miss, lkp_nil, lko]) (by simp [PS.get, PS.obj, PS.lv, lkp_hit, lkp_miss, lkp_nil, lko, wkL, wkC, PV.weak]) (by simp [PS.get, PS.obj, PS.lv, lkp_hit, lkp_miss, lkp_nil, lko]) (by rfl) (by rfl) (by simp [lko]) (by simp) (by simp) (by simp) (fun i hi => absurd hi (Nat.not_lt_zero i)))
    · have hie : i = e.way.length := by simp at h4; omega
      subst hie
      rw [List.drop_length, pcSum, Nat.add_zero] at hs
      simp -implicitDefEqProofs only [push_cast, Int.reduceBEq, Int.reduceBNe, Int.reduceEq, Int.reduceNe, Int.reducePow, Nat.reduceAdd, Nat.reduceMul, Nat.reduceSub, Nat.reduceLT, Nat.reduceLeDiff, Nat.reduceEqDiff, Nat.reduceBEq, Int.reduceLT, Int.reduceLE, Int.reduceAdd, Int.reduceSub, Int.reduceMul, Int.reduceToNat, Int.reduceNeg, reduceIte, reduceCtorEq, reduceBEq]
      omega
structure RfS (e : En) where
  c : En
  h : numL 17 c = numL 17 e
  hw : c.way.length ≤ 16
  hn : c.next - c.way.length = e.next - e.way.length
  hr : c.rest.length ≤ e.rest.length
  hm : c.most = e.most
  hx : c.exp = e.exp
  hd : c.read = e.read
  ha : c.ack = e.ack
def RfS.st (L : List Pc) {e : En} (a : RfS e) : PS := { n := 45, env := [(3, .slt 3 (a.c.way.map Pc.pv) 50), (2, .box 4 0), (1, .box 0 0)], objs := [(0, some (rcs a.c (pcs e.way) (pcs L))), (4, some rz)], live := [(50, true)], nxt := 60 }
set_option maxHeartbeats 4000000 in
theorem rfill_fs (e : En) (L : List Pc) (h1 : 0 ≤ e.most) (h2 : e.most ≤ 1000000) (h3 : e.rest.length ≤ 1000000) (h4 : e.way.length ≤ 16) (h5 : 0 ≤ e.next) (h6 : e.next ≤ 1000000000) : Fsp Try.prog 36 [] 0 [rpv e L] [] 0 (rpv e.number L) := by
  (refine Fsp.of (nx := 0) mixed Try.func36 rfl (by decide) (by first | exact Nat.le_refl _ | simp) (by simp [Try.f36]) ⟨by decide, by decide⟩ ?_; simp -implicitDefEqProofs only [push_cast, Try.f36, rpv, rcs, pcs, Int.reduceBEq, Int.reduceBNe, Int.reduceEq, Int.reduceNe, Int.reducePow, Nat.reduceAdd, Nat.reduceMul, Nat.reduceSub, Nat.reduceLT, Nat.reduceLeDiff, Nat.reduceEqDiff, Nat.reduceBEq, Int.reduceLT, Int.reduceLE, Int.reduceAdd, Int.reduceSub, Int.reduceMul, Int.reduceToNat, Int.reduceNeg, reduceIte, reduceCtorEq, reduceBEq])
  refine callE_bs ?_
  simp -implicitDefEqProofs only [push_cast, Int.reduceBEq, Int.reduceBNe, Int.reduceEq, Int.reduceNe, Int.reducePow, Nat.reduceAdd, Nat.reduceMul, Nat.reduceSub, Nat.reduceLT, Nat.reduceLeDiff, Nat.reduceEqDiff, Nat.reduceBEq, Int.reduceLT, Int.reduceLE, Int.reduceAdd, Int.reduceSub, Int.reduceMul, Int.reduceToNat, Int.reduceNeg, reduceIte, reduceCtorEq, reduceBEq]
  refine ⟨by simp; omega, by simp; omega, ?_⟩
  skip
  refine loopC_of (α := RfS e) (RfS.st L) (fun a => 16 - a.c.way.length) ⟨e, rfl, h4, rfl, Nat.le_refl _, rfl, rfl, rfl, rfl⟩ ?_ ?_
  · (simp only [RfS.st, rcs, pcs, rz]; exact Wk.by _ _ _ [(0, 0), (4, 4)] [(50, 20)] [] (by simp) (by simp [wkV, PV.el, PV.weak, PS.get, PS.obj, PS.lv, lkp_hit, lkp_miss, lkp_nil, lko]) (by simp [PS.get, PS.obj, PS.lv, lkp_hit, lkp_miss, lkp_nil, lko, wkL, wkC, PV.weak]) (by simp [PS.get, PS.obj, PS.lv, lkp_hit, lkp_miss, lkp_nil, lko]) (by rfl) (by rfl) (by simp [lko]) (by simp) (by simp) (by simp) (fun i hi => absurd hi (Nat.not_lt_zero i)))
  · rintro ⟨c, hc, hw, hn, hr, hm, hx, hd, ha⟩
    simp -implicitDefEqProofs only [push_cast, RfS.st, rcs, pcs, rz, Int.reduceBEq, Int.reduceBNe, Int.reduceEq, Int.reduceNe, Int.reducePow, Nat.reduceAdd, Nat.reduceMul, Nat.reduceSub, Nat.reduceLT, Nat.reduceLeDiff, Nat.reduceEqDiff, Nat.reduceBEq, Int.reduceLT, Int.reduceLE, Int.reduceAdd, Int.reduceSub, Int.reduceMul, Int.reduceToNat, Int.reduceNeg, reduceIte, reduceCtorEq, reduceBEq]
    refine condC_split (fun h => ?_) (fun h => ?_)
    · simp -implicitDefEqProofs only [push_cast, Int.reduceBEq, Int.reduceBNe, Int.reduceEq, Int.reduceNe, Int.reducePow, Nat.reduceAdd, Nat.reduceMul, Nat.reduceSub, Nat.reduceLT, Nat.reduceLeDiff, Nat.reduceEqDiff, Nat.reduceBEq, Int.reduceLT, Int.reduceLE, Int.reduceAdd, Int.reduceSub, Int.reduceMul, Int.reduceToNat, Int.reduceNeg, reduceIte, reduceCtorEq, reduceBEq]
      rw [List.length_map] at h
      have hl : c.way.length < 16 := by simp at h; omega
      skip
      (repeat (first | refine ⟨by (unfold drawOk; kernel_rfl), ?_⟩ | refine ⟨by split <;> omega, ?_⟩ | refine ⟨by simp; omega, ?_⟩ | refine ⟨Nat.le_refl _, ?_⟩))
      rw [wrap_i64_id (n := c.next + 1) (by omega) (by omega)]
      have hmn : c.mn.toNat ≤ c.rest.length := by unfold En.mn; split <;> omega
      refine ⟨⟨c.num1, ?_, ?_, ?_, ?_, hm, hx, hd, ha⟩, ?_, ?_⟩
      · rw [← hc, numL_stable 16 c.num1 (by simp [En.num1])]
        show _ = (if (c.rest != [] && decide ((c.way.length : Int) < 16)) = true then numL 16 c.num1 else c)
        rw [if_pos (by rw [Bool.and_comm]; exact h)]
      · simp [En.num1]; omega
      · simp [En.num1]; omega
      · simp only [En.num1, List.length_drop]; omega
      · simp [En.num1]; omega
      · rw [List.take_of_length_le (show (List.drop _ c.rest).length ≤ c.rest.length - _ by rw [List.length_drop]; exact Nat.le_refl _)]
        (simp only [RfS.st, rcs, pcs, rz, En.num1]; exact Wk.by _ _ _ [(0, 0), (4, 4)] [(50, 156)] [] (by simp) (by simp [wkV, PV.el, PV.weak, PS.get, PS.obj, PS.lv, lkp_hit, lkp_miss, lkp_nil, lko, En.mn, Pc.pv]) (by simp [PS.get, PS.obj, PS.lv, lkp_hit, lkp_miss, lkp_nil, lko, wkL, wkC, PV.weak, En.mn, Pc.pv]) (by simp [PS.get, PS.obj, PS.lv, lkp_hit, lkp_miss, lkp_nil, lko]) (by rfl) (by rfl) (by simp [lko]) (by simp) (by simp) (by simp) (fun i hi => absurd hi (Nat.not_lt_zero i)))
    · simp -implicitDefEqProofs only [push_cast, Int.reduceBEq, Int.reduceBNe, Int.reduceEq, Int.reduceNe, Int.reducePow, Nat.reduceAdd, Nat.reduceMul, Nat.reduceSub, Nat.reduceLT, Nat.reduceLeDiff, Nat.reduceEqDiff, Nat.reduceBEq, Int.reduceLT, Int.reduceLE, Int.reduceAdd, Int.reduceSub, Int.reduceMul, Int.reduceToNat, Int.reduceNeg, reduceIte, reduceCtorEq, reduceBEq]
      rw [List.length_map] at h
      rw [show e.number = c by rw [En.number, ← hc, numL, if_neg (by rw [Bool.and_comm, h]; exact Bool.false_ne_true)]]
      first | exact .inl ⟨rfl, rfl, rfl, rfl, rfl, rfl, rfl⟩ | exact ⟨_, rfl, by simp [wkL, res2, res1, PV.weak, PV.el, rpv, rcs, pcs]⟩

end Go.Proofs.Lk

/- The document's end: Send, Tick, Cut. -/
set_option maxRecDepth 100000
set_option linter.unusedSimpArgs false
set_option linter.unusedVariables false
namespace Go.Proofs.Lk
open Go.Pv

def rsendR (e : En) (L : List Pc) (b : List UInt8) : PV :=
  if (e.most == 0) = true then .tup [rpv e L, .int .i64 9]
  else if decide ((65536 : Int) < ((e.rest.length + b.length + pcSum e.way : Nat) : Int)) = true then .tup [rpv e L, .int .i64 12]
  else .tup [rpv (e.sendE b) L, .int .i64 0]
set_option maxHeartbeats 4000000 in
theorem rsend_fs (e : En) (L : List Pc) (b : List UInt8) (he : e.Ok) (hb : b.length ≤ 10000) (hr2 : e.rest.length ≤ 900000) : Fsp Try.prog 19 [] 0 [rpv e L, .str b] [] 0 (rsendR e L b) := by
  have hsl : pcSum e.way ≤ 16000000 := by
    have := pcSum_le he.wb
    have := he.w
    have : e.way.length * 1000000 ≤ 16 * 1000000 := Nat.mul_le_mul_right _ this
    omega
  have hrl := he.r
  have hwl := he.w
  have hm0 := he.m0
  have hm1 := he.m1
  have hop := ropen_fs e L hrl hsl hwl
  have hfi := rfill_fs { e with rest := e.rest ++ b } L hm0 hm1 (by simp only [List.length_append]; omega) hwl he.n0 he.n1
  rw [show ({ e with rest := e.rest ++ b } : En).number = e.sendE b from rfl] at hfi
  have v1 : IntKind.i64.wrap (((e.rest.length + pcSum e.way : Nat) : Int) + (b.length : Int)) = ((e.rest.length + b.length + pcSum e.way : Nat) : Int) := by rw [wrap_i64_id (by omega) (by omega)]; omega
  obtain ⟨T, hT⟩ : ∃ T, T = e.rest.length + b.length + pcSum e.way := ⟨_, rfl⟩
  obtain ⟨U, hU⟩ : ∃ U, U = e.rest.length + pcSum e.way := ⟨_, rfl⟩
  rw [← hT, ← hU] at v1
  rw [← hU] at hop
  rw [rsendR, ← hT]
  simp only [rpv, rcs, pcs] at hop hfi ⊢
  generalize e.sendE b = X at *
  cases h1 : (e.most == 0)
  · rw [if_neg Bool.false_ne_true]
    cases h2 : decide ((65536 : Int) < (T : Int))
    · rw [if_neg Bool.false_ne_true]
      (refine Fsp.of (nx := 0) mixed Try.func19 rfl (by decide) (by first | exact Nat.le_refl _ | simp) (by simp [Try.f19]) ⟨by decide, by decide⟩ ?_; simp -implicitDefEqProofs only [push_cast, Try.f19, rpv, rcs, pcs, h1, Int.reduceBEq, Int.reduceBNe, Int.reduceEq, Int.reduceNe, Int.reducePow, Nat.reduceAdd, Nat.reduceMul, Nat.reduceSub, Nat.reduceLT, Nat.reduceLeDiff, Nat.reduceEqDiff, Nat.reduceBEq, Int.reduceLT, Int.reduceLE, Int.reduceAdd, Int.reduceSub, Int.reduceMul, Int.reduceToNat, Int.reduceNeg, reduceIte, reduceCtorEq, reduceBEq])
      refine callE_pure hop (by rfl) (by rfl) (by rfl) (by decide) (by rfl) (fun _ => by rfl) (by first | rfl | simp [gdOk, newToks]) ?_
      simp -implicitDefEqProofs only [push_cast, v1, h2, Int.reduceBEq, Int.reduceBNe, Int.reduceEq, Int.reduceNe, Int.reducePow, Nat.reduceAdd, Nat.reduceMul, Nat.reduceSub, Nat.reduceLT, Nat.reduceLeDiff, Nat.reduceEqDiff, Nat.reduceBEq, Int.reduceLT, Int.reduceLE, Int.reduceAdd, Int.reduceSub, Int.reduceMul, Int.reduceToNat, Int.reduceNeg, reduceIte, reduceCtorEq, reduceBEq]
      (repeat (first | refine ⟨by omega, ?_⟩ | refine ⟨by (unfold drawOk; kernel_rfl), ?_⟩ | refine ⟨by simp only [List.length_map, List.length_append, List.length_take, List.length_drop]; omega, ?_⟩))
      refine callE_pure hfi (by rfl) (by rfl) (by rfl) (by decide) (by rfl) (fun _ => by rfl) (by first | rfl | simp [gdOk, newToks]) ?_
      simp -implicitDefEqProofs only [push_cast, Int.reduceBEq, Int.reduceBNe, Int.reduceEq, Int.reduceNe, Int.reducePow, Nat.reduceAdd, Nat.reduceMul, Nat.reduceSub, Nat.reduceLT, Nat.reduceLeDiff, Nat.reduceEqDiff, Nat.reduceBEq, Int.reduceLT, Int.reduceLE, Int.reduceAdd, Int.reduceSub, Int.reduceMul, Int.reduceToNat, Int.reduceNeg, reduceIte, reduceCtorEq, reduceBEq]
      all_goals first | exact .inl rfl | exact ⟨_, rfl, by simp [wkL, res2, res1, PV.weak, PV.el, rpv, rcs, pcs]⟩
    · rw [if_pos rfl]
      (refine Fsp.of (nx := 0) mixed Try.func19 rfl (by decide) (by first | exact Nat.le_refl _ | simp) (by simp [Try.f19]) ⟨by decide, by decide⟩ ?_; simp -implicitDefEqProofs only [push_cast, Try.f19, rpv, rcs, pcs, h1, Int.reduceBEq, Int.reduceBNe, Int.reduceEq, Int.reduceNe, Int.reducePow, Nat.reduceAdd, Nat.reduceMul, Nat.reduceSub, Nat.reduceLT, Nat.reduceLeDiff, Nat.reduceEqDiff, Nat.reduceBEq, Int.reduceLT, Int.reduceLE, Int.reduceAdd, Int.reduceSub, Int.reduceMul, Int.reduceToNat, Int.reduceNeg, reduceIte, reduceCtorEq, reduceBEq])
      refine callE_pure hop (by rfl) (by rfl) (by rfl) (by decide) (by rfl) (fun _ => by rfl) (by first | rfl | simp [gdOk, newToks]) ?_
      simp -implicitDefEqProofs only [push_cast, v1, h2, Int.reduceBEq, Int.reduceBNe, Int.reduceEq, Int.reduceNe, Int.reducePow, Nat.reduceAdd, Nat.reduceMul, Nat.reduceSub, Nat.reduceLT, Nat.reduceLeDiff, Nat.reduceEqDiff, Nat.reduceBEq, Int.reduceLT, Int.reduceLE, Int.reduceAdd, Int.reduceSub, Int.reduceMul, Int.reduceToNat, Int.reduceNeg, reduceIte, reduceCtorEq, reduceBEq]
      all_goals first | exact .inl rfl | exact ⟨_, rfl, by simp [wkL, res2, res1, PV.weak, PV.el, rpv, rcs, pcs]⟩
  · rw [if_pos rfl]
    (refine Fsp.of (nx := 0) mixed Try.func19 rfl (by decide) (by first | exact Nat.le_refl _ | simp) (by simp [Try.f19]) ⟨by decide, by decide⟩ ?_; simp -implicitDefEqProofs only [push_cast, Try.f19, rpv, rcs, pcs, h1, Int.reduceBEq, Int.reduceBNe, Int.reduceEq, Int.reduceNe, Int.reducePow, Nat.reduceAdd, Nat.reduceMul, Nat.reduceSub, Nat.reduceLT, Nat.reduceLeDiff, Nat.reduceEqDiff, Nat.reduceBEq, Int.reduceLT, Int.reduceLE, Int.reduceAdd, Int.reduceSub, Int.reduceMul, Int.reduceToNat, Int.reduceNeg, reduceIte, reduceCtorEq, reduceBEq])
    all_goals first | exact .inl rfl | exact ⟨_, rfl, by simp [wkL, res2, res1, PV.weak, PV.el, rpv, rcs, pcs]⟩
def RtS.st (e : En) (L : List Pc) (p : Pc) (l : List Pc) (a : TiS (p :: l)) : PS := { n := 22, env := [(4, .int .i64 a.i), (3, .slb 20 0 (l.length + 1) 3), (2, .box 4 0), (1, .box 0 0)], objs := [(20, some (pcF a.w)), (0, some (rcs e (pcs (p :: l)) (pcs L))), (4, some rz)], live := [], nxt := 60 }
set_option maxHeartbeats 4000000 in
theorem rtick_box (e : En) (L : List Pc) (p : Pc) (l : List Pc) (hl : l.length ≤ 1000) (hway : e.way = p :: l) : Fsp Try.prog 26 [] 0 [rpv e L] [pcF (tickL (p :: l))] 0 (.agg (rcs e (.slb 0 0 (l.length + 1) 3) (pcs L))) := by
  have hwl0 : ((e.way.map Pc.pv).length : Int) = ((l.length : Int) + 1) := by rw [hway]; simp
  have hpf : p.pv.cells ++ List.flatMap PV.cells (List.map Pc.pv l) = pcF (p :: l) := rfl
  (refine Fsp.of (nx := 0) mixed Try.func26 rfl (by decide) (by first | exact Nat.le_refl _ | simp) (by simp [Try.f26]) ⟨by decide, by decide⟩ ?_; simp -implicitDefEqProofs only [push_cast, Try.f26, rpv, rcs, pcs, Int.reduceBEq, Int.reduceBNe, Int.reduceEq, Int.reduceNe, Int.reducePow, Nat.reduceAdd, Nat.reduceMul, Nat.reduceSub, Nat.reduceLT, Nat.reduceLeDiff, Nat.reduceEqDiff, Nat.reduceBEq, Int.reduceLT, Int.reduceLE, Int.reduceAdd, Int.reduceSub, Int.reduceMul, Int.reduceToNat, Int.reduceNeg, reduceIte, reduceCtorEq, reduceBEq])
  refine callE_sl0 rfl tk_49 tsz_78 (by decide) zc_78 rfl (by rfl) ?_
  simp -implicitDefEqProofs only [push_cast, hway, List.map_cons, sl0Dl, hpf, Int.reduceBEq, Int.reduceBNe, Int.reduceEq, Int.reduceNe, Int.reducePow, Nat.reduceAdd, Nat.reduceMul, Nat.reduceSub, Nat.reduceLT, Nat.reduceLeDiff, Nat.reduceEqDiff, Nat.reduceBEq, Int.reduceLT, Int.reduceLE, Int.reduceAdd, Int.reduceSub, Int.reduceMul, Int.reduceToNat, Int.reduceNeg, reduceIte, reduceCtorEq, reduceBEq]
  (repeat (first | refine ⟨by omega, ?_⟩ | refine ⟨by (unfold drawOk; kernel_rfl), ?_⟩ | refine ⟨by simp only [List.length_map, List.length_append, List.length_take, List.length_drop]; omega, ?_⟩))
  refine loopC_of (α := TiS (p :: l)) (RtS.st e L p l) (fun a => l.length + 1 - a.i) ⟨0, by omega⟩ ?_ ?_
  · (simp only [RtS.st, rcs, rz, pcs]; exact Wk.by _ _ _ [(0, 0), (4, 4), (20, 20)] [] [] (by simp) (by simp [wkV, PV.el, PV.weak, PS.get, PS.obj, PS.lv, lkp_hit, lkp_miss, lkp_nil, lko, hpf, wkC_pcF, TiS.w, tickL]) (by simp [PS.get, PS.obj, PS.lv, lkp_hit, lkp_miss, lkp_nil, lko, wkL, wkC, PV.weak, hpf, wkC_pcF, TiS.w, tickL]) (by simp [PS.get, PS.obj, PS.lv, lkp_hit, lkp_miss, lkp_nil, lko]) (by rfl) (by rfl) (by simp [lko]) (by simp) (by simp) (by simp) (fun i hi => absurd hi (Nat.not_lt_zero i)))
  · rintro ⟨i, hi⟩
    have hil : i ≤ l.length + 1 := hi
    have hwl : (TiS.w ⟨i, hi⟩).length = l.length + 1 := TiS.w_len _
    simp -implicitDefEqProofs only [push_cast, RtS.st, rcs, rz, pcs, Int.reduceBEq, Int.reduceBNe, Int.reduceEq, Int.reduceNe, Int.reducePow, Nat.reduceAdd, Nat.reduceMul, Nat.reduceSub, Nat.reduceLT, Nat.reduceLeDiff, Nat.reduceEqDiff, Nat.reduceBEq, Int.reduceLT, Int.reduceLE, Int.reduceAdd, Int.reduceSub, Int.reduceMul, Int.reduceToNat, Int.reduceNeg, reduceIte, reduceCtorEq, reduceBEq]
    refine condC_split (fun h2 => ?_) (fun h2 => ?_)
    · have hlt : i < l.length + 1 := by simp at h2; omega
      simp -implicitDefEqProofs only [push_cast, pcF_len, hwl, Int.reduceBEq, Int.reduceBNe, Int.reduceEq, Int.reduceNe, Int.reducePow, Nat.reduceAdd, Nat.reduceMul, Nat.reduceSub, Nat.reduceLT, Nat.reduceLeDiff, Nat.reduceEqDiff, Nat.reduceBEq, Int.reduceLT, Int.reduceLE, Int.reduceAdd, Int.reduceSub, Int.reduceMul, Int.reduceToNat, Int.reduceNeg, reduceIte, reduceCtorEq, reduceBEq]
      refine ⟨by omega, by omega, ⟨i + 1, by simp; omega⟩, by simp only; omega, ?_⟩
      rw [show IntKind.i64.wrap ((i : Int) + 1) = ((i + 1 : Nat) : Int) by (rw [wrap_i64_id (by omega) (by omega)]; rfl)]
      have hst := pcF_set true (TiS.w ⟨i, hi⟩) i (by rw [hwl]; exact hlt)
      rw [Nat.zero_add] at hst
      rw [hst, TiS.w, TiS.w_set i (by simpa using hlt)]
      (simp only [RtS.st, rcs, rz, pcs]; exact Wk.by _ _ _ [(0, 0), (4, 4), (20, 20)] [] [] (by simp) (by simp [wkV, PV.el, PV.weak, PS.get, PS.obj, PS.lv, lkp_hit, lkp_miss, lkp_nil, lko, wkC_pcF, TiS.w]) (by simp [PS.get, PS.obj, PS.lv, lkp_hit, lkp_miss, lkp_nil, lko, wkL, wkC, PV.weak, wkC_pcF, TiS.w]) (by simp [PS.get, PS.obj, PS.lv, lkp_hit, lkp_miss, lkp_nil, lko]) (by rfl) (by rfl) (by simp [lko]) (by simp) (by simp) (by simp) (fun i hi => absurd hi (Nat.not_lt_zero i)))
    · have hie : i = (p :: l).length := by simp at h2; simp; omega
      subst hie
      have hw : ∀ hh, TiS.w (l := p :: l) ⟨l.length + 1, hh⟩ = tickL (p :: l) := fun hh => by
        show tickL ((p :: l).take (p :: l).length) ++ (p :: l).drop (p :: l).length = _
        rw [List.take_length, List.drop_length, List.append_nil]
      simp -implicitDefEqProofs only [push_cast, hw, Int.reduceBEq, Int.reduceBNe, Int.reduceEq, Int.reduceNe, Int.reducePow, Nat.reduceAdd, Nat.reduceMul, Nat.reduceSub, Nat.reduceLT, Nat.reduceLeDiff, Nat.reduceEqDiff, Nat.reduceBEq, Int.reduceLT, Int.reduceLE, Int.reduceAdd, Int.reduceSub, Int.reduceMul, Int.reduceToNat, Int.reduceNeg, reduceIte, reduceCtorEq, reduceBEq]
      refine endK_box [] [20] rfl rfl (by simp) rfl rfl rfl (fun i j ps h1 h2 => ?_) ⟨by simp -implicitDefEqProofs only [push_cast, Int.reduceBEq, Int.reduceBNe, Int.reduceEq, Int.reduceNe, Int.reducePow, Nat.reduceAdd, Nat.reduceMul, Nat.reduceSub, Nat.reduceLT, Nat.reduceLeDiff, Nat.reduceEqDiff, Nat.reduceBEq, Int.reduceLT, Int.reduceLE, Int.reduceAdd, Int.reduceSub, Int.reduceMul, Int.reduceToNat, Int.reduceNeg, reduceIte, reduceCtorEq, reduceBEq], by simp -implicitDefEqProofs only [push_cast, Int.reduceBEq, Int.reduceBNe, Int.reduceEq, Int.reduceNe, Int.reducePow, Nat.reduceAdd, Nat.reduceMul, Nat.reduceSub, Nat.reduceLT, Nat.reduceLeDiff, Nat.reduceEqDiff, Nat.reduceBEq, Int.reduceLT, Int.reduceLE, Int.reduceAdd, Int.reduceSub, Int.reduceMul, Int.reduceToNat, Int.reduceNeg, reduceIte, reduceCtorEq, reduceBEq], by (simp -implicitDefEqProofs only [push_cast, wkL, lko, idx, Int.reduceBEq, Int.reduceBNe, Int.reduceEq, Int.reduceNe, Int.reducePow, Nat.reduceAdd, Nat.reduceMul, Nat.reduceSub, Nat.reduceLT, Nat.reduceLeDiff, Nat.reduceEqDiff, Nat.reduceBEq, Int.reduceLT, Int.reduceLE, Int.reduceAdd, Int.reduceSub, Int.reduceMul, Int.reduceToNat, Int.reduceNeg, reduceIte, reduceCtorEq, reduceBEq]; exact ⟨_, rfl, by simp [wkL, res1, PV.weak]⟩)⟩
      cases i with
      | zero =>
        simp at h1 h2
        subst h1; subst h2
        exact ⟨pcF (tickL (p :: l)), by simp [PS.obj, lkp_hit, lkp_miss], wkL_pcF _ _ _⟩
      | succ i => simp at h1
theorem tick_rpv {e : En} {L : List Pc} {p : Pc} {l : List Pc} (hway : e.way = p :: l) : frz3 ([] : List (List PV)).length (pcF (tickL (p :: l))) (.agg (rcs e (.slb 0 0 (l.length + 1) 3) (pcs L))) = rpv e.tick L := by
  have hz := frz_pcF 0 { p with due := true } (tickL l)
  rw [tickL_len] at hz
  show PV.agg (List.map (frz1 0 _) (rcs e _ _)) = PV.agg (rcs e (pcs (tickL e.way)) (pcs L))
  rw [hway, show tickL (p :: l) = { p with due := true } :: tickL l from rfl, ← hz]
  rfl
theorem rtick_fs (e : En) (L : List Pc) (hw : e.way.length ≤ 1000) : Fsp Try.prog 26 [] 0 [rpv e L] [] 0 (rpv e.tick L) := by
  cases hway : e.way with
  | nil =>
    have hr : rpv e.tick L = .agg (rcs e (.sl 3 []) (pcs L)) := by rw [En.tick, rpv, hway]; rfl
    rw [hr]
    (refine Fsp.of (nx := 0) mixed Try.func26 rfl (by decide) (by first | exact Nat.le_refl _ | simp) (by simp [Try.f26]) ⟨by decide, by decide⟩ ?_; simp -implicitDefEqProofs only [push_cast, Try.f26, rpv, rcs, pcs, Int.reduceBEq, Int.reduceBNe, Int.reduceEq, Int.reduceNe, Int.reducePow, Nat.reduceAdd, Nat.reduceMul, Nat.reduceSub, Nat.reduceLT, Nat.reduceLeDiff, Nat.reduceEqDiff, Nat.reduceBEq, Int.reduceLT, Int.reduceLE, Int.reduceAdd, Int.reduceSub, Int.reduceMul, Int.reduceToNat, Int.reduceNeg, reduceIte, reduceCtorEq, reduceBEq])
    refine callE_sl0 rfl tk_49 tsz_78 (by decide) zc_78 rfl (by rfl) ?_
    simp -implicitDefEqProofs only [push_cast, hway, List.map_nil, sl0Dl, Int.reduceBEq, Int.reduceBNe, Int.reduceEq, Int.reduceNe, Int.reducePow, Nat.reduceAdd, Nat.reduceMul, Nat.reduceSub, Nat.reduceLT, Nat.reduceLeDiff, Nat.reduceEqDiff, Nat.reduceBEq, Int.reduceLT, Int.reduceLE, Int.reduceAdd, Int.reduceSub, Int.reduceMul, Int.reduceToNat, Int.reduceNeg, reduceIte, reduceCtorEq, reduceBEq]
    skip
    refine loopC_un 1 ?_
    simp -implicitDefEqProofs only [push_cast, Int.reduceBEq, Int.reduceBNe, Int.reduceEq, Int.reduceNe, Int.reducePow, Nat.reduceAdd, Nat.reduceMul, Nat.reduceSub, Nat.reduceLT, Nat.reduceLeDiff, Nat.reduceEqDiff, Nat.reduceBEq, Int.reduceLT, Int.reduceLE, Int.reduceAdd, Int.reduceSub, Int.reduceMul, Int.reduceToNat, Int.reduceNeg, reduceIte, reduceCtorEq, reduceBEq]
    all_goals first | exact .inl rfl | exact ⟨_, rfl, by simp [wkL, res2, res1, PV.weak, PV.el, rpv, rcs, pcs]⟩
  | cons p l =>
    have h := (rtick_box e L p l (by rw [hway] at hw; simp at hw; omega) hway).freeze (bs' := []) (Nat.le_refl _)
    rw [tick_rpv hway] at h
    exact h
theorem rcut_fs (e : En) (L : List Pc) (hw : e.way.length ≤ 1000) : Fsp Try.prog 28 [] 0 [rpv e L] [] 0 (rpv { e.tick with ack := decide (0 < e.most) } L) := by
  have ht := rtick_fs e L hw
  have hm : e.tick.most = e.most := rfl
  simp only [rpv, rcs, pcs] at ht ⊢
  generalize e.tick = X at *
  (refine Fsp.of (nx := 0) mixed Try.func28 rfl (by decide) (by first | exact Nat.le_refl _ | simp) (by simp [Try.f28]) ⟨by decide, by decide⟩ ?_; simp -implicitDefEqProofs only [push_cast, Try.f28, rpv, rcs, pcs, Int.reduceBEq, Int.reduceBNe, Int.reduceEq, Int.reduceNe, Int.reducePow, Nat.reduceAdd, Nat.reduceMul, Nat.reduceSub, Nat.reduceLT, Nat.reduceLeDiff, Nat.reduceEqDiff, Nat.reduceBEq, Int.reduceLT, Int.reduceLE, Int.reduceAdd, Int.reduceSub, Int.reduceMul, Int.reduceToNat, Int.reduceNeg, reduceIte, reduceCtorEq, reduceBEq])
  refine callE_pure ht (by rfl) (by rfl) (by rfl) (by decide) (by rfl) (fun _ => by rfl) (by first | rfl | simp [gdOk, newToks]) ?_
  simp -implicitDefEqProofs only [push_cast, Int.reduceBEq, Int.reduceBNe, Int.reduceEq, Int.reduceNe, Int.reducePow, Nat.reduceAdd, Nat.reduceMul, Nat.reduceSub, Nat.reduceLT, Nat.reduceLeDiff, Nat.reduceEqDiff, Nat.reduceBEq, Int.reduceLT, Int.reduceLE, Int.reduceAdd, Int.reduceSub, Int.reduceMul, Int.reduceToNat, Int.reduceNeg, reduceIte, reduceCtorEq, reduceBEq]
  rw [hm]
  all_goals first | exact .inl rfl | exact ⟨_, rfl, by simp [wkL, res2, res1, PV.weak, PV.el, rpv, rcs, pcs]⟩

end Go.Proofs.Lk

/- The document's end: Due. -/
set_option maxRecDepth 100000
set_option linter.unusedSimpArgs false
set_option linter.unusedVariables false
namespace Go.Proofs.Lk
open Go.Pv

def RdS.st (e : En) (L : List Pc) (p : Pc) (l : List Pc) (a : DuS (p :: l)) : PS := { n := 60, env := [(6, .int .i64 a.i), (5, .slb 28 0 (l.length + 1) 3), (4, .slt 1 ((dueStr e ((p :: l).take a.i)).map .str) 50), (2, .box 4 0), (1, .box 0 0)], objs := [(28, some (pcF a.w)), (0, some (rcs e (pcs (p :: l)) (pcs L))), (4, some rz)], live := [(50, true)], nxt := 60 }
theorem rpk (k n a : Int) (b : List UInt8) (hb : b.length ≤ 1000000) : Fsp Try.prog 11 [] 0 [.int .i64 k, .int .i64 n, .int .i64 a, .str b] [] 0 (.str (pkt k n a b)) := by
  rw [pkt_eq]; exact refPacket_fs k n a b hb
set_option maxHeartbeats 8000000 in
theorem rdue_box (e : En) (L : List Pc) (p : Pc) (l : List Pc) (hl : l.length ≤ 1000) (hs : ∀ q ∈ p :: l, q.b.length ≤ 1000000) (hway : e.way = p :: l) : Fsp Try.prog 20 [] 0 [rpv e L] [pcF (dueL (p :: l))] 0
    (.tup [.agg (rcs { e with ack := false } (.slb 0 0 (l.length + 1) 3) (pcs L)), .sl 1 ((if dueStr e (p :: l) = [] ∧ e.ack = true then [pkt 1 0 e.exp []] else dueStr e (p :: l)).map .str)]) := by
  have hpf : p.pv.cells ++ List.flatMap PV.cells (List.map Pc.pv l) = pcF (p :: l) := rfl
  (refine Fsp.of (nx := 0) mixed Try.func20 rfl (by decide) (by first | exact Nat.le_refl _ | simp) (by simp [Try.f20]) ⟨by decide, by decide⟩ ?_; simp -implicitDefEqProofs only [push_cast, Try.f20, rpv, rcs, pcs, Int.reduceBEq, Int.reduceBNe, Int.reduceEq, Int.reduceNe, Int.reducePow, Nat.reduceAdd, Nat.reduceMul, Nat.reduceSub, Nat.reduceLT, Nat.reduceLeDiff, Nat.reduceEqDiff, Nat.reduceBEq, Int.reduceLT, Int.reduceLE, Int.reduceAdd, Int.reduceSub, Int.reduceMul, Int.reduceToNat, Int.reduceNeg, reduceIte, reduceCtorEq, reduceBEq])
  refine callE_sl0 rfl tk_49 tsz_78 (by decide) zc_78 rfl (by rfl) ?_
  simp -implicitDefEqProofs only [push_cast, hway, List.map_cons, sl0Dl, hpf, Int.reduceBEq, Int.reduceBNe, Int.reduceEq, Int.reduceNe, Int.reducePow, Nat.reduceAdd, Nat.reduceMul, Nat.reduceSub, Nat.reduceLT, Nat.reduceLeDiff, Nat.reduceEqDiff, Nat.reduceBEq, Int.reduceLT, Int.reduceLE, Int.reduceAdd, Int.reduceSub, Int.reduceMul, Int.reduceToNat, Int.reduceNeg, reduceIte, reduceCtorEq, reduceBEq]
  (repeat (first | refine ⟨by omega, ?_⟩ | refine ⟨by (unfold drawOk; kernel_rfl), ?_⟩ | refine ⟨by simp only [List.length_map, List.length_append, List.length_take, List.length_drop]; omega, ?_⟩))
  refine loopC_of (α := DuS (p :: l)) (RdS.st e L p l) (fun a => l.length + 1 - a.i) ⟨0, by omega⟩ ?_ ?_
  · (simp only [RdS.st, rcs, rz, pcs]; exact Wk.by _ _ _ [(0, 0), (4, 4), (28, 28)] [] [50] (by simp) (by simp [wkV, PV.el, PV.weak, PS.get, PS.obj, PS.lv, lkp_hit, lkp_miss, lkp_nil, lko, hpf, wkC_pcF, DuS.w, dueL, dueStr]) (by simp [PS.get, PS.obj, PS.lv, lkp_hit, lkp_miss, lkp_nil, lko, wkL, wkC, PV.weak, hpf, wkC_pcF, DuS.w, dueL, dueStr]) (by simp [PS.get, PS.obj, PS.lv, lkp_hit, lkp_miss, lkp_nil, lko]) (by rfl) (by rfl) (by simp [lko]) (by simp) (by simp) (by simp) (fun i hi => absurd hi (Nat.not_lt_zero i)))
  · rintro ⟨i, hi⟩
    have hil : i ≤ l.length + 1 := hi
    have hwl : (DuS.w ⟨i, hi⟩).length = l.length + 1 := DuS.w_len _
    simp -implicitDefEqProofs only [push_cast, RdS.st, rcs, rz, pcs, Int.reduceBEq, Int.reduceBNe, Int.reduceEq, Int.reduceNe, Int.reducePow, Nat.reduceAdd, Nat.reduceMul, Nat.reduceSub, Nat.reduceLT, Nat.reduceLeDiff, Nat.reduceEqDiff, Nat.reduceBEq, Int.reduceLT, Int.reduceLE, Int.reduceAdd, Int.reduceSub, Int.reduceMul, Int.reduceToNat, Int.reduceNeg, reduceIte, reduceCtorEq, reduceBEq]
    refine condC_split (fun h2 => ?_) (fun h2 => ?_)
    · have hlt : i < l.length + 1 := by simp at h2; omega
      have hat : (DuS.w ⟨i, hi⟩).getD i pc0 = (p :: l).getD i pc0 := DuS.w_at i (by simpa using hlt)
      have d0 := pcF_d0 (DuS.w ⟨i, hi⟩) i (by omega)
      have d1 := pcF_d1 (DuS.w ⟨i, hi⟩) i (by omega)
      have d2 := pcF_d2 (DuS.w ⟨i, hi⟩) i (by omega)
      rw [hat] at d0 d1 d2
      have hqs : ((p :: l).getD i pc0).b.length ≤ 1000000 := by
        rw [List.getD_eq_getElem?_getD, List.getElem?_eq_getElem (by simpa using hlt)]
        exact hs _ (List.getElem_mem _)
      have hst : List.take (i * 3 + 2) (pcF (DuS.w ⟨i, hi⟩)) ++ .bool false :: List.drop (i * 3 + 2 + 1) (pcF (DuS.w ⟨i, hi⟩)) = pcF (dueL ((p :: l).take (i + 1)) ++ (p :: l).drop (i + 1)) := by
        have h := pcF_set false (DuS.w ⟨i, hi⟩) i (by rw [hwl]; exact hlt)
        rw [Nat.zero_add] at h
        rw [h]
        exact congrArg pcF (DuS.w_set i (by simpa using hlt))
      have hnot := DuS.w_not (l := p :: l) i (by simpa using hlt)
      have hds := dueStr_succ e (l := p :: l) i (by simpa using hlt)
      rw [List.take_succ_cons] at hds
      have hdl := dueStr_len e ((p :: l).take i)
      have hwr : IntKind.i64.wrap ((i : Int) + 1) = ((i + 1 : Nat) : Int) := by (rw [wrap_i64_id (by omega) (by omega)]; rfl)
      generalize hq : (p :: l).getD i pc0 = q at d0 d1 d2 hqs hnot hds hat
      simp -implicitDefEqProofs only [push_cast, pcF_len, hwl, d0, d1, d2, Int.reduceBEq, Int.reduceBNe, Int.reduceEq, Int.reduceNe, Int.reducePow, Nat.reduceAdd, Nat.reduceMul, Nat.reduceSub, Nat.reduceLT, Nat.reduceLeDiff, Nat.reduceEqDiff, Nat.reduceBEq, Int.reduceLT, Int.reduceLE, Int.reduceAdd, Int.reduceSub, Int.reduceMul, Int.reduceToNat, Int.reduceNeg, reduceIte, reduceCtorEq, reduceBEq]
      (repeat (first | refine ⟨by omega, ?_⟩))
      refine condC_split (fun h3 => ?_) (fun h3 => ?_)
      · have hrp := rpk 0 q.n e.exp q.b hqs
        simp -implicitDefEqProofs only [push_cast, d0, d1, d2, pcF_len, hwl, Int.reduceBEq, Int.reduceBNe, Int.reduceEq, Int.reduceNe, Int.reducePow, Nat.reduceAdd, Nat.reduceMul, Nat.reduceSub, Nat.reduceLT, Nat.reduceLeDiff, Nat.reduceEqDiff, Nat.reduceBEq, Int.reduceLT, Int.reduceLE, Int.reduceAdd, Int.reduceSub, Int.reduceMul, Int.reduceToNat, Int.reduceNeg, reduceIte, reduceCtorEq, reduceBEq]
        (repeat (first | refine ⟨by omega, ?_⟩ | refine ⟨by (unfold drawOk; kernel_rfl), ?_⟩ | refine ⟨by simp only [List.length_map, List.length_append, List.length_take, List.length_drop]; omega, ?_⟩))
        refine callE_pure hrp (by rfl) (by rfl) (by rfl) (by decide) (by rfl) (fun _ => by rfl) (by first | rfl | simp [gdOk, newToks]) ?_
        simp -implicitDefEqProofs only [push_cast, d0, d1, d2, pcF_len, hwl, Int.reduceBEq, Int.reduceBNe, Int.reduceEq, Int.reduceNe, Int.reducePow, Nat.reduceAdd, Nat.reduceMul, Nat.reduceSub, Nat.reduceLT, Nat.reduceLeDiff, Nat.reduceEqDiff, Nat.reduceBEq, Int.reduceLT, Int.reduceLE, Int.reduceAdd, Int.reduceSub, Int.reduceMul, Int.reduceToNat, Int.reduceNeg, reduceIte, reduceCtorEq, reduceBEq]
        have hdl2 : (List.map PV.str (dueStr e (List.take i (p :: l)))).length ≤ 1001 := by
          rw [List.length_map]
          refine Nat.le_trans hdl ?_
          rw [List.length_take, List.length_cons]
          omega
        skip
        (repeat (first | refine ⟨by omega, ?_⟩ | refine ⟨by (unfold drawOk; kernel_rfl), ?_⟩))
        refine ⟨⟨i + 1, by simp; omega⟩, by simp only; omega, ?_⟩
        rw [hwr, hst]
        (simp only [RdS.st, rcs, rz, pcs]; exact Wk.by _ _ _ [(0, 0), (4, 4), (28, 28)] [(50, 156)] [] (by simp) (by simp [wkV, PV.el, PV.weak, PS.get, PS.obj, PS.lv, lkp_hit, lkp_miss, lkp_nil, lko, wkC_pcF, DuS.w, hds, h3]) (by simp [PS.get, PS.obj, PS.lv, lkp_hit, lkp_miss, lkp_nil, lko, wkL, wkC, PV.weak, wkC_pcF, DuS.w, hds, h3]) (by simp [PS.get, PS.obj, PS.lv, lkp_hit, lkp_miss, lkp_nil, lko]) (by rfl) (by rfl) (by simp [lko]) (by simp) (by simp) (by simp) (fun i hi => absurd hi (Nat.not_lt_zero i)))
      · simp -implicitDefEqProofs only [push_cast, Int.reduceBEq, Int.reduceBNe, Int.reduceEq, Int.reduceNe, Int.reducePow, Nat.reduceAdd, Nat.reduceMul, Nat.reduceSub, Nat.reduceLT, Nat.reduceLeDiff, Nat.reduceEqDiff, Nat.reduceBEq, Int.reduceLT, Int.reduceLE, Int.reduceAdd, Int.reduceSub, Int.reduceMul, Int.reduceToNat, Int.reduceNeg, reduceIte, reduceCtorEq, reduceBEq]
        refine ⟨⟨i + 1, by simp; omega⟩, by simp only; omega, ?_⟩
        have hnw : DuS.w ⟨i, hi⟩ = dueL ((p :: l).take (i + 1)) ++ (p :: l).drop (i + 1) := hnot h3
        rw [hwr, hnw]
        (simp only [RdS.st, rcs, rz, pcs]; exact Wk.by _ _ _ [(0, 0), (4, 4), (28, 28)] [(50, 50)] [] (by simp) (by simp [wkV, PV.el, PV.weak, PS.get, PS.obj, PS.lv, lkp_hit, lkp_miss, lkp_nil, lko, wkC_pcF, DuS.w, hds, h3]) (by simp [PS.get, PS.obj, PS.lv, lkp_hit, lkp_miss, lkp_nil, lko, wkL, wkC, PV.weak, wkC_pcF, DuS.w, hds, h3]) (by simp [PS.get, PS.obj, PS.lv, lkp_hit, lkp_miss, lkp_nil, lko]) (by rfl) (by rfl) (by simp [lko]) (by simp) (by simp) (by simp) (fun i hi => absurd hi (Nat.not_lt_zero i)))
    · have hie : i = (p :: l).length := by simp at h2; simp; omega
      subst hie
      have hw : ∀ hh, DuS.w (l := p :: l) ⟨l.length + 1, hh⟩ = dueL (p :: l) := fun hh => by
        show dueL ((p :: l).take (p :: l).length) ++ (p :: l).drop (p :: l).length = _
        rw [List.take_length, List.drop_length, List.append_nil]
      have ht : List.take (l.length + 1) (p :: l) = p :: l := List.take_length (l := p :: l)
      have hdl := dueStr_len e (p :: l)
      generalize hD : dueStr e (p :: l) = D at hdl
      simp -implicitDefEqProofs only [push_cast, hw, ht, hD, Int.reduceBEq, Int.reduceBNe, Int.reduceEq, Int.reduceNe, Int.reducePow, Nat.reduceAdd, Nat.reduceMul, Nat.reduceSub, Nat.reduceLT, Nat.reduceLeDiff, Nat.reduceEqDiff, Nat.reduceBEq, Int.reduceLT, Int.reduceLE, Int.reduceAdd, Int.reduceSub, Int.reduceMul, Int.reduceToNat, Int.reduceNeg, reduceIte, reduceCtorEq, reduceBEq]
      refine condC_split (fun h3 => ?_) (fun h3 => ?_)
      · have h4 : D = [] ∧ e.ack = true := by
          simp only [List.length_map, Bool.and_eq_true, beq_iff_eq] at h3
          exact ⟨List.length_eq_zero_iff.1 (by omega), h3.2⟩
        rw [if_pos h4]
        rw [h4.1]
        have hrp := rpk 1 0 e.exp [] (by simp)
        simp -implicitDefEqProofs only [push_cast, Int.reduceBEq, Int.reduceBNe, Int.reduceEq, Int.reduceNe, Int.reducePow, Nat.reduceAdd, Nat.reduceMul, Nat.reduceSub, Nat.reduceLT, Nat.reduceLeDiff, Nat.reduceEqDiff, Nat.reduceBEq, Int.reduceLT, Int.reduceLE, Int.reduceAdd, Int.reduceSub, Int.reduceMul, Int.reduceToNat, Int.reduceNeg, reduceIte, reduceCtorEq, reduceBEq]
        refine callE_pure hrp (by rfl) (by rfl) (by rfl) (by decide) (by rfl) (fun _ => by rfl) (by first | rfl | simp [gdOk, newToks]) ?_
        simp -implicitDefEqProofs only [push_cast, Int.reduceBEq, Int.reduceBNe, Int.reduceEq, Int.reduceNe, Int.reducePow, Nat.reduceAdd, Nat.reduceMul, Nat.reduceSub, Nat.reduceLT, Nat.reduceLeDiff, Nat.reduceEqDiff, Nat.reduceBEq, Int.reduceLT, Int.reduceLE, Int.reduceAdd, Int.reduceSub, Int.reduceMul, Int.reduceToNat, Int.reduceNeg, reduceIte, reduceCtorEq, reduceBEq]
        (repeat (first | refine ⟨by omega, ?_⟩ | refine ⟨by (unfold drawOk; kernel_rfl), ?_⟩ | refine ⟨by simp only [List.length_map, List.length_append, List.length_take, List.length_drop]; omega, ?_⟩))
        refine endK_box [] [28] rfl rfl (by simp) rfl rfl rfl (fun i j ps h1 h2 => ?_) ⟨by simp -implicitDefEqProofs only [push_cast, Int.reduceBEq, Int.reduceBNe, Int.reduceEq, Int.reduceNe, Int.reducePow, Nat.reduceAdd, Nat.reduceMul, Nat.reduceSub, Nat.reduceLT, Nat.reduceLeDiff, Nat.reduceEqDiff, Nat.reduceBEq, Int.reduceLT, Int.reduceLE, Int.reduceAdd, Int.reduceSub, Int.reduceMul, Int.reduceToNat, Int.reduceNeg, reduceIte, reduceCtorEq, reduceBEq], by simp -implicitDefEqProofs only [push_cast, Int.reduceBEq, Int.reduceBNe, Int.reduceEq, Int.reduceNe, Int.reducePow, Nat.reduceAdd, Nat.reduceMul, Nat.reduceSub, Nat.reduceLT, Nat.reduceLeDiff, Nat.reduceEqDiff, Nat.reduceBEq, Int.reduceLT, Int.reduceLE, Int.reduceAdd, Int.reduceSub, Int.reduceMul, Int.reduceToNat, Int.reduceNeg, reduceIte, reduceCtorEq, reduceBEq], by (simp -implicitDefEqProofs only [push_cast, wkL, lko, idx, Int.reduceBEq, Int.reduceBNe, Int.reduceEq, Int.reduceNe, Int.reducePow, Nat.reduceAdd, Nat.reduceMul, Nat.reduceSub, Nat.reduceLT, Nat.reduceLeDiff, Nat.reduceEqDiff, Nat.reduceBEq, Int.reduceLT, Int.reduceLE, Int.reduceAdd, Int.reduceSub, Int.reduceMul, Int.reduceToNat, Int.reduceNeg, reduceIte, reduceCtorEq, reduceBEq]; exact ⟨_, rfl, by simp [wkL, res1, res2, PV.weak, PV.el]⟩)⟩
        cases i with
        | zero =>
          simp at h1 h2
          subst h1; subst h2
          exact ⟨pcF (dueL (p :: l)), by simp [PS.obj, lkp_hit, lkp_miss], wkL_pcF _ _ _⟩
        | succ i => simp at h1
      · have h4 : ¬ (D = [] ∧ e.ack = true) := by
          rintro ⟨q1, q2⟩
          rw [q1, q2] at h3
          simp at h3
        rw [if_neg h4]
        simp -implicitDefEqProofs only [push_cast, Int.reduceBEq, Int.reduceBNe, Int.reduceEq, Int.reduceNe, Int.reducePow, Nat.reduceAdd, Nat.reduceMul, Nat.reduceSub, Nat.reduceLT, Nat.reduceLeDiff, Nat.reduceEqDiff, Nat.reduceBEq, Int.reduceLT, Int.reduceLE, Int.reduceAdd, Int.reduceSub, Int.reduceMul, Int.reduceToNat, Int.reduceNeg, reduceIte, reduceCtorEq, reduceBEq]
        (repeat (first | refine ⟨by omega, ?_⟩ | refine ⟨by (unfold drawOk; kernel_rfl), ?_⟩ | refine ⟨by simp only [List.length_map, List.length_append, List.length_take, List.length_drop]; omega, ?_⟩))
        refine endK_box [] [28] rfl rfl (by simp) rfl rfl rfl (fun i j ps h1 h2 => ?_) ⟨by simp -implicitDefEqProofs only [push_cast, Int.reduceBEq, Int.reduceBNe, Int.reduceEq, Int.reduceNe, Int.reducePow, Nat.reduceAdd, Nat.reduceMul, Nat.reduceSub, Nat.reduceLT, Nat.reduceLeDiff, Nat.reduceEqDiff, Nat.reduceBEq, Int.reduceLT, Int.reduceLE, Int.reduceAdd, Int.reduceSub, Int.reduceMul, Int.reduceToNat, Int.reduceNeg, reduceIte, reduceCtorEq, reduceBEq], by simp -implicitDefEqProofs only [push_cast, Int.reduceBEq, Int.reduceBNe, Int.reduceEq, Int.reduceNe, Int.reducePow, Nat.reduceAdd, Nat.reduceMul, Nat.reduceSub, Nat.reduceLT, Nat.reduceLeDiff, Nat.reduceEqDiff, Nat.reduceBEq, Int.reduceLT, Int.reduceLE, Int.reduceAdd, Int.reduceSub, Int.reduceMul, Int.reduceToNat, Int.reduceNeg, reduceIte, reduceCtorEq, reduceBEq], by (simp -implicitDefEqProofs only [push_cast, wkL, lko, idx, Int.reduceBEq, Int.reduceBNe, Int.reduceEq, Int.reduceNe, Int.reducePow, Nat.reduceAdd, Nat.reduceMul, Nat.reduceSub, Nat.reduceLT, Nat.reduceLeDiff, Nat.reduceEqDiff, Nat.reduceBEq, Int.reduceLT, Int.reduceLE, Int.reduceAdd, Int.reduceSub, Int.reduceMul, Int.reduceToNat, Int.reduceNeg, reduceIte, reduceCtorEq, reduceBEq]; exact ⟨_, rfl, by simp [wkL, res1, res2, PV.weak, PV.el]⟩)⟩
        cases i with
        | zero =>
          simp at h1 h2
          subst h1; subst h2
          exact ⟨pcF (dueL (p :: l)), by simp [PS.obj, lkp_hit, lkp_miss], wkL_pcF _ _ _⟩
        | succ i => simp at h1
theorem rdue_fs (e : En) (L : List Pc) (hw : e.way.length ≤ 1000) (hs : ∀ q ∈ e.way, q.b.length ≤ 1000000) : Fsp Try.prog 20 [] 0 [rpv e L] [] 0 (.tup [rpv e.due L, .sl 1 (e.dueP.map .str)]) := by
  cases hway : e.way with
  | nil =>
    have hr : rpv e.due L = .agg (rcs { e with ack := false } (.sl 3 []) (pcs L)) := by rw [En.due, rpv, hway]; rfl
    have hd : dueStr e e.way = [] := by rw [hway]; rfl
    rw [hr, En.dueP, hd]
    (refine Fsp.of (nx := 0) mixed Try.func20 rfl (by decide) (by first | exact Nat.le_refl _ | simp) (by simp [Try.f20]) ⟨by decide, by decide⟩ ?_; simp -implicitDefEqProofs only [push_cast, Try.f20, rpv, rcs, pcs, Int.reduceBEq, Int.reduceBNe, Int.reduceEq, Int.reduceNe, Int.reducePow, Nat.reduceAdd, Nat.reduceMul, Nat.reduceSub, Nat.reduceLT, Nat.reduceLeDiff, Nat.reduceEqDiff, Nat.reduceBEq, Int.reduceLT, Int.reduceLE, Int.reduceAdd, Int.reduceSub, Int.reduceMul, Int.reduceToNat, Int.reduceNeg, reduceIte, reduceCtorEq, reduceBEq])
    refine callE_sl0 rfl tk_49 tsz_78 (by decide) zc_78 rfl (by rfl) ?_
    simp -implicitDefEqProofs only [push_cast, hway, List.map_nil, sl0Dl, Int.reduceBEq, Int.reduceBNe, Int.reduceEq, Int.reduceNe, Int.reducePow, Nat.reduceAdd, Nat.reduceMul, Nat.reduceSub, Nat.reduceLT, Nat.reduceLeDiff, Nat.reduceEqDiff, Nat.reduceBEq, Int.reduceLT, Int.reduceLE, Int.reduceAdd, Int.reduceSub, Int.reduceMul, Int.reduceToNat, Int.reduceNeg, reduceIte, reduceCtorEq, reduceBEq]
    refine loopC_un 1 ?_
    simp -implicitDefEqProofs only [push_cast, Int.reduceBEq, Int.reduceBNe, Int.reduceEq, Int.reduceNe, Int.reducePow, Nat.reduceAdd, Nat.reduceMul, Nat.reduceSub, Nat.reduceLT, Nat.reduceLeDiff, Nat.reduceEqDiff, Nat.reduceBEq, Int.reduceLT, Int.reduceLE, Int.reduceAdd, Int.reduceSub, Int.reduceMul, Int.reduceToNat, Int.reduceNeg, reduceIte, reduceCtorEq, reduceBEq]
    refine condC_split (fun h3 => ?_) (fun h3 => ?_)
    · have hrp := rpk 1 0 e.exp [] (by simp)
      simp -implicitDefEqProofs only [push_cast, Int.reduceBEq, Int.reduceBNe, Int.reduceEq, Int.reduceNe, Int.reducePow, Nat.reduceAdd, Nat.reduceMul, Nat.reduceSub, Nat.reduceLT, Nat.reduceLeDiff, Nat.reduceEqDiff, Nat.reduceBEq, Int.reduceLT, Int.reduceLE, Int.reduceAdd, Int.reduceSub, Int.reduceMul, Int.reduceToNat, Int.reduceNeg, reduceIte, reduceCtorEq, reduceBEq]
      refine callE_pure hrp (by rfl) (by rfl) (by rfl) (by decide) (by rfl) (fun _ => by rfl) (by first | rfl | simp [gdOk, newToks]) ?_
      simp -implicitDefEqProofs only [push_cast, Int.reduceBEq, Int.reduceBNe, Int.reduceEq, Int.reduceNe, Int.reducePow, Nat.reduceAdd, Nat.reduceMul, Nat.reduceSub, Nat.reduceLT, Nat.reduceLeDiff, Nat.reduceEqDiff, Nat.reduceBEq, Int.reduceLT, Int.reduceLE, Int.reduceAdd, Int.reduceSub, Int.reduceMul, Int.reduceToNat, Int.reduceNeg, reduceIte, reduceCtorEq, reduceBEq]
      (repeat (first | refine ⟨by omega, ?_⟩ | refine ⟨by (unfold drawOk; kernel_rfl), ?_⟩ | refine ⟨by simp only [List.length_map, List.length_append, List.length_take, List.length_drop]; omega, ?_⟩))
      rw [if_pos h3]
      all_goals first | exact .inl rfl | exact ⟨_, rfl, by simp [wkL, res2, res1, PV.weak, PV.el, rpv, rcs, pcs]⟩
    · simp -implicitDefEqProofs only [push_cast, Int.reduceBEq, Int.reduceBNe, Int.reduceEq, Int.reduceNe, Int.reducePow, Nat.reduceAdd, Nat.reduceMul, Nat.reduceSub, Nat.reduceLT, Nat.reduceLeDiff, Nat.reduceEqDiff, Nat.reduceBEq, Int.reduceLT, Int.reduceLE, Int.reduceAdd, Int.reduceSub, Int.reduceMul, Int.reduceToNat, Int.reduceNeg, reduceIte, reduceCtorEq, reduceBEq]
      (repeat (first | refine ⟨by omega, ?_⟩ | refine ⟨by (unfold drawOk; kernel_rfl), ?_⟩ | refine ⟨by simp only [List.length_map, List.length_append, List.length_take, List.length_drop]; omega, ?_⟩))
      rw [if_neg (show ¬ (e.ack = true) by rw [h3]; exact Bool.false_ne_true)]
      all_goals first | exact .inl rfl | exact ⟨_, rfl, by simp [wkL, res2, res1, PV.weak, PV.el, rpv, rcs, pcs]⟩
  | cons p l =>
    have h := (rdue_box e L p l (by rw [hway] at hw; simp at hw; omega) (by rw [← hway]; exact hs) hway).freeze (bs' := []) (Nat.le_refl _)
    have hr : ∀ x : List PV, frz3 ([] : List (List PV)).length (pcF (dueL (p :: l))) (.tup [.agg (rcs { e with ack := false } (.slb 0 0 (l.length + 1) 3) (pcs L)), .sl 1 x]) = .tup [rpv e.due L, .sl 1 x] := fun x => by
      have hz := frz_pcF 0 { p with due := false } (dueL l)
      rw [dueL_len] at hz
      show PV.tup [PV.agg (List.map (frz1 0 _) (rcs { e with ack := false } _ _)), .sl 1 x] = PV.tup [PV.agg (rcs { e with ack := false } (pcs (dueL e.way)) (pcs L)), .sl 1 x]
      rw [hway, show dueL (p :: l) = { p with due := false } :: dueL l from rfl, ← hz]
      rfl
    rw [hr] at h
    rw [En.dueP, hway]
    exact h

end Go.Proofs.Lk

/- The document's end: a number read. -/
set_option maxRecDepth 100000
set_option linter.unusedSimpArgs false
set_option linter.unusedVariables false
namespace Go.Proofs.Lk
open Go.Pv

theorem gv1 (v a : Int) (h : 0 ≤ v) (h2 : v ≤ 1000000000) (ha : 0 ≤ a) (h3 : a < 256) : IntKind.i64.wrap (IntKind.i64.wrap (256 * v) + IntKind.i64.wrap a) = 256 * v + a := by
  rw [wrap_i64_id (n := 256 * v) (by omega) (by omega), wrap_i64_id (n := a) (by omega) (by omega), wrap_i64_id (by omega) (by omega)]
theorem gv0 (a : Int) (ha : 0 ≤ a) (h3 : a < 256) : IntKind.i64.wrap (0 + IntKind.i64.wrap a) = a := by
  rw [Int.zero_add, wrap_i64_id (n := a) (by omega) (by omega), wrap_i64_id (by omega) (by omega)]
set_option maxHeartbeats 4000000 in
theorem rget4 (b : List UInt8) (hb : b.length = 4) : Fsp Try.prog 41 [] 0 [.int .i64 1, .int .i64 4, .str b] [] 0 (.tup [.int .i64 ((fourN b : Nat) : Int), .int .i64 0]) := by
  obtain ⟨x0, x1, x2, x3, rfl⟩ : ∃ x0 x1 x2 x3, b = [x0, x1, x2, x3] := by
    match b, hb with | [x0, x1, x2, x3], _ => exact ⟨x0, x1, x2, x3, rfl⟩
  have h0 := u8lt x0
  have h1 := u8lt x1
  have h2 := u8lt x2
  have h3 := u8lt x3
  (refine Fsp.of (nx := 0) mixed Try.func41 rfl (by decide) (by first | exact Nat.le_refl _ | simp) (by simp [Try.f41]) ⟨by decide, by decide⟩ ?_; simp -implicitDefEqProofs only [push_cast, Try.f41, Int.reduceBEq, Int.reduceBNe, Int.reduceEq, Int.reduceNe, Int.reducePow, Nat.reduceAdd, Nat.reduceMul, Nat.reduceSub, Nat.reduceLT, Nat.reduceLeDiff, Nat.reduceEqDiff, Nat.reduceBEq, Int.reduceLT, Int.reduceLE, Int.reduceAdd, Int.reduceSub, Int.reduceMul, Int.reduceToNat, Int.reduceNeg, reduceIte, reduceCtorEq, reduceBEq])
  refine callE_pure size4 (by rfl) (by rfl) (by rfl) (by decide) (by rfl) (fun _ => by rfl) (by first | rfl | simp [gdOk, newToks]) ?_
  simp -implicitDefEqProofs only [push_cast, Int.reduceBEq, Int.reduceBNe, Int.reduceEq, Int.reduceNe, Int.reducePow, Nat.reduceAdd, Nat.reduceMul, Nat.reduceSub, Nat.reduceLT, Nat.reduceLeDiff, Nat.reduceEqDiff, Nat.reduceBEq, Int.reduceLT, Int.reduceLE, Int.reduceAdd, Int.reduceSub, Int.reduceMul, Int.reduceToNat, Int.reduceNeg, reduceIte, reduceCtorEq, reduceBEq]
  refine loopC_un 5 ?_
  simp -implicitDefEqProofs only [push_cast, Int.reduceBEq, Int.reduceBNe, Int.reduceEq, Int.reduceNe, Int.reducePow, Nat.reduceAdd, Nat.reduceMul, Nat.reduceSub, Nat.reduceLT, Nat.reduceLeDiff, Nat.reduceEqDiff, Nat.reduceBEq, Int.reduceLT, Int.reduceLE, Int.reduceAdd, Int.reduceSub, Int.reduceMul, Int.reduceToNat, Int.reduceNeg, reduceIte, reduceCtorEq, reduceBEq]
  refine callE_pure most4 (by rfl) (by rfl) (by rfl) (by decide) (by rfl) (fun _ => by rfl) (by first | rfl | simp [gdOk, newToks]) ?_
  simp -implicitDefEqProofs only [push_cast, Int.reduceBEq, Int.reduceBNe, Int.reduceEq, Int.reduceNe, Int.reducePow, Nat.reduceAdd, Nat.reduceMul, Nat.reduceSub, Nat.reduceLT, Nat.reduceLeDiff, Nat.reduceEqDiff, Nat.reduceBEq, Int.reduceLT, Int.reduceLE, Int.reduceAdd, Int.reduceSub, Int.reduceMul, Int.reduceToNat, Int.reduceNeg, reduceIte, reduceCtorEq, reduceBEq]
  skip
  rw [gv0 _ (by omega) (by omega)]
  rw [gv1 ((x0.toNat : Int)) x1.toNat (by omega) (by omega) (by omega) (by omega), gv1 (256 * (x0.toNat : Int) + x1.toNat) x2.toNat (by omega) (by omega) (by omega) (by omega), gv1 (256 * (256 * (x0.toNat : Int) + x1.toNat) + x2.toNat) x3.toNat (by omega) (by omega) (by omega) (by omega)]
  rw [show 256 * (256 * (256 * (x0.toNat : Int) + x1.toNat) + x2.toNat) + x3.toNat = ((fourN [x0, x1, x2, x3] : Nat) : Int) by (simp only [fourN, List.getD_cons_zero, List.getD_cons_succ]; omega)]
  have hlt : decide ((4294967295 : Int) < ((fourN [x0, x1, x2, x3] : Nat) : Int)) = false := by
    simp only [decide_eq_false_iff_not, fourN, List.getD_cons_zero, List.getD_cons_succ]; omega
  rw [hlt, condC_false]
  simp -implicitDefEqProofs only [push_cast, Int.reduceBEq, Int.reduceBNe, Int.reduceEq, Int.reduceNe, Int.reducePow, Nat.reduceAdd, Nat.reduceMul, Nat.reduceSub, Nat.reduceLT, Nat.reduceLeDiff, Nat.reduceEqDiff, Nat.reduceBEq, Int.reduceLT, Int.reduceLE, Int.reduceAdd, Int.reduceSub, Int.reduceMul, Int.reduceToNat, Int.reduceNeg, reduceIte, reduceCtorEq, reduceBEq]
  exact ⟨_, rfl, by simp [wkL, res2, res1, PV.weak]⟩

set_option maxHeartbeats 4000000 in
theorem rget2 (b : List UInt8) (hb : b.length = 2) : Fsp Try.prog 41 [] 0 [.int .i64 1, .int .i64 2, .str b] [] 0 (.tup [.int .i64 (((b.getD 0 0).toNat * 256 + (b.getD 1 0).toNat : Nat) : Int), .int .i64 0]) := by
  obtain ⟨x0, x1, rfl⟩ : ∃ x0 x1, b = [x0, x1] := by
    match b, hb with | [x0, x1], _ => exact ⟨x0, x1, rfl⟩
  have h0 := u8lt x0
  have h1 := u8lt x1
  (refine Fsp.of (nx := 0) mixed Try.func41 rfl (by decide) (by first | exact Nat.le_refl _ | simp) (by simp [Try.f41]) ⟨by decide, by decide⟩ ?_; simp -implicitDefEqProofs only [push_cast, Try.f41, Int.reduceBEq, Int.reduceBNe, Int.reduceEq, Int.reduceNe, Int.reducePow, Nat.reduceAdd, Nat.reduceMul, Nat.reduceSub, Nat.reduceLT, Nat.reduceLeDiff, Nat.reduceEqDiff, Nat.reduceBEq, Int.reduceLT, Int.reduceLE, Int.reduceAdd, Int.reduceSub, Int.reduceMul, Int.reduceToNat, Int.reduceNeg, reduceIte, reduceCtorEq, reduceBEq])
  refine callE_pure size2 (by rfl) (by rfl) (by rfl) (by decide) (by rfl) (fun _ => by rfl) (by first | rfl | simp [gdOk, newToks]) ?_
  simp -implicitDefEqProofs only [push_cast, Int.reduceBEq, Int.reduceBNe, Int.reduceEq, Int.reduceNe, Int.reducePow, Nat.reduceAdd, Nat.reduceMul, Nat.reduceSub, Nat.reduceLT, Nat.reduceLeDiff, Nat.reduceEqDiff, Nat.reduceBEq, Int.reduceLT, Int.reduceLE, Int.reduceAdd, Int.reduceSub, Int.reduceMul, Int.reduceToNat, Int.reduceNeg, reduceIte, reduceCtorEq, reduceBEq]
  refine loopC_un 3 ?_
  simp -implicitDefEqProofs only [push_cast, Int.reduceBEq, Int.reduceBNe, Int.reduceEq, Int.reduceNe, Int.reducePow, Nat.reduceAdd, Nat.reduceMul, Nat.reduceSub, Nat.reduceLT, Nat.reduceLeDiff, Nat.reduceEqDiff, Nat.reduceBEq, Int.reduceLT, Int.reduceLE, Int.reduceAdd, Int.reduceSub, Int.reduceMul, Int.reduceToNat, Int.reduceNeg, reduceIte, reduceCtorEq, reduceBEq]
  refine callE_pure most2 (by rfl) (by rfl) (by rfl) (by decide) (by rfl) (fun _ => by rfl) (by first | rfl | simp [gdOk, newToks]) ?_
  simp -implicitDefEqProofs only [push_cast, Int.reduceBEq, Int.reduceBNe, Int.reduceEq, Int.reduceNe, Int.reducePow, Nat.reduceAdd, Nat.reduceMul, Nat.reduceSub, Nat.reduceLT, Nat.reduceLeDiff, Nat.reduceEqDiff, Nat.reduceBEq, Int.reduceLT, Int.reduceLE, Int.reduceAdd, Int.reduceSub, Int.reduceMul, Int.reduceToNat, Int.reduceNeg, reduceIte, reduceCtorEq, reduceBEq]
  skip
  rw [gv0 _ (by omega) (by omega)]
  rw [gv1 ((x0.toNat : Int)) x1.toNat (by omega) (by omega) (by omega) (by omega)]
  rw [show 256 * (x0.toNat : Int) + x1.toNat = ((([x0, x1].getD 0 0).toNat * 256 + ([x0, x1].getD 1 0).toNat : Nat) : Int) by (simp only [fourN, List.getD_cons_zero, List.getD_cons_succ]; omega)]
  have hlt : decide ((65535 : Int) < ((([x0, x1].getD 0 0).toNat * 256 + ([x0, x1].getD 1 0).toNat : Nat) : Int)) = false := by
    simp only [decide_eq_false_iff_not, fourN, List.getD_cons_zero, List.getD_cons_succ]; omega
  rw [hlt, condC_false]
  simp -implicitDefEqProofs only [push_cast, Int.reduceBEq, Int.reduceBNe, Int.reduceEq, Int.reduceNe, Int.reducePow, Nat.reduceAdd, Nat.reduceMul, Nat.reduceSub, Nat.reduceLT, Nat.reduceLeDiff, Nat.reduceEqDiff, Nat.reduceBEq, Int.reduceLT, Int.reduceLE, Int.reduceAdd, Int.reduceSub, Int.reduceMul, Int.reduceToNat, Int.reduceNeg, reduceIte, reduceCtorEq, reduceBEq]
  exact ⟨_, rfl, by simp [wkL, res2, res1, PV.weak]⟩

end Go.Proofs.Lk

/- The document's end: take. -/
set_option maxRecDepth 100000
set_option linter.unusedSimpArgs false
set_option linter.unusedVariables false
namespace Go.Proofs.Lk
open Go.Pv

def tk1 (x : Int) (T : Bool × List Pc × List UInt8) (q : Pc) : Bool × List Pc × List UInt8 :=
  if (!T.1 && q.n == x) = true then (true, T.2.1, T.2.2 ++ q.b) else (T.1, T.2.1 ++ [q], T.2.2)
/-- One round of take: is the piece with the number x there, what is left, its bytes. -/
def tkF (x : Int) (l : List Pc) : Bool × List Pc × List UInt8 := l.foldl (tk1 x) (false, [], [])
theorem tkF_snoc (x : Int) (l : List Pc) (q : Pc) : tkF x (l ++ [q]) = tk1 x (tkF x l) q := by rw [tkF, List.foldl_append]; rfl
theorem tkF_at (x : Int) {l : List Pc} {i : Nat} (h : i < l.length) : tkF x (l.take (i + 1)) = tk1 x (tkF x (l.take i)) (l.getD i pc0) := by
  rw [List.take_succ_eq_append_getElem h, tkF_snoc, List.getD_eq_getElem?_getD, List.getElem?_eq_getElem h]; rfl
theorem tk_all (x : Int) : ∀ (l r : List Pc) (b : List UInt8), l.foldl (tk1 x) (true, r, b) = (true, r ++ l, b)
  | [], r, b => by simp
  | q :: l, r, b => by
    rw [List.foldl_cons, show tk1 x (true, r, b) q = (true, r ++ [q], b) from rfl, tk_all x l]
    simp
theorem tk_none {x : Int} : ∀ (l r : List Pc) (b : List UInt8), (l.foldl (tk1 x) (false, r, b)).1 = false → l.foldl (tk1 x) (false, r, b) = (false, r ++ l, b) ∧ ∀ q ∈ l, q.n ≠ x
  | [], r, b, _ => by simp
  | q :: l, r, b, h => by
    rw [List.foldl_cons] at h ⊢
    by_cases h3 : (q.n == x) = true
    · rw [show tk1 x (false, r, b) q = (true, r, b ++ q.b) by simp [tk1, h3], tk_all] at h
      cases h
    · rw [Bool.not_eq_true] at h3
      rw [show tk1 x (false, r, b) q = (false, r ++ [q], b) by simp [tk1, h3]] at h ⊢
      obtain ⟨h4, h5⟩ := tk_none l _ _ h
      refine ⟨by rw [h4]; simp, fun p hp => ?_⟩
      rcases List.mem_cons.1 hp with rfl | hp
      · simpa using h3
      · exact h5 p hp
theorem tk_some {x : Int} : ∀ (l r : List Pc) (b : List UInt8), (l.foldl (tk1 x) (false, r, b)).1 = true → ∃ l1 q l2, l = l1 ++ q :: l2 ∧ q.n = x ∧ l.foldl (tk1 x) (false, r, b) = (true, r ++ (l1 ++ l2), b ++ q.b)
  | [], r, b, h => by cases h
  | q :: l, r, b, h => by
    rw [List.foldl_cons] at h ⊢
    by_cases h3 : (q.n == x) = true
    · rw [show tk1 x (false, r, b) q = (true, r, b ++ q.b) by simp [tk1, h3], tk_all]
      exact ⟨[], q, l, rfl, by simpa using h3, by simp⟩
    · rw [Bool.not_eq_true] at h3
      rw [show tk1 x (false, r, b) q = (false, r ++ [q], b) by simp [tk1, h3]] at h ⊢
      obtain ⟨l1, p, l2, h4, h5, h6⟩ := tk_some l _ _ h
      exact ⟨q :: l1, p, l2, by rw [h4]; rfl, h5, by rw [h6]; simp⟩
theorem tkF_none {x : Int} {l : List Pc} (h : (tkF x l).1 = false) : tkF x l = (false, l, []) ∧ ∀ q ∈ l, q.n ≠ x := by
  simpa [tkF] using tk_none l [] [] h
theorem tkF_some {x : Int} {l : List Pc} (h : (tkF x l).1 = true) : ∃ l1 q l2, l = l1 ++ q :: l2 ∧ q.n = x ∧ tkF x l = (true, l1 ++ l2, q.b) := by
  simpa [tkF] using tk_some l [] [] h
def tkOk (T : Bool × List Pc × List UInt8) (l : List Pc) : Prop := T.2.2.length + pcSum T.2.1 = pcSum l ∧ (if T.1 = true then T.2.1.length + 1 = l.length else T.2.1.length = l.length)
theorem tk1_ok {x : Int} {T : Bool × List Pc × List UInt8} {l : List Pc} {q : Pc} (h : tkOk T l) : tkOk (tk1 x T q) (l ++ [q]) := by
  obtain ⟨f, r, b⟩ := T
  obtain ⟨h1, h2⟩ := h
  simp only at h1 h2
  unfold tk1 tkOk
  cases f
  · by_cases h3 : (q.n == x) = true
    · simp only [h3, Bool.not_false, Bool.true_and, if_true, pcSum_app, List.length_append, List.length_singleton]
      simp at h2
      omega
    · rw [Bool.not_eq_true] at h3
      simp only [h3, Bool.not_false, Bool.and_false, Bool.false_eq_true, if_false, pcSum_app, List.length_append, List.length_singleton]
      simp at h2
      omega
  · simp only [Bool.not_true, Bool.false_and, Bool.false_eq_true, if_false, if_true, pcSum_app, List.length_append, List.length_singleton]
    simp at h2
    omega
theorem tkF_ok (x : Int) (l : List Pc) : ∀ i, i ≤ l.length → tkOk (tkF x (l.take i)) (l.take i)
  | 0, _ => ⟨rfl, rfl⟩
  | i + 1, h => by
    have h2 := tk1_ok (x := x) (q := l.getD i pc0) (tkF_ok x l i (by omega))
    rw [← tkF_at x (by omega)] at h2
    have h3 : l.take i ++ [l.getD i pc0] = l.take (i + 1) := by
      rw [List.take_succ_eq_append_getElem (by omega), List.getD_eq_getElem?_getD, List.getElem?_eq_getElem (by omega)]; rfl
    rw [h3] at h2
    exact h2
theorem pcSum_take : ∀ (l : List Pc) (i : Nat), pcSum (l.take i) + pcSum (l.drop i) = pcSum l
  | [], i => by simp [pcSum]
  | p :: l, 0 => by simp [pcSum]
  | p :: l, i + 1 => by
    have := pcSum_take l i
    rw [List.take_succ_cons, List.drop_succ_cons, pcSum, pcSum]
    omega
def En.fnd (e : En) (b : List UInt8) : En := { e with read := e.read ++ b, exp := e.exp + 1 }
def tkL : Nat → En → List Pc → En × List Pc
  | 0, e, L => (e, L)
  | k + 1, e, L => if (tkF e.exp L).1 = true then tkL k (e.fnd (tkF e.exp L).2.2) (tkF e.exp L).2.1 else (e, L)
structure TkO (e : En) (L : List Pc) where
  c : En
  l : List Pc
  h : tkL (l.length + 1) c l = tkL (L.length + 1) e L
  h0 : 0 ≤ c.exp
  hx : c.exp + l.length = e.exp + L.length
  hr : c.read.length + pcSum l = e.read.length + pcSum L
  hw : c.way = e.way
def TkO.st {e : En} {L : List Pc} (a : TkO e L) : PS := { n := 53, env := [(2, .box 4 0), (1, .box 0 0)], objs := [(0, some (rcs a.c (pcs a.c.way) (pcs a.l))), (4, some rz)], live := [], nxt := 60 }
structure TkI (c : En) (l : List Pc) where
  i : Nat
  hi : i ≤ l.length
def TkI.st {c : En} {l : List Pc} (a : TkI c l) : PS := { n := 53, env := [(5, .int .i64 a.i), (4, .slt 3 ((tkF c.exp (l.take a.i)).2.1.map Pc.pv) 50), (3, .bool (tkF c.exp (l.take a.i)).1), (2, .box 4 0), (1, .box 0 0)], objs := [(0, some (rcs { c with read := c.read ++ (tkF c.exp (l.take a.i)).2.2 } (pcs c.way) (pcs l))), (4, some rz)], live := [(50, true)], nxt := 60 }
set_option maxHeartbeats 8000000 in
theorem rtake_fs (e : En) (L : List Pc) (h0 : 0 ≤ e.exp) (h1 : e.exp ≤ 1000000000) (hl : L.length ≤ 1000) (hr : e.read.length ≤ 1000000000) (hs : pcSum L ≤ 1000000000) : Fsp Try.prog 42 [] 0 [rpv e L] [] 0 (rpv (tkL (L.length + 1) e L).1 (tkL (L.length + 1) e L).2) := by
  generalize hE : tkL (L.length + 1) e L = E
  (refine Fsp.of (nx := 0) mixed Try.func42 rfl (by decide) (by first | exact Nat.le_refl _ | simp) (by simp [Try.f42]) ⟨by decide, by decide⟩ ?_; simp -implicitDefEqProofs only [push_cast, Try.f42, rpv, rcs, pcs, Int.reduceBEq, Int.reduceBNe, Int.reduceEq, Int.reduceNe, Int.reducePow, Nat.reduceAdd, Nat.reduceMul, Nat.reduceSub, Nat.reduceLT, Nat.reduceLeDiff, Nat.reduceEqDiff, Nat.reduceBEq, Int.reduceLT, Int.reduceLE, Int.reduceAdd, Int.reduceSub, Int.reduceMul, Int.reduceToNat, Int.reduceNeg, reduceIte, reduceCtorEq, reduceBEq])
  refine loopC_of (α := TkO e L) TkO.st (fun a => a.l.length) ⟨e, L, rfl, h0, rfl, rfl, rfl⟩ ?_ ?_
  · (simp only [TkO.st, rcs, rz, pcs]; exact Wk.by _ _ _ [(0, 0), (4, 4)] [] [] (by simp) (by simp [wkV, PV.el, PV.weak, PS.get, PS.obj, PS.lv, lkp_hit, lkp_miss, lkp_nil, lko]) (by simp [PS.get, PS.obj, PS.lv, lkp_hit, lkp_miss, lkp_nil, lko, wkL, wkC, PV.weak]) (by simp [PS.get, PS.obj, PS.lv, lkp_hit, lkp_miss, lkp_nil, lko]) (by rfl) (by rfl) (by simp [lko]) (by simp) (by simp) (by simp) (fun i hi => absurd hi (Nat.not_lt_zero i)))
  · rintro ⟨c, l, hc, hc0, hcx, hcr, hcw⟩
    have hll : l.length ≤ 2000000000 := by omega
    simp -implicitDefEqProofs only [push_cast, TkO.st, rcs, rz, pcs, Int.reduceBEq, Int.reduceBNe, Int.reduceEq, Int.reduceNe, Int.reducePow, Nat.reduceAdd, Nat.reduceMul, Nat.reduceSub, Nat.reduceLT, Nat.reduceLeDiff, Nat.reduceEqDiff, Nat.reduceBEq, Int.reduceLT, Int.reduceLE, Int.reduceAdd, Int.reduceSub, Int.reduceMul, Int.reduceToNat, Int.reduceNeg, reduceIte, reduceCtorEq, reduceBEq]
    refine loopC_of (α := TkI c l) TkI.st (fun a => l.length - a.i) ⟨0, by omega⟩ ?_ ?_
    · (simp only [TkI.st, rcs, rz, pcs]; exact Wk.by _ _ _ [(0, 0), (4, 4)] [] [50] (by simp) (by simp [wkV, PV.el, PV.weak, PS.get, PS.obj, PS.lv, lkp_hit, lkp_miss, lkp_nil, lko, tkF]) (by simp [PS.get, PS.obj, PS.lv, lkp_hit, lkp_miss, lkp_nil, lko, wkL, wkC, PV.weak, tkF]) (by simp [PS.get, PS.obj, PS.lv, lkp_hit, lkp_miss, lkp_nil, lko]) (by rfl) (by rfl) (by simp [lko]) (by simp) (by simp) (by simp) (fun i hi => absurd hi (Nat.not_lt_zero i)))
    · rintro ⟨i, hi⟩
      have hok := tkF_ok c.exp l i hi
      simp -implicitDefEqProofs only [push_cast, TkI.st, rcs, rz, pcs, Int.reduceBEq, Int.reduceBNe, Int.reduceEq, Int.reduceNe, Int.reducePow, Nat.reduceAdd, Nat.reduceMul, Nat.reduceSub, Nat.reduceLT, Nat.reduceLeDiff, Nat.reduceEqDiff, Nat.reduceBEq, Int.reduceLT, Int.reduceLE, Int.reduceAdd, Int.reduceSub, Int.reduceMul, Int.reduceToNat, Int.reduceNeg, reduceIte, reduceCtorEq, reduceBEq]
      refine condC_split (fun h2 => ?_) (fun h2 => ?_)
      · have hlt : i < l.length := by simpa using h2
        have hat := tkF_at c.exp hlt
        have hg := pcs_at hlt
        have hok1 := tkF_ok c.exp l (i + 1) hlt
        have v1 : IntKind.i64.wrap ((i : Int) + 1) = ((i + 1 : Nat) : Int) := by (rw [wrap_i64_id (by omega) (by omega)]; rfl)
        have hle : pcSum (l.take (i + 1)) ≤ pcSum l := by
          have h5 := pcSum_take l (i + 1)
          omega
        rw [hat] at hok1
        generalize hq : l.getD i pc0 = q at hat hg hok1
        generalize hT : tkF c.exp (List.take i l) = T at hat hok hok1
        obtain ⟨f, r, b⟩ := T
        have hrl : (r.map Pc.pv).length ≤ i := by
          obtain ⟨-, h6⟩ := hok
          rw [List.length_take] at h6
          rw [List.length_map]
          split at h6 <;> (simp only at h6; omega)
        cases f
        · have hat1 : (q.n == c.exp) = true → tk1 c.exp (false, r, b) q = (true, r, b ++ q.b) := fun h => by simp [tk1, h]
          have hat2 : (q.n == c.exp) = false → tk1 c.exp (false, r, b) q = (false, r ++ [q], b) := fun h => by simp [tk1, h]
          simp -implicitDefEqProofs only [push_cast, hg, Pc.pv, Int.reduceBEq, Int.reduceBNe, Int.reduceEq, Int.reduceNe, Int.reducePow, Nat.reduceAdd, Nat.reduceMul, Nat.reduceSub, Nat.reduceLT, Nat.reduceLeDiff, Nat.reduceEqDiff, Nat.reduceBEq, Int.reduceLT, Int.reduceLE, Int.reduceAdd, Int.reduceSub, Int.reduceMul, Int.reduceToNat, Int.reduceNeg, reduceIte, reduceCtorEq, reduceBEq]
          (repeat (first | refine ⟨by simpa using hlt, ?_⟩ | refine ⟨by (unfold drawOk; kernel_rfl), ?_⟩))
          refine condC_split (fun h3 => ?_) (fun h3 => ?_)
          · rw [hat1 h3] at hat hok1
            have hb1 := hok1.1
            simp only [List.length_append] at hb1
            simp -implicitDefEqProofs only [push_cast, hg, Pc.pv, Int.reduceBEq, Int.reduceBNe, Int.reduceEq, Int.reduceNe, Int.reducePow, Nat.reduceAdd, Nat.reduceMul, Nat.reduceSub, Nat.reduceLT, Nat.reduceLeDiff, Nat.reduceEqDiff, Nat.reduceBEq, Int.reduceLT, Int.reduceLE, Int.reduceAdd, Int.reduceSub, Int.reduceMul, Int.reduceToNat, Int.reduceNeg, reduceIte, reduceCtorEq, reduceBEq]
            skip
            (repeat (first | refine ⟨by simpa using hlt, ?_⟩ | refine ⟨by (unfold drawOk; kernel_rfl), ?_⟩ | refine ⟨by simp only [List.length_append]; omega, ?_⟩))
            rw [v1]
            refine ⟨⟨i + 1, by omega⟩, by simp only; omega, ?_⟩
            (simp only [TkI.st, rcs, rz, pcs]; exact Wk.by _ _ _ [(0, 0), (4, 4)] [(50, 50)] [] (by simp) (by simp [wkV, PV.el, PV.weak, PS.get, PS.obj, PS.lv, lkp_hit, lkp_miss, lkp_nil, lko, hat, hT]) (by simp [PS.get, PS.obj, PS.lv, lkp_hit, lkp_miss, lkp_nil, lko, wkL, wkC, PV.weak, hat, hT]) (by simp [PS.get, PS.obj, PS.lv, lkp_hit, lkp_miss, lkp_nil, lko]) (by rfl) (by rfl) (by simp [lko]) (by simp) (by simp) (by simp) (fun i hi => absurd hi (Nat.not_lt_zero i)))
          · rw [hat2 h3] at hat hok1
            simp -implicitDefEqProofs only [push_cast, hg, Pc.pv, Int.reduceBEq, Int.reduceBNe, Int.reduceEq, Int.reduceNe, Int.reducePow, Nat.reduceAdd, Nat.reduceMul, Nat.reduceSub, Nat.reduceLT, Nat.reduceLeDiff, Nat.reduceEqDiff, Nat.reduceBEq, Int.reduceLT, Int.reduceLE, Int.reduceAdd, Int.reduceSub, Int.reduceMul, Int.reduceToNat, Int.reduceNeg, reduceIte, reduceCtorEq, reduceBEq]
            skip
            (repeat (first | refine ⟨by simpa using hlt, ?_⟩ | refine ⟨by (unfold drawOk; kernel_rfl), ?_⟩ | refine ⟨by omega, ?_⟩))
            rw [v1]
            refine ⟨⟨i + 1, by omega⟩, by simp only; omega, ?_⟩
            (simp only [TkI.st, rcs, rz, pcs]; exact Wk.by _ _ _ [(0, 0), (4, 4)] [(50, 160)] [] (by simp) (by simp [wkV, PV.el, PV.weak, PS.get, PS.obj, PS.lv, lkp_hit, lkp_miss, lkp_nil, lko, hat, hT, Pc.pv]) (by simp [PS.get, PS.obj, PS.lv, lkp_hit, lkp_miss, lkp_nil, lko, wkL, wkC, PV.weak, hat, hT, Pc.pv]) (by simp [PS.get, PS.obj, PS.lv, lkp_hit, lkp_miss, lkp_nil, lko]) (by rfl) (by rfl) (by simp [lko]) (by simp) (by simp) (by simp) (fun i hi => absurd hi (Nat.not_lt_zero i)))
        · have hat2 : tk1 c.exp (true, r, b) q = (true, r ++ [q], b) := by simp [tk1]
          rw [hat2] at hat hok1
          simp -implicitDefEqProofs only [push_cast, hg, Pc.pv, Int.reduceBEq, Int.reduceBNe, Int.reduceEq, Int.reduceNe, Int.reducePow, Nat.reduceAdd, Nat.reduceMul, Nat.reduceSub, Nat.reduceLT, Nat.reduceLeDiff, Nat.reduceEqDiff, Nat.reduceBEq, Int.reduceLT, Int.reduceLE, Int.reduceAdd, Int.reduceSub, Int.reduceMul, Int.reduceToNat, Int.reduceNeg, reduceIte, reduceCtorEq, reduceBEq]
          skip
          (repeat (first | refine ⟨by simpa using hlt, ?_⟩ | refine ⟨by (unfold drawOk; kernel_rfl), ?_⟩ | refine ⟨by omega, ?_⟩))
          rw [v1]
          refine ⟨⟨i + 1, by omega⟩, by simp only; omega, ?_⟩
          (simp only [TkI.st, rcs, rz, pcs]; exact Wk.by _ _ _ [(0, 0), (4, 4)] [(50, 160)] [] (by simp) (by simp [wkV, PV.el, PV.weak, PS.get, PS.obj, PS.lv, lkp_hit, lkp_miss, lkp_nil, lko, hat, hT, Pc.pv]) (by simp [PS.get, PS.obj, PS.lv, lkp_hit, lkp_miss, lkp_nil, lko, wkL, wkC, PV.weak, hat, hT, Pc.pv]) (by simp [PS.get, PS.obj, PS.lv, lkp_hit, lkp_miss, lkp_nil, lko]) (by rfl) (by rfl) (by simp [lko]) (by simp) (by simp) (by simp) (fun i hi => absurd hi (Nat.not_lt_zero i)))
      · have hie : i = l.length := by simp at h2; omega
        subst hie
        have hlt : List.take l.length l = l := List.take_length
        rw [hlt] at hok
        have hcc : tkL (l.length + 1) c l = if (tkF c.exp l).1 = true then tkL l.length (c.fnd (tkF c.exp l).2.2) (tkF c.exp l).2.1 else (c, l) := rfl
        simp -implicitDefEqProofs only [push_cast, hlt, Int.reduceBEq, Int.reduceBNe, Int.reduceEq, Int.reduceNe, Int.reducePow, Nat.reduceAdd, Nat.reduceMul, Nat.reduceSub, Nat.reduceLT, Nat.reduceLeDiff, Nat.reduceEqDiff, Nat.reduceBEq, Int.reduceLT, Int.reduceLE, Int.reduceAdd, Int.reduceSub, Int.reduceMul, Int.reduceToNat, Int.reduceNeg, reduceIte, reduceCtorEq, reduceBEq]
        generalize hT : tkF c.exp l = T at hcc hok
        obtain ⟨f, r, b⟩ := T
        obtain ⟨k1, k2⟩ := hok
        cases f
        · rw [if_neg Bool.false_ne_true] at hcc k2
          simp only at k1 k2
          have hb : b = [] := by
            obtain ⟨h9, -⟩ := tkF_none (x := c.exp) (l := l) (by rw [hT])
            rw [hT] at h9
            injection h9 with _ h9
            injection h9
          have hEc : E = (c, l) := by rw [← hE, ← hc, hcc]
          rw [hEc, hb, List.append_nil]
          simp -implicitDefEqProofs only [push_cast, Int.reduceBEq, Int.reduceBNe, Int.reduceEq, Int.reduceNe, Int.reducePow, Nat.reduceAdd, Nat.reduceMul, Nat.reduceSub, Nat.reduceLT, Nat.reduceLeDiff, Nat.reduceEqDiff, Nat.reduceBEq, Int.reduceLT, Int.reduceLE, Int.reduceAdd, Int.reduceSub, Int.reduceMul, Int.reduceToNat, Int.reduceNeg, reduceIte, reduceCtorEq, reduceBEq]
          all_goals first | exact .inl rfl | exact ⟨_, rfl, by simp [wkL, res2, res1, PV.weak, PV.el, rpv, rcs, pcs]⟩
        · rw [if_pos rfl] at hcc k2
          simp only at k1 k2 hcc
          have hw1 : IntKind.i64.wrap (c.exp + 1) = c.exp + 1 := by rw [wrap_i64_id (by omega) (by omega)]
          simp -implicitDefEqProofs only [push_cast, Int.reduceBEq, Int.reduceBNe, Int.reduceEq, Int.reduceNe, Int.reducePow, Nat.reduceAdd, Nat.reduceMul, Nat.reduceSub, Nat.reduceLT, Nat.reduceLeDiff, Nat.reduceEqDiff, Nat.reduceBEq, Int.reduceLT, Int.reduceLE, Int.reduceAdd, Int.reduceSub, Int.reduceMul, Int.reduceToNat, Int.reduceNeg, reduceIte, reduceCtorEq, reduceBEq]
          rw [hw1]
          refine ⟨⟨c.fnd b, r, by rw [← hc, hcc, k2], by show 0 ≤ c.exp + 1; omega, by show c.exp + 1 + _ = _; omega, by show (c.read ++ b).length + _ = _; rw [List.length_append]; omega, hcw⟩, by simp only; omega, ?_⟩
          skip
          (simp only [TkO.st, rcs, rz, pcs]; exact Wk.by _ _ _ [(0, 0), (4, 4)] [] [] (by simp) (by simp [wkV, PV.el, PV.weak, PS.get, PS.obj, PS.lv, lkp_hit, lkp_miss, lkp_nil, lko, En.fnd]) (by simp [PS.get, PS.obj, PS.lv, lkp_hit, lkp_miss, lkp_nil, lko, wkL, wkC, PV.weak, En.fnd]) (by simp [PS.get, PS.obj, PS.lv, lkp_hit, lkp_miss, lkp_nil, lko]) (by rfl) (by rfl) (by simp [lko]) (by simp) (by simp) (by simp) (fun i hi => absurd hi (Nat.not_lt_zero i)))

end Go.Proofs.Lk

/- The document's end: Got. -/
set_option maxRecDepth 100000
set_option linter.unusedSimpArgs false
set_option linter.unusedVariables false
namespace Go.Proofs.Lk
open Go.Pv

def l2 (p : List UInt8) : Nat := (((p.drop 9).take 2).getD 0 0).toNat * 256 + (((p.drop 9).take 2).getD 1 0).toNat
/-- What the document tells of a packet that came: an error's number, 0: none. -/
def rgotN (e : En) (p : List UInt8) : Int :=
  if (e.most == 0) = true then 9
  else if decide ((p.length : Int) < 11) = true then 3
  else if decide ((1 : Int) < kd p) = true then 10
  else if (((l2 p : Nat) : Int) != ((bd p).length : Int) || pkt (kd p) (nu p) (to p) (bd p) == []) = true then 2
  else if (decide (e.next < to p) || kd p == 0 && decide (e.exp + 15 < nu p)) = true then 1
  else 0
def En.rack (e : En) (a : Int) : En := { e with way := e.way.filter fun q => decide (a ≤ q.n) }
def lay (e : En) (L : List Pc) (n : Int) (b : List UInt8) : List Pc := if (decide (n < e.exp) || L.any fun q => q.n == n) = true then L else L ++ [⟨n, b, false⟩]
def rgE (e : En) (L : List Pc) (p : List UInt8) : En × List Pc :=
  if (kd p == 0) = true then
    let L2 := lay e L (nu p) (bd p)
    let T := tkL (L2.length + 1) (e.rack (to p)).acked L2
    (T.1.number, T.2)
  else ((e.rack (to p)).number, L)
def rgotR (e : En) (L : List Pc) (p : List UInt8) : PV := .tup [if (rgotN e p == 0) = true then rpv (rgE e L p).1 (rgE e L p).2 else rpv e L, .int .i64 (rgotN e p)]
theorem lay_len (e : En) (L : List Pc) (n : Int) (b : List UInt8) : (lay e L n b).length ≤ L.length + 1 := by
  unfold lay; split
  · omega
  · simp
theorem lay_sum (e : En) (L : List Pc) (n : Int) (b : List UInt8) : pcSum (lay e L n b) ≤ pcSum L + b.length := by
  unfold lay; split
  · omega
  · rw [pcSum_app]; exact Nat.le_refl _
theorem tkL_same : ∀ (k : Nat) (e : En) (L : List Pc), (tkL k e L).1.way = e.way ∧ (tkL k e L).1.most = e.most ∧ (tkL k e L).1.rest = e.rest ∧ (tkL k e L).1.next = e.next
  | 0, e, L => ⟨rfl, rfl, rfl, rfl⟩
  | k + 1, e, L => by
    unfold tkL
    split
    · exact tkL_same k _ _
    · exact ⟨rfl, rfl, rfl, rfl⟩
structure RgW (e : En) where
  i : Nat
  hi : i ≤ e.way.length
def RgW.st (L : List Pc) (p : List UInt8) {e : En} (a : RgW e) : PS := { n := 147, env := [(15, .int .i64 a.i), (14, .slt 3 (((e.way.take a.i).filter fun q => decide (to p ≤ q.n)).map Pc.pv) 50), (13, .str (bd p)), (9, .int .i64 (to p)), (7, .int .i64 (nu p)), (6, .int .i64 (kd p)), (4, .box 4 0), (2, .box 0 0)], objs := [(0, some (rcs e (pcs e.way) (pcs L))), (4, some rz)], live := [(50, true)], nxt := 60 }
structure RgA (L : List Pc) where
  i : Nat
  hi : i ≤ L.length
def RgA.st (e : En) (p : List UInt8) {L : List Pc} (a : RgA L) : PS := { n := 147, env := [(17, .int .i64 a.i), (16, .bool (decide (nu p < e.exp) || (L.take a.i).any fun q => q.n == nu p)), (13, .str (bd p)), (9, .int .i64 (to p)), (7, .int .i64 (nu p)), (6, .int .i64 (kd p)), (4, .box 4 0), (2, .box 0 0)], objs := [(0, some (rcs (e.rack (to p)).acked (pcs (e.rack (to p)).way) (pcs L))), (4, some rz)], live := [], nxt := 60 }
theorem filt_at (a : Int) {l : List Pc} {i : Nat} (h : i < l.length) : (l.take (i + 1)).filter (fun q => decide (a ≤ q.n)) = if (decide (a ≤ (l.getD i pc0).n)) = true then (l.take i).filter (fun q => decide (a ≤ q.n)) ++ [l.getD i pc0] else (l.take i).filter (fun q => decide (a ≤ q.n)) := by
  have h2 : l.getD i pc0 = l[i] := by rw [List.getD_eq_getElem?_getD, List.getElem?_eq_getElem h]; rfl
  rw [List.take_succ_eq_append_getElem h, List.filter_append, h2]
  split <;> simp_all
theorem any_at (a : Int) {l : List Pc} {i : Nat} (h : i < l.length) : (l.take (i + 1)).any (fun q => q.n == a) = ((l.take i).any (fun q => q.n == a) || (l.getD i pc0).n == a) := by
  have h2 : l.getD i pc0 = l[i] := by rw [List.getD_eq_getElem?_getD, List.getElem?_eq_getElem h]; rfl
  rw [List.take_succ_eq_append_getElem h, List.any_append, h2]
  simp
theorem t4 : ∀ a b : Bool, a = false → a = false ∧ (b = true → (!a && b) = true) := by decide
set_option maxHeartbeats 8000000 in
theorem rgot_fs (e : En) (L : List Pc) (p : List UInt8) (he : e.Ok) (hp : p.length ≤ 1000000) (hL : L.length ≤ 900) (hs : pcSum L ≤ 900000000) : Fsp Try.prog 23 [] 0 [rpv e L, .str p] [] 0 (rgotR e L p) := by
  have hres : ∀ k : Int, k ≠ 0 → rgotN e p = k → rgotR e L p = .tup [rpv e L, .int .i64 k] := by
    intro k hk h
    unfold rgotR
    rw [h, if_neg (by simpa using hk)]
  generalize hX : rgotR e L p = X at hres ⊢
  (refine Fsp.of (nx := 0) mixed Try.func23 rfl (by decide) (by first | exact Nat.le_refl _ | simp) (by simp [Try.f23]) ⟨by decide, by decide⟩ ?_; simp -implicitDefEqProofs only [push_cast, Try.f23, rpv, rcs, pcs, Int.reduceBEq, Int.reduceBNe, Int.reduceEq, Int.reduceNe, Int.reducePow, Nat.reduceAdd, Nat.reduceMul, Nat.reduceSub, Nat.reduceLT, Nat.reduceLeDiff, Nat.reduceEqDiff, Nat.reduceBEq, Int.reduceLT, Int.reduceLE, Int.reduceAdd, Int.reduceSub, Int.reduceMul, Int.reduceToNat, Int.reduceNeg, reduceIte, reduceCtorEq, reduceBEq])
  refine condC_split (fun h => ?_) (fun h => ?_)
  · rw [hres 9 (by decide) (by unfold rgotN; rw [if_pos h])]
    simp -implicitDefEqProofs only [push_cast, rpv, rcs, pcs, Int.reduceBEq, Int.reduceBNe, Int.reduceEq, Int.reduceNe, Int.reducePow, Nat.reduceAdd, Nat.reduceMul, Nat.reduceSub, Nat.reduceLT, Nat.reduceLeDiff, Nat.reduceEqDiff, Nat.reduceBEq, Int.reduceLT, Int.reduceLE, Int.reduceAdd, Int.reduceSub, Int.reduceMul, Int.reduceToNat, Int.reduceNeg, reduceIte, reduceCtorEq, reduceBEq]
    all_goals first | exact .inl rfl | exact ⟨_, rfl, by simp [wkL, res2, res1, PV.weak, PV.el, rpv, rcs, pcs]⟩
  · simp -implicitDefEqProofs only [push_cast, Int.reduceBEq, Int.reduceBNe, Int.reduceEq, Int.reduceNe, Int.reducePow, Nat.reduceAdd, Nat.reduceMul, Nat.reduceSub, Nat.reduceLT, Nat.reduceLeDiff, Nat.reduceEqDiff, Nat.reduceBEq, Int.reduceLT, Int.reduceLE, Int.reduceAdd, Int.reduceSub, Int.reduceMul, Int.reduceToNat, Int.reduceNeg, reduceIte, reduceCtorEq, reduceBEq]
    refine condC_split (fun h2 => ?_) (fun h2 => ?_)
    · rw [hres 3 (by decide) (by unfold rgotN; rw [if_neg (by rw [h]; exact Bool.false_ne_true), if_pos h2])]
      simp -implicitDefEqProofs only [push_cast, rpv, rcs, pcs, Int.reduceBEq, Int.reduceBNe, Int.reduceEq, Int.reduceNe, Int.reducePow, Nat.reduceAdd, Nat.reduceMul, Nat.reduceSub, Nat.reduceLT, Nat.reduceLeDiff, Nat.reduceEqDiff, Nat.reduceBEq, Int.reduceLT, Int.reduceLE, Int.reduceAdd, Int.reduceSub, Int.reduceMul, Int.reduceToNat, Int.reduceNeg, reduceIte, reduceCtorEq, reduceBEq]
      all_goals first | exact .inl rfl | exact ⟨_, rfl, by simp [wkL, res2, res1, PV.weak, PV.el, rpv, rcs, pcs]⟩
    · have hl : 11 ≤ p.length := by simp at h2; omega
      have hkw : IntKind.i64.wrap ((p.getD 0 0).toNat : Int) = kd p := by
        have := u8lt (p.getD 0 0)
        rw [wrap_i64_id (by omega) (by omega)]
        rfl
      have hbd : List.take (p.length - 11) (List.drop 11 p) = bd p := by rw [List.take_of_length_le (by simp)]; rfl
      have hew : IntKind.i64.wrap (e.exp + 15) = e.exp + 15 := by have := he.e0; have := he.e1; rw [wrap_i64_id (by omega) (by omega)]
      have h4a : Fsp Try.prog 41 [] 0 [.int .i64 1, .int .i64 4, .str ((p.drop 1).take 4)] [] 0 (.tup [.int .i64 (nu p), .int .i64 0]) := rget4 ((p.drop 1).take 4) (by simp; omega)
      have h4b : Fsp Try.prog 41 [] 0 [.int .i64 1, .int .i64 4, .str ((p.drop 5).take 4)] [] 0 (.tup [.int .i64 (to p), .int .i64 0]) := rget4 ((p.drop 5).take 4) (by simp; omega)
      have h4c : Fsp Try.prog 41 [] 0 [.int .i64 1, .int .i64 2, .str ((p.drop 9).take 2)] [] 0 (.tup [.int .i64 ((l2 p : Nat) : Int), .int .i64 0]) := rget2 ((p.drop 9).take 2) (by simp; omega)
      have hpk := rpk (kd p) (nu p) (to p) (bd p) (by unfold bd; simp; omega)
      have hnu0 : 0 ≤ nu p := Int.natCast_nonneg _
      have hto0 : 0 ≤ to p := Int.natCast_nonneg _
      simp -implicitDefEqProofs only [push_cast, hkw, Int.reduceBEq, Int.reduceBNe, Int.reduceEq, Int.reduceNe, Int.reducePow, Nat.reduceAdd, Nat.reduceMul, Nat.reduceSub, Nat.reduceLT, Nat.reduceLeDiff, Nat.reduceEqDiff, Nat.reduceBEq, Int.reduceLT, Int.reduceLE, Int.reduceAdd, Int.reduceSub, Int.reduceMul, Int.reduceToNat, Int.reduceNeg, reduceIte, reduceCtorEq, reduceBEq]
      (repeat (first | refine ⟨by omega, ?_⟩ | refine ⟨by (unfold drawOk; kernel_rfl), ?_⟩ | refine ⟨by simp; omega, ?_⟩))
      refine condC_split (fun h3 => ?_) (fun h3 => ?_)
      · rw [hres 10 (by decide) (by unfold rgotN; rw [if_neg (by rw [h]; exact Bool.false_ne_true), if_neg (by rw [h2]; exact Bool.false_ne_true), if_pos h3])]
        simp -implicitDefEqProofs only [push_cast, rpv, rcs, pcs, Int.reduceBEq, Int.reduceBNe, Int.reduceEq, Int.reduceNe, Int.reducePow, Nat.reduceAdd, Nat.reduceMul, Nat.reduceSub, Nat.reduceLT, Nat.reduceLeDiff, Nat.reduceEqDiff, Nat.reduceBEq, Int.reduceLT, Int.reduceLE, Int.reduceAdd, Int.reduceSub, Int.reduceMul, Int.reduceToNat, Int.reduceNeg, reduceIte, reduceCtorEq, reduceBEq]
        all_goals first | exact .inl rfl | exact ⟨_, rfl, by simp [wkL, res2, res1, PV.weak, PV.el, rpv, rcs, pcs]⟩
      · simp -implicitDefEqProofs only [push_cast, Int.reduceBEq, Int.reduceBNe, Int.reduceEq, Int.reduceNe, Int.reducePow, Nat.reduceAdd, Nat.reduceMul, Nat.reduceSub, Nat.reduceLT, Nat.reduceLeDiff, Nat.reduceEqDiff, Nat.reduceBEq, Int.reduceLT, Int.reduceLE, Int.reduceAdd, Int.reduceSub, Int.reduceMul, Int.reduceToNat, Int.reduceNeg, reduceIte, reduceCtorEq, reduceBEq]
        (repeat (first | refine ⟨by omega, ?_⟩ | refine ⟨by (unfold drawOk; kernel_rfl), ?_⟩ | refine ⟨by simp; omega, ?_⟩))
        refine callE_pure h4a (by rfl) (by rfl) (by rfl) (by decide) (by rfl) (fun _ => by rfl) (by first | rfl | simp [gdOk, newToks]) ?_
        simp -implicitDefEqProofs only [push_cast, Int.reduceBEq, Int.reduceBNe, Int.reduceEq, Int.reduceNe, Int.reducePow, Nat.reduceAdd, Nat.reduceMul, Nat.reduceSub, Nat.reduceLT, Nat.reduceLeDiff, Nat.reduceEqDiff, Nat.reduceBEq, Int.reduceLT, Int.reduceLE, Int.reduceAdd, Int.reduceSub, Int.reduceMul, Int.reduceToNat, Int.reduceNeg, reduceIte, reduceCtorEq, reduceBEq]
        (repeat (first | refine ⟨by omega, ?_⟩ | refine ⟨by (unfold drawOk; kernel_rfl), ?_⟩ | refine ⟨by simp; omega, ?_⟩))
        refine callE_pure h4b (by rfl) (by rfl) (by rfl) (by decide) (by rfl) (fun _ => by rfl) (by first | rfl | simp [gdOk, newToks]) ?_
        simp -implicitDefEqProofs only [push_cast, Int.reduceBEq, Int.reduceBNe, Int.reduceEq, Int.reduceNe, Int.reducePow, Nat.reduceAdd, Nat.reduceMul, Nat.reduceSub, Nat.reduceLT, Nat.reduceLeDiff, Nat.reduceEqDiff, Nat.reduceBEq, Int.reduceLT, Int.reduceLE, Int.reduceAdd, Int.reduceSub, Int.reduceMul, Int.reduceToNat, Int.reduceNeg, reduceIte, reduceCtorEq, reduceBEq]
        (repeat (first | refine ⟨by omega, ?_⟩ | refine ⟨by (unfold drawOk; kernel_rfl), ?_⟩ | refine ⟨by simp; omega, ?_⟩))
        refine callE_pure h4c (by rfl) (by rfl) (by rfl) (by decide) (by rfl) (fun _ => by rfl) (by first | rfl | simp [gdOk, newToks]) ?_
        simp -implicitDefEqProofs only [push_cast, hbd, Int.reduceBEq, Int.reduceBNe, Int.reduceEq, Int.reduceNe, Int.reducePow, Nat.reduceAdd, Nat.reduceMul, Nat.reduceSub, Nat.reduceLT, Nat.reduceLeDiff, Nat.reduceEqDiff, Nat.reduceBEq, Int.reduceLT, Int.reduceLE, Int.reduceAdd, Int.reduceSub, Int.reduceMul, Int.reduceToNat, Int.reduceNeg, reduceIte, reduceCtorEq, reduceBEq]
        (repeat (first | refine ⟨by omega, ?_⟩ | refine ⟨by (unfold drawOk; kernel_rfl), ?_⟩ | refine ⟨by simp; omega, ?_⟩))
        refine callE_pure hpk (by rfl) (by rfl) (by rfl) (by decide) (by rfl) (fun h => by simpa [cndAll, PS.ev, PS.get, lkp, PV.cnd] using h) (by first | rfl | simp [gdOk, newToks]) ?_
        simp -implicitDefEqProofs only [push_cast, Int.reduceBEq, Int.reduceBNe, Int.reduceEq, Int.reduceNe, Int.reducePow, Nat.reduceAdd, Nat.reduceMul, Nat.reduceSub, Nat.reduceLT, Nat.reduceLeDiff, Nat.reduceEqDiff, Nat.reduceBEq, Int.reduceLT, Int.reduceLE, Int.reduceAdd, Int.reduceSub, Int.reduceMul, Int.reduceToNat, Int.reduceNeg, reduceIte, reduceCtorEq, reduceBEq]
        refine condC_split (fun h4 => ?_) (fun h4 => ?_)
        · rw [hres 2 (by decide) (by unfold rgotN; rw [if_neg (by rw [h]; exact Bool.false_ne_true), if_neg (by rw [h2]; exact Bool.false_ne_true), if_neg (by rw [h3]; exact Bool.false_ne_true), if_pos h4])]
          simp -implicitDefEqProofs only [push_cast, rpv, rcs, pcs, Int.reduceBEq, Int.reduceBNe, Int.reduceEq, Int.reduceNe, Int.reducePow, Nat.reduceAdd, Nat.reduceMul, Nat.reduceSub, Nat.reduceLT, Nat.reduceLeDiff, Nat.reduceEqDiff, Nat.reduceBEq, Int.reduceLT, Int.reduceLE, Int.reduceAdd, Int.reduceSub, Int.reduceMul, Int.reduceToNat, Int.reduceNeg, reduceIte, reduceCtorEq, reduceBEq]
          all_goals first | exact .inl rfl | exact ⟨_, rfl, by simp [wkL, res2, res1, PV.weak, PV.el, rpv, rcs, pcs]⟩
        · simp -implicitDefEqProofs only [push_cast, hew, Int.reduceBEq, Int.reduceBNe, Int.reduceEq, Int.reduceNe, Int.reducePow, Nat.reduceAdd, Nat.reduceMul, Nat.reduceSub, Nat.reduceLT, Nat.reduceLeDiff, Nat.reduceEqDiff, Nat.reduceBEq, Int.reduceLT, Int.reduceLE, Int.reduceAdd, Int.reduceSub, Int.reduceMul, Int.reduceToNat, Int.reduceNeg, reduceIte, reduceCtorEq, reduceBEq]
          (try refine ⟨t4 _ _, ?_⟩)
          refine condC_split (fun h5 => ?_) (fun h5 => ?_)
          · rw [hres 1 (by decide) (by unfold rgotN; rw [if_neg (by rw [h]; exact Bool.false_ne_true), if_neg (by rw [h2]; exact Bool.false_ne_true), if_neg (by rw [h3]; exact Bool.false_ne_true), if_neg (by rw [h4]; exact Bool.false_ne_true), if_pos h5])]
            simp -implicitDefEqProofs only [push_cast, rpv, rcs, pcs, Int.reduceBEq, Int.reduceBNe, Int.reduceEq, Int.reduceNe, Int.reducePow, Nat.reduceAdd, Nat.reduceMul, Nat.reduceSub, Nat.reduceLT, Nat.reduceLeDiff, Nat.reduceEqDiff, Nat.reduceBEq, Int.reduceLT, Int.reduceLE, Int.reduceAdd, Int.reduceSub, Int.reduceMul, Int.reduceToNat, Int.reduceNeg, reduceIte, reduceCtorEq, reduceBEq]
            all_goals first | exact .inl rfl | exact ⟨_, rfl, by simp [wkL, res2, res1, PV.weak, PV.el, rpv, rcs, pcs]⟩
          · have hN : rgotN e p = 0 := by
              unfold rgotN
              rw [if_neg (by rw [h]; exact Bool.false_ne_true), if_neg (by rw [h2]; exact Bool.false_ne_true), if_neg (by rw [h3]; exact Bool.false_ne_true), if_neg (by rw [h4]; exact Bool.false_ne_true), if_neg (by rw [h5]; exact Bool.false_ne_true)]
            have hG : X = .tup [rpv (rgE e L p).1 (rgE e L p).2, .int .i64 0] := by
              rw [← hX]
              unfold rgotR
              rw [hN]
              rfl
            have hwl := he.w
            simp -implicitDefEqProofs only [push_cast, Int.reduceBEq, Int.reduceBNe, Int.reduceEq, Int.reduceNe, Int.reducePow, Nat.reduceAdd, Nat.reduceMul, Nat.reduceSub, Nat.reduceLT, Nat.reduceLeDiff, Nat.reduceEqDiff, Nat.reduceBEq, Int.reduceLT, Int.reduceLE, Int.reduceAdd, Int.reduceSub, Int.reduceMul, Int.reduceToNat, Int.reduceNeg, reduceIte, reduceCtorEq, reduceBEq]
            refine loopC_of (α := RgW e) (RgW.st L p) (fun a => e.way.length - a.i) ⟨0, by omega⟩ ?_ ?_
            · (simp only [RgW.st, rcs, rz, pcs]; exact Wk.by _ _ _ [(0, 0), (4, 4)] [] [50] (by simp) (by simp [wkV, PV.el, PV.weak, PS.get, PS.obj, PS.lv, lkp_hit, lkp_miss, lkp_nil, lko]) (by simp [PS.get, PS.obj, PS.lv, lkp_hit, lkp_miss, lkp_nil, lko, wkL, wkC, PV.weak]) (by simp [PS.get, PS.obj, PS.lv, lkp_hit, lkp_miss, lkp_nil, lko]) (by rfl) (by rfl) (by simp [lko]) (by simp) (by simp) (by simp) (fun i hi => absurd hi (Nat.not_lt_zero i)))
            · rintro ⟨i, hi⟩
              simp -implicitDefEqProofs only [push_cast, RgW.st, rcs, rz, pcs, Int.reduceBEq, Int.reduceBNe, Int.reduceEq, Int.reduceNe, Int.reducePow, Nat.reduceAdd, Nat.reduceMul, Nat.reduceSub, Nat.reduceLT, Nat.reduceLeDiff, Nat.reduceEqDiff, Nat.reduceBEq, Int.reduceLT, Int.reduceLE, Int.reduceAdd, Int.reduceSub, Int.reduceMul, Int.reduceToNat, Int.reduceNeg, reduceIte, reduceCtorEq, reduceBEq]
              refine condC_split (fun h6 => ?_) (fun h6 => ?_)
              · have hlt : i < e.way.length := by simpa using h6
                have hat := filt_at (to p) hlt
                have hg := pcs_at hlt
                have v1 : IntKind.i64.wrap ((i : Int) + 1) = ((i + 1 : Nat) : Int) := by (rw [wrap_i64_id (by omega) (by omega)]; rfl)
                have hfl : (((e.way.take i).filter fun q => decide (to p ≤ q.n)).map Pc.pv).length ≤ i := by
                  rw [List.length_map]
                  refine Nat.le_trans (List.length_filter_le _ _) ?_
                  rw [List.length_take]; omega
                generalize hq : e.way.getD i pc0 = q at hat hg
                generalize hF : (e.way.take i).filter (fun q => decide (to p ≤ q.n)) = F at hat hfl
                simp -implicitDefEqProofs only [push_cast, hg, Pc.pv, Int.reduceBEq, Int.reduceBNe, Int.reduceEq, Int.reduceNe, Int.reducePow, Nat.reduceAdd, Nat.reduceMul, Nat.reduceSub, Nat.reduceLT, Nat.reduceLeDiff, Nat.reduceEqDiff, Nat.reduceBEq, Int.reduceLT, Int.reduceLE, Int.reduceAdd, Int.reduceSub, Int.reduceMul, Int.reduceToNat, Int.reduceNeg, reduceIte, reduceCtorEq, reduceBEq]
                (repeat (first | refine ⟨by simpa using hlt, ?_⟩ | refine ⟨by (unfold drawOk; kernel_rfl), ?_⟩ | refine ⟨by omega, ?_⟩))
                refine condC_split (fun h7 => ?_) (fun h7 => ?_)
                · rw [if_pos h7] at hat
                  simp -implicitDefEqProofs only [push_cast, hg, Pc.pv, Int.reduceBEq, Int.reduceBNe, Int.reduceEq, Int.reduceNe, Int.reducePow, Nat.reduceAdd, Nat.reduceMul, Nat.reduceSub, Nat.reduceLT, Nat.reduceLeDiff, Nat.reduceEqDiff, Nat.reduceBEq, Int.reduceLT, Int.reduceLE, Int.reduceAdd, Int.reduceSub, Int.reduceMul, Int.reduceToNat, Int.reduceNeg, reduceIte, reduceCtorEq, reduceBEq]
                  (repeat (first | refine ⟨by simpa using hlt, ?_⟩ | refine ⟨by (unfold drawOk; kernel_rfl), ?_⟩ | refine ⟨by omega, ?_⟩))
                  rw [v1]
                  refine ⟨⟨i + 1, by omega⟩, by simp only; omega, ?_⟩
                  trace_state
                  (simp only [RgW.st, rcs, rz, pcs]; exact Wk.by _ _ _ [(0, 0), (4, 4)] [(50, 140)] [] (by simp) (by simp [wkV, PV.el, PV.weak, PS.get, PS.obj, PS.lv, lkp_hit, lkp_miss, lkp_nil, lko, hat, hF, Pc.pv]) (by simp [PS.get, PS.obj, PS.lv, lkp_hit, lkp_miss, lkp_nil, lko, wkL, wkC, PV.weak, hat, hF, Pc.pv]) (by simp [PS.get, PS.obj, PS.lv, lkp_hit, lkp_miss, lkp_nil, lko]) (by rfl) (by rfl) (by simp [lko]) (by simp) (by simp) (by simp) (fun i hi => absurd hi (Nat.not_lt_zero i)))
                · rw [if_neg (by rw [h7]; exact Bool.false_ne_true)] at hat
                  simp -implicitDefEqProofs only [push_cast, hg, Pc.pv, Int.reduceBEq, Int.reduceBNe, Int.reduceEq, Int.reduceNe, Int.reducePow, Nat.reduceAdd, Nat.reduceMul, Nat.reduceSub, Nat.reduceLT, Nat.reduceLeDiff, Nat.reduceEqDiff, Nat.reduceBEq, Int.reduceLT, Int.reduceLE, Int.reduceAdd, Int.reduceSub, Int.reduceMul, Int.reduceToNat, Int.reduceNeg, reduceIte, reduceCtorEq, reduceBEq]
                  (repeat (first | refine ⟨by simpa using hlt, ?_⟩ | refine ⟨by (unfold drawOk; kernel_rfl), ?_⟩ | refine ⟨by omega, ?_⟩))
                  rw [v1]
                  refine ⟨⟨i + 1, by omega⟩, by simp only; omega, ?_⟩
                  (simp only [RgW.st, rcs, rz, pcs]; exact Wk.by _ _ _ [(0, 0), (4, 4)] [(50, 50)] [] (by simp) (by simp [wkV, PV.el, PV.weak, PS.get, PS.obj, PS.lv, lkp_hit, lkp_miss, lkp_nil, lko, hat, hF, Pc.pv]) (by simp [PS.get, PS.obj, PS.lv, lkp_hit, lkp_miss, lkp_nil, lko, wkL, wkC, PV.weak, hat, hF, Pc.pv]) (by simp [PS.get, PS.obj, PS.lv, lkp_hit, lkp_miss, lkp_nil, lko]) (by rfl) (by rfl) (by simp [lko]) (by simp) (by simp) (by simp) (fun i hi => absurd hi (Nat.not_lt_zero i)))
              · have hie : i = e.way.length := by simp at h6; omega
                subst hie
                have htl : List.take e.way.length e.way = e.way := List.take_length
                have hrl : (e.rack (to p)).way.length ≤ 16 := Nat.le_trans (List.length_filter_le _ _) hwl
                simp -implicitDefEqProofs only [push_cast, htl, Int.reduceBEq, Int.reduceBNe, Int.reduceEq, Int.reduceNe, Int.reducePow, Nat.reduceAdd, Nat.reduceMul, Nat.reduceSub, Nat.reduceLT, Nat.reduceLeDiff, Nat.reduceEqDiff, Nat.reduceBEq, Int.reduceLT, Int.reduceLE, Int.reduceAdd, Int.reduceSub, Int.reduceMul, Int.reduceToNat, Int.reduceNeg, reduceIte, reduceCtorEq, reduceBEq]
                refine condC_split (fun h6 => ?_) (fun h6 => ?_)
                · have hE : rgE e L p = ((tkL ((lay e L (nu p) (bd p)).length + 1) (e.rack (to p)).acked (lay e L (nu p) (bd p))).1.number, (tkL ((lay e L (nu p) (bd p)).length + 1) (e.rack (to p)).acked (lay e L (nu p) (bd p))).2) := by
                    unfold rgE; rw [if_pos h6]
                  have hlen := lay_len e L (nu p) (bd p)
                  have hpl : pcSum (lay e L (nu p) (bd p)) ≤ 1000000000 := by
                    have := lay_sum e L (nu p) (bd p)
                    have : (bd p).length ≤ 1000000 := by unfold bd; simp; omega
                    omega
                  have htk := rtake_fs (e.rack (to p)).acked (lay e L (nu p) (bd p)) he.e0 he.e1 (by omega) he.rl hpl
                  obtain ⟨s1, s2, s3, s4⟩ := tkL_same ((lay e L (nu p) (bd p)).length + 1) (e.rack (to p)).acked (lay e L (nu p) (bd p))
                  have hfi := rfill_fs (tkL ((lay e L (nu p) (bd p)).length + 1) (e.rack (to p)).acked (lay e L (nu p) (bd p))).1 (tkL ((lay e L (nu p) (bd p)).length + 1) (e.rack (to p)).acked (lay e L (nu p) (bd p))).2 (by rw [s2]; exact he.m0) (by rw [s2]; exact he.m1) (by rw [s3]; exact he.r) (by rw [s1]; exact hrl) (by rw [s4]; exact he.n0) (by rw [s4]; exact he.n1)
                  rw [hG, hE]
                  generalize (tkL ((lay e L (nu p) (bd p)).length + 1) (e.rack (to p)).acked (lay e L (nu p) (bd p))) = U at htk hfi ⊢
                  simp -implicitDefEqProofs only [push_cast, Int.reduceBEq, Int.reduceBNe, Int.reduceEq, Int.reduceNe, Int.reducePow, Nat.reduceAdd, Nat.reduceMul, Nat.reduceSub, Nat.reduceLT, Nat.reduceLeDiff, Nat.reduceEqDiff, Nat.reduceBEq, Int.reduceLT, Int.reduceLE, Int.reduceAdd, Int.reduceSub, Int.reduceMul, Int.reduceToNat, Int.reduceNeg, reduceIte, reduceCtorEq, reduceBEq]
                  refine loopC_of (α := RgA L) (RgA.st e p) (fun a => L.length - a.i) ⟨0, by omega⟩ ?_ ?_
                  · (simp only [RgA.st, rcs, rz, pcs]; exact Wk.by _ _ _ [(0, 0), (4, 4)] [] [] (by simp) (by simp [wkV, PV.el, PV.weak, PS.get, PS.obj, PS.lv, lkp_hit, lkp_miss, lkp_nil, lko, En.acked, En.rack]) (by simp [PS.get, PS.obj, PS.lv, lkp_hit, lkp_miss, lkp_nil, lko, wkL, wkC, PV.weak, En.acked, En.rack]) (by simp [PS.get, PS.obj, PS.lv, lkp_hit, lkp_miss, lkp_nil, lko]) (by rfl) (by rfl) (by simp [lko]) (by simp) (by simp) (by simp) (fun i hi => absurd hi (Nat.not_lt_zero i)))
                  · rintro ⟨i, hi⟩
                    simp -implicitDefEqProofs only [push_cast, RgA.st, rcs, rz, pcs, En.acked, En.rack, Int.reduceBEq, Int.reduceBNe, Int.reduceEq, Int.reduceNe, Int.reducePow, Nat.reduceAdd, Nat.reduceMul, Nat.reduceSub, Nat.reduceLT, Nat.reduceLeDiff, Nat.reduceEqDiff, Nat.reduceBEq, Int.reduceLT, Int.reduceLE, Int.reduceAdd, Int.reduceSub, Int.reduceMul, Int.reduceToNat, Int.reduceNeg, reduceIte, reduceCtorEq, reduceBEq]
                    refine condC_split (fun h7 => ?_) (fun h7 => ?_)
                    · have hlt : i < L.length := by simpa using h7
                      have hat := any_at (nu p) hlt
                      have hg := pcs_at hlt
                      have v1 : IntKind.i64.wrap ((i : Int) + 1) = ((i + 1 : Nat) : Int) := by (rw [wrap_i64_id (by omega) (by omega)]; rfl)
                      generalize hq : L.getD i pc0 = q at hat hg
                      generalize hF : (L.take i).any (fun q => q.n == nu p) = F at hat
                      simp -implicitDefEqProofs only [push_cast, hg, Pc.pv, Int.reduceBEq, Int.reduceBNe, Int.reduceEq, Int.reduceNe, Int.reducePow, Nat.reduceAdd, Nat.reduceMul, Nat.reduceSub, Nat.reduceLT, Nat.reduceLeDiff, Nat.reduceEqDiff, Nat.reduceBEq, Int.reduceLT, Int.reduceLE, Int.reduceAdd, Int.reduceSub, Int.reduceMul, Int.reduceToNat, Int.reduceNeg, reduceIte, reduceCtorEq, reduceBEq]
                      rw [v1]
                      refine ⟨fun h => ⟨h, by simpa using hlt⟩, ⟨i + 1, by omega⟩, by simp only; omega, ?_⟩
                      (simp only [RgA.st, rcs, rz, pcs]; exact Wk.by _ _ _ [(0, 0), (4, 4)] [] [] (by simp) (by simp [wkV, PV.el, PV.weak, PS.get, PS.obj, PS.lv, lkp_hit, lkp_miss, lkp_nil, lko, hat, hF, Pc.pv, En.acked, En.rack, Bool.or_assoc]) (by simp [PS.get, PS.obj, PS.lv, lkp_hit, lkp_miss, lkp_nil, lko, wkL, wkC, PV.weak, hat, hF, Pc.pv, En.acked, En.rack, Bool.or_assoc]) (by simp [PS.get, PS.obj, PS.lv, lkp_hit, lkp_miss, lkp_nil, lko]) (by rfl) (by rfl) (by simp [lko]) (by simp) (by simp) (by simp) (fun i hi => absurd hi (Nat.not_lt_zero i)))
                    · have hie : i = L.length := by simp at h7; omega
                      subst hie
                      have htl : List.take L.length L = L := List.take_length
                      simp -implicitDefEqProofs only [push_cast, htl, Int.reduceBEq, Int.reduceBNe, Int.reduceEq, Int.reduceNe, Int.reducePow, Nat.reduceAdd, Nat.reduceMul, Nat.reduceSub, Nat.reduceLT, Nat.reduceLeDiff, Nat.reduceEqDiff, Nat.reduceBEq, Int.reduceLT, Int.reduceLE, Int.reduceAdd, Int.reduceSub, Int.reduceMul, Int.reduceToNat, Int.reduceNeg, reduceIte, reduceCtorEq, reduceBEq]
                      refine condC_split (fun h8 => ?_) (fun h8 => ?_)
                      · have hly : lay e L (nu p) (bd p) = L ++ [⟨nu p, bd p, false⟩] := by
                          unfold lay; rw [if_neg (by rw [Bool.not_eq_true'] at h8; rw [h8]; exact Bool.false_ne_true)]
                        rw [hly] at htk
                        simp only [rpv, rcs, pcs, En.acked, En.rack, List.map_append, List.map_cons, List.map_nil, Pc.pv] at htk hfi ⊢
                        simp -implicitDefEqProofs only [push_cast, Int.reduceBEq, Int.reduceBNe, Int.reduceEq, Int.reduceNe, Int.reducePow, Nat.reduceAdd, Nat.reduceMul, Nat.reduceSub, Nat.reduceLT, Nat.reduceLeDiff, Nat.reduceEqDiff, Nat.reduceBEq, Int.reduceLT, Int.reduceLE, Int.reduceAdd, Int.reduceSub, Int.reduceMul, Int.reduceToNat, Int.reduceNeg, reduceIte, reduceCtorEq, reduceBEq]
                        refine callE_bs ?_
                        simp -implicitDefEqProofs only [push_cast, Int.reduceBEq, Int.reduceBNe, Int.reduceEq, Int.reduceNe, Int.reducePow, Nat.reduceAdd, Nat.reduceMul, Nat.reduceSub, Nat.reduceLT, Nat.reduceLeDiff, Nat.reduceEqDiff, Nat.reduceBEq, Int.reduceLT, Int.reduceLE, Int.reduceAdd, Int.reduceSub, Int.reduceMul, Int.reduceToNat, Int.reduceNeg, reduceIte, reduceCtorEq, reduceBEq]
                        (repeat (first | refine ⟨by (unfold drawOk; kernel_rfl), ?_⟩ | refine ⟨by simp; omega, ?_⟩))
                        trace_state
                        refine callE_pure htk (by rfl) (by rfl) (by rfl) (by decide) (by rfl) (fun _ => by rfl) (by first | rfl | simp [gdOk, newToks]) ?_
                        simp -implicitDefEqProofs only [push_cast, Int.reduceBEq, Int.reduceBNe, Int.reduceEq, Int.reduceNe, Int.reducePow, Nat.reduceAdd, Nat.reduceMul, Nat.reduceSub, Nat.reduceLT, Nat.reduceLeDiff, Nat.reduceEqDiff, Nat.reduceBEq, Int.reduceLT, Int.reduceLE, Int.reduceAdd, Int.reduceSub, Int.reduceMul, Int.reduceToNat, Int.reduceNeg, reduceIte, reduceCtorEq, reduceBEq]
                        refine callE_pure hfi (by rfl) (by rfl) (by rfl) (by decide) (by rfl) (fun _ => by rfl) (by first | rfl | simp [gdOk, newToks]) ?_
                        simp -implicitDefEqProofs only [push_cast, Int.reduceBEq, Int.reduceBNe, Int.reduceEq, Int.reduceNe, Int.reducePow, Nat.reduceAdd, Nat.reduceMul, Nat.reduceSub, Nat.reduceLT, Nat.reduceLeDiff, Nat.reduceEqDiff, Nat.reduceBEq, Int.reduceLT, Int.reduceLE, Int.reduceAdd, Int.reduceSub, Int.reduceMul, Int.reduceToNat, Int.reduceNeg, reduceIte, reduceCtorEq, reduceBEq]
                        all_goals first | exact .inl rfl | exact ⟨_, rfl, by simp [wkL, res2, res1, PV.weak, PV.el, rpv, rcs, pcs]⟩
                      · have hly : lay e L (nu p) (bd p) = L := by
                          unfold lay; rw [if_pos (by rw [Bool.not_eq_false'] at h8; exact h8)]
                        rw [hly] at htk
                        simp only [rpv, rcs, pcs, En.acked, En.rack] at htk hfi ⊢
                        simp -implicitDefEqProofs only [push_cast, Int.reduceBEq, Int.reduceBNe, Int.reduceEq, Int.reduceNe, Int.reducePow, Nat.reduceAdd, Nat.reduceMul, Nat.reduceSub, Nat.reduceLT, Nat.reduceLeDiff, Nat.reduceEqDiff, Nat.reduceBEq, Int.reduceLT, Int.reduceLE, Int.reduceAdd, Int.reduceSub, Int.reduceMul, Int.reduceToNat, Int.reduceNeg, reduceIte, reduceCtorEq, reduceBEq]
                        trace_state
                        refine callE_pure htk (by rfl) (by rfl) (by rfl) (by decide) (by rfl) (fun _ => by rfl) (by first | rfl | simp [gdOk, newToks]) ?_
                        simp -implicitDefEqProofs only [push_cast, Int.reduceBEq, Int.reduceBNe, Int.reduceEq, Int.reduceNe, Int.reducePow, Nat.reduceAdd, Nat.reduceMul, Nat.reduceSub, Nat.reduceLT, Nat.reduceLeDiff, Nat.reduceEqDiff, Nat.reduceBEq, Int.reduceLT, Int.reduceLE, Int.reduceAdd, Int.reduceSub, Int.reduceMul, Int.reduceToNat, Int.reduceNeg, reduceIte, reduceCtorEq, reduceBEq]
                        refine callE_pure hfi (by rfl) (by rfl) (by rfl) (by decide) (by rfl) (fun _ => by rfl) (by first | rfl | simp [gdOk, newToks]) ?_
                        simp -implicitDefEqProofs only [push_cast, Int.reduceBEq, Int.reduceBNe, Int.reduceEq, Int.reduceNe, Int.reducePow, Nat.reduceAdd, Nat.reduceMul, Nat.reduceSub, Nat.reduceLT, Nat.reduceLeDiff, Nat.reduceEqDiff, Nat.reduceBEq, Int.reduceLT, Int.reduceLE, Int.reduceAdd, Int.reduceSub, Int.reduceMul, Int.reduceToNat, Int.reduceNeg, reduceIte, reduceCtorEq, reduceBEq]
                        all_goals first | exact .inl rfl | exact ⟨_, rfl, by simp [wkL, res2, res1, PV.weak, PV.el, rpv, rcs, pcs]⟩
                · have hE : rgE e L p = ((e.rack (to p)).number, L) := by
                    unfold rgE; rw [if_neg (by rw [h6]; exact Bool.false_ne_true)]
                  have hfi := rfill_fs (e.rack (to p)) L he.m0 he.m1 he.r hrl he.n0 he.n1
                  rw [hG, hE]
                  simp only [rpv, rcs, pcs] at hfi ⊢
                  generalize (e.rack (to p)).number = U at hfi ⊢
                  simp only [En.rack] at hfi
                  simp -implicitDefEqProofs only [push_cast, Int.reduceBEq, Int.reduceBNe, Int.reduceEq, Int.reduceNe, Int.reducePow, Nat.reduceAdd, Nat.reduceMul, Nat.reduceSub, Nat.reduceLT, Nat.reduceLeDiff, Nat.reduceEqDiff, Nat.reduceBEq, Int.reduceLT, Int.reduceLE, Int.reduceAdd, Int.reduceSub, Int.reduceMul, Int.reduceToNat, Int.reduceNeg, reduceIte, reduceCtorEq, reduceBEq]
                  refine callE_pure hfi (by rfl) (by rfl) (by rfl) (by decide) (by rfl) (fun _ => by rfl) (by first | rfl | simp [gdOk, newToks]) ?_
                  simp -implicitDefEqProofs only [push_cast, Int.reduceBEq, Int.reduceBNe, Int.reduceEq, Int.reduceNe, Int.reducePow, Nat.reduceAdd, Nat.reduceMul, Nat.reduceSub, Nat.reduceLT, Nat.reduceLeDiff, Nat.reduceEqDiff, Nat.reduceBEq, Int.reduceLT, Int.reduceLE, Int.reduceAdd, Int.reduceSub, Int.reduceMul, Int.reduceToNat, Int.reduceNeg, reduceIte, reduceCtorEq, reduceBEq]
                  all_goals first | exact .inl rfl | exact ⟨_, rfl, by simp [wkL, res2, res1, PV.weak, PV.el, rpv, rcs, pcs]⟩

end Go.Proofs.Lk
