/- Cut. -/
import Derived.Test.YtjhkaanphpcepaaLkTick
set_option maxRecDepth 100000
set_option linter.unusedSimpArgs false
set_option linter.unusedVariables false
namespace Go.Proofs.Lk
open Go.Pv


def En.cut (e : En) : En := if e.most = 0 then e else { e.tick with ack := true }
theorem cut_fs (e : En) (hw : e.way.length ≤ 1000) : Fsp Try.prog 27 [] 0 [e.pv] [] 0 e.cut.pv := by
  (refine Fsp.of (nx := 0) mixed Try.func27 rfl (by decide) (by first | exact Nat.le_refl _ | simp) (by simp [Try.f27]) ⟨by decide, by decide⟩ ?_; simp -implicitDefEqProofs only [push_cast, Try.f27, En.pv, En.cs, pcs, Int.reduceBEq, Int.reduceBNe, Int.reduceEq, Int.reduceNe, Int.reducePow, Nat.reduceAdd, Nat.reduceMul, Nat.reduceSub, Nat.reduceLT, Nat.reduceLeDiff, Nat.reduceEqDiff, Nat.reduceBEq, Int.reduceLT, Int.reduceLE, Int.reduceAdd, Int.reduceSub, Int.reduceMul, Int.reduceToNat, Int.reduceNeg, reduceIte, reduceCtorEq, reduceBEq])
  refine condC_split (fun h => ?_) (fun h => ?_)
  · have h0 : e.most = 0 := by simpa using h
    rw [En.cut, if_pos h0]
    simp -implicitDefEqProofs only [push_cast, En.pv, En.cs, pcs, true_or, Int.reduceBEq, Int.reduceBNe, Int.reduceEq, Int.reduceNe, Int.reducePow, Nat.reduceAdd, Nat.reduceMul, Nat.reduceSub, Nat.reduceLT, Nat.reduceLeDiff, Nat.reduceEqDiff, Nat.reduceBEq, Int.reduceLT, Int.reduceLE, Int.reduceAdd, Int.reduceSub, Int.reduceMul, Int.reduceToNat, Int.reduceNeg, reduceIte, reduceCtorEq, reduceBEq]
    skip
  · have h0 : ¬ e.most = 0 := by simpa using h
    rw [En.cut, if_neg h0]
    simp -implicitDefEqProofs only [push_cast, En.cs, Int.reduceBEq, Int.reduceBNe, Int.reduceEq, Int.reduceNe, Int.reducePow, Nat.reduceAdd, Nat.reduceMul, Nat.reduceSub, Nat.reduceLT, Nat.reduceLeDiff, Nat.reduceEqDiff, Nat.reduceBEq, Int.reduceLT, Int.reduceLE, Int.reduceAdd, Int.reduceSub, Int.reduceMul, Int.reduceToNat, Int.reduceNeg, reduceIte, reduceCtorEq, reduceBEq]
    have ht := tick_fs e hw
    rw [En.pv, En.cs, pcs] at ht
    refine callE_pure ht (by rfl) (by rfl) (by rfl) (by decide) (by rfl) (fun _ => by rfl) (by first | rfl | simp [gdOk, newToks]) ?_
    simp -implicitDefEqProofs only [push_cast, En.pv, En.cs, En.tick, pcs, true_or, Int.reduceBEq, Int.reduceBNe, Int.reduceEq, Int.reduceNe, Int.reducePow, Nat.reduceAdd, Nat.reduceMul, Nat.reduceSub, Nat.reduceLT, Nat.reduceLeDiff, Nat.reduceEqDiff, Nat.reduceBEq, Int.reduceLT, Int.reduceLE, Int.reduceAdd, Int.reduceSub, Int.reduceMul, Int.reduceToNat, Int.reduceNeg, reduceIte, reduceCtorEq, reduceBEq]
    skip
end Go.Proofs.Lk
