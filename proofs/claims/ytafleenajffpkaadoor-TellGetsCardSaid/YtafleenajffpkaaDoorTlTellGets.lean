/- TellGets. -/
import Derived.Test.YtafleenajffpkaaDoorTlBase
import Derived.Test.YtafleenajffpkaaDoorPvXe
import Derived.Test.YtafleenajffpkaaDoorTlRfJ
set_option maxRecDepth 100000
set_option linter.unusedSimpArgs false
set_option linter.unusedVariables false
namespace Go.Proofs.Sh
open Go.Pv

set_option maxHeartbeats 4000000 in
theorem tellGets_fs (o : Int) (s : List UInt8) : Fsp Tryd.prog 3 [] 0 [.int .i64 o, .str s] [] 0 (.bool true) := by
  cases hs : decide ((4000 : Int) < (s.length : Int))
  · have hs' : s.length ≤ 4000 := by simp at hs; omega
    have p1 := tellGet_fs o s (by omega)
    have p2 := refGet_fs o s (by omega)
    have p3 := tellLen_fs o s
    have p4 := refLength_fs o s
    have hgp := @tell_get_put o s
    have hgw := @tellG_wrong o s
    simp only [tellGR] at p1 p2
    generalize tellG o s = G at *
    generalize tlenR o s = L at *
    obtain ⟨k, g⟩ := L
    obtain ⟨x, n1, e1⟩ := G
    simp only at hgp hgw p1 p2 p3 p4
    have hx : x.Few := by
      by_cases h : e1 = 0
      · obtain ⟨n, -, g1, g2, g3, g4, g5, g6⟩ := hgp h
        exact ⟨by omega, by omega, by omega⟩
      · obtain ⟨rfl, -⟩ := hgw h
        exact ⟨by decide, by decide, by decide⟩
    have hss := refSameO_fs x x hx hx
    rw [sameO_refl] at hss
    simp only [Ot.pv] at p1 p2 hss
    (refine Fsp.of (nx := 0) mixed Tryd.func3 rfl (by decide) (by first | exact Nat.le_refl _ | simp) (by simp [Tryd.f3]) ⟨by decide, by decide⟩ ?_; simp -implicitDefEqProofs only [push_cast, Tryd.f3, Ot.pv, Int.reduceBEq, Int.reduceBNe, Int.reduceEq, Int.reduceNe, Int.reducePow, Nat.reduceAdd, Nat.reduceMul, Nat.reduceSub, Nat.reduceLT, Nat.reduceLeDiff, Nat.reduceEqDiff, Nat.reduceBEq, Int.reduceLT, Int.reduceLE, Int.reduceAdd, Int.reduceSub, Int.reduceMul, Int.reduceToNat, Int.reduceNeg, reduceIte, reduceCtorEq, reduceBEq])
    refine callE_pure awake_fs (by rfl) (by rfl) (by rfl) (by decide) (by rfl) (fun _ => by rfl) (by first | rfl | simp [gdOk, newToks]) ?_
    simp -implicitDefEqProofs only [push_cast, hs, Int.reduceBEq, Int.reduceBNe, Int.reduceEq, Int.reduceNe, Int.reducePow, Nat.reduceAdd, Nat.reduceMul, Nat.reduceSub, Nat.reduceLT, Nat.reduceLeDiff, Nat.reduceEqDiff, Nat.reduceBEq, Int.reduceLT, Int.reduceLE, Int.reduceAdd, Int.reduceSub, Int.reduceMul, Int.reduceToNat, Int.reduceNeg, reduceIte, reduceCtorEq, reduceBEq]
    refine callE_pure p1 (by rfl) (by rfl) (by rfl) (by decide) (by rfl) (fun _ => by rfl) (by first | rfl | simp [gdOk, newToks]) ?_
    simp -implicitDefEqProofs only [push_cast, Int.reduceBEq, Int.reduceBNe, Int.reduceEq, Int.reduceNe, Int.reducePow, Nat.reduceAdd, Nat.reduceMul, Nat.reduceSub, Nat.reduceLT, Nat.reduceLeDiff, Nat.reduceEqDiff, Nat.reduceBEq, Int.reduceLT, Int.reduceLE, Int.reduceAdd, Int.reduceSub, Int.reduceMul, Int.reduceToNat, Int.reduceNeg, reduceIte, reduceCtorEq, reduceBEq]
    refine callE_pure p2 (by rfl) (by rfl) (by rfl) (by decide) (by rfl) (fun _ => by rfl) (by first | rfl | simp [gdOk, newToks]) ?_
    simp -implicitDefEqProofs only [push_cast, Int.reduceBEq, Int.reduceBNe, Int.reduceEq, Int.reduceNe, Int.reducePow, Nat.reduceAdd, Nat.reduceMul, Nat.reduceSub, Nat.reduceLT, Nat.reduceLeDiff, Nat.reduceEqDiff, Nat.reduceBEq, Int.reduceLT, Int.reduceLE, Int.reduceAdd, Int.reduceSub, Int.reduceMul, Int.reduceToNat, Int.reduceNeg, reduceIte, reduceCtorEq, reduceBEq]
    refine callE_pure p3 (by rfl) (by rfl) (by rfl) (by decide) (by rfl) (fun _ => by rfl) (by first | rfl | simp [gdOk, newToks]) ?_
    simp -implicitDefEqProofs only [push_cast, Int.reduceBEq, Int.reduceBNe, Int.reduceEq, Int.reduceNe, Int.reducePow, Nat.reduceAdd, Nat.reduceMul, Nat.reduceSub, Nat.reduceLT, Nat.reduceLeDiff, Nat.reduceEqDiff, Nat.reduceBEq, Int.reduceLT, Int.reduceLE, Int.reduceAdd, Int.reduceSub, Int.reduceMul, Int.reduceToNat, Int.reduceNeg, reduceIte, reduceCtorEq, reduceBEq]
    refine callE_pure p4 (by rfl) (by rfl) (by rfl) (by decide) (by rfl) (fun _ => by rfl) (by first | rfl | simp [gdOk, newToks]) ?_
    simp -implicitDefEqProofs only [push_cast, Int.reduceBEq, Int.reduceBNe, Int.reduceEq, Int.reduceNe, Int.reducePow, Nat.reduceAdd, Nat.reduceMul, Nat.reduceSub, Nat.reduceLT, Nat.reduceLeDiff, Nat.reduceEqDiff, Nat.reduceBEq, Int.reduceLT, Int.reduceLE, Int.reduceAdd, Int.reduceSub, Int.reduceMul, Int.reduceToNat, Int.reduceNeg, reduceIte, reduceCtorEq, reduceBEq]
    refine callE_pure hss (by rfl) (by rfl) (by rfl) (by decide) (by rfl) (fun _ => by rfl) (by first | rfl | simp [gdOk, newToks]) ?_
    simp -implicitDefEqProofs only [push_cast, beq_self_eq_true, Int.reduceBEq, Int.reduceBNe, Int.reduceEq, Int.reduceNe, Int.reducePow, Nat.reduceAdd, Nat.reduceMul, Nat.reduceSub, Nat.reduceLT, Nat.reduceLeDiff, Nat.reduceEqDiff, Nat.reduceBEq, Int.reduceLT, Int.reduceLE, Int.reduceAdd, Int.reduceSub, Int.reduceMul, Int.reduceToNat, Int.reduceNeg, reduceIte, reduceCtorEq, reduceBEq]
    all_goals (unfold drawOk; kernel_rfl)
  · (refine Fsp.of (nx := 0) mixed Tryd.func3 rfl (by decide) (by first | exact Nat.le_refl _ | simp) (by simp [Tryd.f3]) ⟨by decide, by decide⟩ ?_; simp -implicitDefEqProofs only [push_cast, Tryd.f3, Ot.pv, Int.reduceBEq, Int.reduceBNe, Int.reduceEq, Int.reduceNe, Int.reducePow, Nat.reduceAdd, Nat.reduceMul, Nat.reduceSub, Nat.reduceLT, Nat.reduceLeDiff, Nat.reduceEqDiff, Nat.reduceBEq, Int.reduceLT, Int.reduceLE, Int.reduceAdd, Int.reduceSub, Int.reduceMul, Int.reduceToNat, Int.reduceNeg, reduceIte, reduceCtorEq, reduceBEq])
    refine callE_pure awake_fs (by rfl) (by rfl) (by rfl) (by decide) (by rfl) (fun _ => by rfl) (by first | rfl | simp [gdOk, newToks]) ?_
    simp -implicitDefEqProofs only [push_cast, hs, Int.reduceBEq, Int.reduceBNe, Int.reduceEq, Int.reduceNe, Int.reducePow, Nat.reduceAdd, Nat.reduceMul, Nat.reduceSub, Nat.reduceLT, Nat.reduceLeDiff, Nat.reduceEqDiff, Nat.reduceBEq, Int.reduceLT, Int.reduceLE, Int.reduceAdd, Int.reduceSub, Int.reduceMul, Int.reduceToNat, Int.reduceNeg, reduceIte, reduceCtorEq, reduceBEq]

end Go.Proofs.Sh
