/- TellNumbers. -/
import Derived.Test.YtafleenajffpkaaDoorTlBase
import Derived.Test.YtafleenajffpkaaDoorTlNum
set_option maxRecDepth 100000
set_option linter.unusedSimpArgs false
set_option linter.unusedVariables false
namespace Go.Proofs.Sh
open Go.Pv

set_option maxHeartbeats 4000000 in
theorem tellNumbers_fs (x : Ot) (a b : Nat) (ha : a < 4294967296) (hb2 : b < 4294967296) : Fsp Tryd.prog 7 [] 0 [x.pv, .int .u32 a, .int .u32 b] [] 0 (.bool true) := by
  have hfx := short_fs x
  simp only [Ot.pv] at hfx
  cases hb : isShort x
  · rw [hb] at hfx
    (refine Fsp.of (nx := 0) mixed Tryd.func7 rfl (by decide) (by first | exact Nat.le_refl _ | simp) (by simp [Tryd.f7]) ⟨by decide, by decide⟩ ?_; simp -implicitDefEqProofs only [push_cast, Tryd.f7, Ot.pv, Int.reduceBEq, Int.reduceBNe, Int.reduceEq, Int.reduceNe, Int.reducePow, Nat.reduceAdd, Nat.reduceMul, Nat.reduceSub, Nat.reduceLT, Nat.reduceLeDiff, Nat.reduceEqDiff, Nat.reduceBEq, Int.reduceLT, Int.reduceLE, Int.reduceAdd, Int.reduceSub, Int.reduceMul, Int.reduceToNat, Int.reduceNeg, reduceIte, reduceCtorEq, reduceBEq])
    refine callE_pure awake_fs (by rfl) (by rfl) (by rfl) (by decide) (by rfl) (fun _ => by rfl) (by first | rfl | simp [gdOk, newToks]) ?_
    simp -implicitDefEqProofs only [push_cast, Int.reduceBEq, Int.reduceBNe, Int.reduceEq, Int.reduceNe, Int.reducePow, Nat.reduceAdd, Nat.reduceMul, Nat.reduceSub, Nat.reduceLT, Nat.reduceLeDiff, Nat.reduceEqDiff, Nat.reduceBEq, Int.reduceLT, Int.reduceLE, Int.reduceAdd, Int.reduceSub, Int.reduceMul, Int.reduceToNat, Int.reduceNeg, reduceIte, reduceCtorEq, reduceBEq]
    refine callE_pure hfx (by rfl) (by rfl) (by rfl) (by decide) (by rfl) (fun _ => by rfl) (by first | rfl | simp [gdOk, newToks]) ?_
    simp -implicitDefEqProofs only [push_cast, Int.reduceBEq, Int.reduceBNe, Int.reduceEq, Int.reduceNe, Int.reducePow, Nat.reduceAdd, Nat.reduceMul, Nat.reduceSub, Nat.reduceLT, Nat.reduceLeDiff, Nat.reduceEqDiff, Nat.reduceBEq, Int.reduceLT, Int.reduceLE, Int.reduceAdd, Int.reduceSub, Int.reduceMul, Int.reduceToNat, Int.reduceNeg, reduceIte, reduceCtorEq, reduceBEq]
  · rw [hb] at hfx
    have hx := isShort_of hb
    have w1 : IntKind.i64.wrap (a : Int) = (a : Int) := by rw [wrap_i64_id (by omega) (by omega)]
    have w2 : IntKind.i64.wrap (b : Int) = (b : Int) := by rw [wrap_i64_id (by omega) (by omega)]
    have p1 := tellPut_fs 0 ⟨x.K, x.C, (a : Int), x.N, x.B, x.L⟩ ⟨hx.n, hx.b, hx.l⟩
    have p2 := tellPut_fs 0 ⟨x.K, x.C, (b : Int), x.N, x.B, x.L⟩ ⟨hx.n, hx.b, hx.l⟩
    have p3 := tellPut_fs 1 ⟨x.K, x.C, (a : Int), x.N, x.B, x.L⟩ ⟨hx.n, hx.b, hx.l⟩
    have hn := tell_numbers x a b ha hb2
    simp only [tellR, Ot.pv] at p1 p2 p3
    generalize tellS 0 ⟨x.K, x.C, (a : Int), x.N, x.B, x.L⟩ = q1 at *
    generalize tellS 0 ⟨x.K, x.C, (b : Int), x.N, x.B, x.L⟩ = q2 at *
    generalize tellS 1 ⟨x.K, x.C, (a : Int), x.N, x.B, x.L⟩ = q3 at *
    obtain ⟨s1, e1⟩ := q1
    obtain ⟨s2, e2⟩ := q2
    obtain ⟨s3, e3⟩ := q3
    simp only at p1 p2 p3 hn
    obtain ⟨rfl, rfl, hl, hs⟩ := hn
    have hli : (s3.length : Int) = (s1.length : Int) := by rw [hl]
    obtain ⟨a', ha'⟩ : ∃ a', a' = a % 65536 := ⟨_, rfl⟩
    obtain ⟨b', hb'⟩ : ∃ b', b' = b % 65536 := ⟨_, rfl⟩
    have w3 : Int.tmod (a : Int) 65536 = (a' : Int) := by rw [Int.tmod_eq_emod_of_nonneg (by omega)]; omega
    have w4 : Int.tmod (b : Int) 65536 = (b' : Int) := by rw [Int.tmod_eq_emod_of_nonneg (by omega)]; omega
    have w5 : IntKind.u32.wrap (a' : Int) = (a' : Int) := by
      simp only [IntKind.wrap, IntKind.signed, IntKind.bits, Bool.false_and]
      show (a' : Int) % 4294967296 = _
      omega
    have w6 : IntKind.u32.wrap (b' : Int) = (b' : Int) := by
      simp only [IntKind.wrap, IntKind.signed, IntKind.bits, Bool.false_and]
      show (b' : Int) % 4294967296 = _
      omega
    (refine Fsp.of (nx := 0) mixed Tryd.func7 rfl (by decide) (by first | exact Nat.le_refl _ | simp) (by simp [Tryd.f7]) ⟨by decide, by decide⟩ ?_; simp -implicitDefEqProofs only [push_cast, Tryd.f7, Ot.pv, Int.reduceBEq, Int.reduceBNe, Int.reduceEq, Int.reduceNe, Int.reducePow, Nat.reduceAdd, Nat.reduceMul, Nat.reduceSub, Nat.reduceLT, Nat.reduceLeDiff, Nat.reduceEqDiff, Nat.reduceBEq, Int.reduceLT, Int.reduceLE, Int.reduceAdd, Int.reduceSub, Int.reduceMul, Int.reduceToNat, Int.reduceNeg, reduceIte, reduceCtorEq, reduceBEq])
    refine callE_pure awake_fs (by rfl) (by rfl) (by rfl) (by decide) (by rfl) (fun _ => by rfl) (by first | rfl | simp [gdOk, newToks]) ?_
    simp -implicitDefEqProofs only [push_cast, Int.reduceBEq, Int.reduceBNe, Int.reduceEq, Int.reduceNe, Int.reducePow, Nat.reduceAdd, Nat.reduceMul, Nat.reduceSub, Nat.reduceLT, Nat.reduceLeDiff, Nat.reduceEqDiff, Nat.reduceBEq, Int.reduceLT, Int.reduceLE, Int.reduceAdd, Int.reduceSub, Int.reduceMul, Int.reduceToNat, Int.reduceNeg, reduceIte, reduceCtorEq, reduceBEq]
    refine callE_pure hfx (by rfl) (by rfl) (by rfl) (by decide) (by rfl) (fun _ => by rfl) (by first | rfl | simp [gdOk, newToks]) ?_
    simp -implicitDefEqProofs only [push_cast, w1, w2, Int.reduceBEq, Int.reduceBNe, Int.reduceEq, Int.reduceNe, Int.reducePow, Nat.reduceAdd, Nat.reduceMul, Nat.reduceSub, Nat.reduceLT, Nat.reduceLeDiff, Nat.reduceEqDiff, Nat.reduceBEq, Int.reduceLT, Int.reduceLE, Int.reduceAdd, Int.reduceSub, Int.reduceMul, Int.reduceToNat, Int.reduceNeg, reduceIte, reduceCtorEq, reduceBEq]
    refine callE_pure p1 (by rfl) (by rfl) (by rfl) (by decide) (by rfl) (fun _ => by rfl) (by first | rfl | simp [gdOk, newToks]) ?_
    simp -implicitDefEqProofs only [push_cast, Int.reduceBEq, Int.reduceBNe, Int.reduceEq, Int.reduceNe, Int.reducePow, Nat.reduceAdd, Nat.reduceMul, Nat.reduceSub, Nat.reduceLT, Nat.reduceLeDiff, Nat.reduceEqDiff, Nat.reduceBEq, Int.reduceLT, Int.reduceLE, Int.reduceAdd, Int.reduceSub, Int.reduceMul, Int.reduceToNat, Int.reduceNeg, reduceIte, reduceCtorEq, reduceBEq]
    refine callE_pure p2 (by rfl) (by rfl) (by rfl) (by decide) (by rfl) (fun _ => by rfl) (by first | rfl | simp [gdOk, newToks]) ?_
    simp -implicitDefEqProofs only [push_cast, Int.reduceBEq, Int.reduceBNe, Int.reduceEq, Int.reduceNe, Int.reducePow, Nat.reduceAdd, Nat.reduceMul, Nat.reduceSub, Nat.reduceLT, Nat.reduceLeDiff, Nat.reduceEqDiff, Nat.reduceBEq, Int.reduceLT, Int.reduceLE, Int.reduceAdd, Int.reduceSub, Int.reduceMul, Int.reduceToNat, Int.reduceNeg, reduceIte, reduceCtorEq, reduceBEq]
    refine callE_pure p3 (by rfl) (by rfl) (by rfl) (by decide) (by rfl) (fun _ => by rfl) (by first | rfl | simp [gdOk, newToks]) ?_
    cases h2 : (e1 != 0)
    · obtain rfl : e1 = 0 := by simpa using h2
      have hs2 : (s1 == s2) = ((a' : Int) == (b' : Int)) := by
        have := hs rfl
        rw [← ha', ← hb'] at this
        rw [this]
        rw [Bool.eq_iff_iff]
        simp
        omega
      simp -implicitDefEqProofs only [push_cast, hli, w3, w4, w5, w6, bne_self_eq_false, hs2, beq_self_eq_true, Int.reduceBEq, Int.reduceBNe, Int.reduceEq, Int.reduceNe, Int.reducePow, Nat.reduceAdd, Nat.reduceMul, Nat.reduceSub, Nat.reduceLT, Nat.reduceLeDiff, Nat.reduceEqDiff, Nat.reduceBEq, Int.reduceLT, Int.reduceLE, Int.reduceAdd, Int.reduceSub, Int.reduceMul, Int.reduceToNat, Int.reduceNeg, reduceIte, reduceCtorEq, reduceBEq]
    · simp -implicitDefEqProofs only [push_cast, h2, hli, bne_self_eq_false, Int.reduceBEq, Int.reduceBNe, Int.reduceEq, Int.reduceNe, Int.reducePow, Nat.reduceAdd, Nat.reduceMul, Nat.reduceSub, Nat.reduceLT, Nat.reduceLeDiff, Nat.reduceEqDiff, Nat.reduceBEq, Int.reduceLT, Int.reduceLE, Int.reduceAdd, Int.reduceSub, Int.reduceMul, Int.reduceToNat, Int.reduceNeg, reduceIte, reduceCtorEq, reduceBEq]

end Go.Proofs.Sh
