/- PackBack. -/
import Derived.Test.YtggpilaganghkaaDoorPkTrip4
set_option maxRecDepth 100000
set_option linter.unusedSimpArgs false
set_option linter.unusedVariables false
namespace Go.Proofs.Sh
open Go.Pv

theorem ints_nil : ints [] = [] := rfl
set_option maxHeartbeats 4000000 in
theorem packBack_fs (r : Rq) (a : Nat) (s : List UInt8) (ha : a < 256) : Fsp Tryd.prog 8 [] 0 [r.pv, .int .u8 a, .str s] [] 0 (.bool true) := by
  have hfw := few_fs r
  simp only [Rq.pv] at hfw
  cases hb : isFew r
  · rw [hb] at hfw
    (refine Fsp.of (nx := 0) mixed Tryd.func8 rfl (by decide) (by first | exact Nat.le_refl _ | simp) (by simp [Tryd.f8]) ⟨by decide, by decide⟩ ?_; simp -implicitDefEqProofs only [push_cast, Tryd.f8, Rq.pv, Int.reduceBEq, Int.reduceBNe, Int.reduceEq, Int.reduceNe, Int.reducePow, Nat.reduceAdd, Nat.reduceMul, Nat.reduceSub, Nat.reduceLT, Nat.reduceLeDiff, Nat.reduceEqDiff, Nat.reduceBEq, Int.reduceLT, Int.reduceLE, Int.reduceAdd, Int.reduceSub, Int.reduceMul, Int.reduceToNat, Int.reduceNeg, reduceIte, reduceCtorEq, reduceBEq])
    refine callE_pure hfw (by rfl) (by rfl) (by rfl) (by decide) (by rfl) (fun _ => by rfl) (by first | rfl | simp [gdOk, newToks]) ?_
    simp -implicitDefEqProofs only [push_cast, Int.reduceBEq, Int.reduceBNe, Int.reduceEq, Int.reduceNe, Int.reducePow, Nat.reduceAdd, Nat.reduceMul, Nat.reduceSub, Nat.reduceLT, Nat.reduceLeDiff, Nat.reduceEqDiff, Nat.reduceBEq, Int.reduceLT, Int.reduceLE, Int.reduceAdd, Int.reduceSub, Int.reduceMul, Int.reduceToNat, Int.reduceNeg, reduceIte, reduceCtorEq, reduceBEq]
    refine callE_pure awake_fs (by rfl) (by rfl) (by rfl) (by decide) (by rfl) (fun _ => by rfl) (by first | rfl | simp [gdOk, newToks]) ?_
    simp -implicitDefEqProofs only [push_cast, Int.reduceBEq, Int.reduceBNe, Int.reduceEq, Int.reduceNe, Int.reducePow, Nat.reduceAdd, Nat.reduceMul, Nat.reduceSub, Nat.reduceLT, Nat.reduceLeDiff, Nat.reduceEqDiff, Nat.reduceBEq, Int.reduceLT, Int.reduceLE, Int.reduceAdd, Int.reduceSub, Int.reduceMul, Int.reduceToNat, Int.reduceNeg, reduceIte, reduceCtorEq, reduceBEq]
  · rw [hb] at hfw
    cases hs : decide ((900 : Int) < (s.length : Int))
    · have hs' : s.length ≤ 900 := by simp at hs; omega
      obtain ⟨m, hm⟩ : ∃ m, m = a % 2 := ⟨_, rfl⟩
      obtain ⟨n, hn⟩ : ∃ n, n = 1 - m := ⟨_, rfl⟩
      have w1 : Int.tmod (a : Int) 2 = (m : Int) := by rw [Int.tmod_eq_emod_of_nonneg (by omega)]; omega
      have w2 : IntKind.i64.wrap (m : Int) = (m : Int) := by rw [wrap_i64_id (by omega) (by omega)]
      have w3 : IntKind.i64.wrap (1 - (m : Int)) = (n : Int) := by rw [wrap_i64_id (by omega) (by omega)]; omega
      have ho : isOrd (m : Int) = true := by simp [isOrd]; omega
      have ho' : isOrd (n : Int) = true := by simp [isOrd]; omega
      have hfewr := isFew_of hb
      have hp := packPut_fs (m : Int) r hfewr
      have hq := packPut_fs (n : Int) r hfewr
      have hoo := packS_orders ho ho' r
      have hback := @put_get (m : Int) r
      simp only [Rq.pv, packR] at hp hq
      generalize packS (m : Int) r = p at *
      generalize packS (n : Int) r = q at *
      obtain ⟨sa, e⟩ := p
      obtain ⟨sb, e'⟩ := q
      simp only at hp hq hoo hback
      obtain ⟨rfl, hlen⟩ := hoo
      have hleni : (sb.length : Int) = (sa.length : Int) := by rw [hlen]
      (refine Fsp.of (nx := 0) mixed Tryd.func8 rfl (by decide) (by first | exact Nat.le_refl _ | simp) (by simp [Tryd.f8]) ⟨by decide, by decide⟩ ?_; simp -implicitDefEqProofs only [push_cast, Tryd.f8, Rq.pv, Int.reduceBEq, Int.reduceBNe, Int.reduceEq, Int.reduceNe, Int.reducePow, Nat.reduceAdd, Nat.reduceMul, Nat.reduceSub, Nat.reduceLT, Nat.reduceLeDiff, Nat.reduceEqDiff, Nat.reduceBEq, Int.reduceLT, Int.reduceLE, Int.reduceAdd, Int.reduceSub, Int.reduceMul, Int.reduceToNat, Int.reduceNeg, reduceIte, reduceCtorEq, reduceBEq])
      refine callE_pure hfw (by rfl) (by rfl) (by rfl) (by decide) (by rfl) (fun _ => by rfl) (by first | rfl | simp [gdOk, newToks]) ?_
      simp -implicitDefEqProofs only [push_cast, w1, w2, hs, Int.reduceBEq, Int.reduceBNe, Int.reduceEq, Int.reduceNe, Int.reducePow, Nat.reduceAdd, Nat.reduceMul, Nat.reduceSub, Nat.reduceLT, Nat.reduceLeDiff, Nat.reduceEqDiff, Nat.reduceBEq, Int.reduceLT, Int.reduceLE, Int.reduceAdd, Int.reduceSub, Int.reduceMul, Int.reduceToNat, Int.reduceNeg, reduceIte, reduceCtorEq, reduceBEq]
      refine callE_pure hp (by rfl) (by rfl) (by rfl) (by decide) (by rfl) (fun _ => by rfl) (by first | rfl | simp [gdOk, newToks]) ?_
      simp -implicitDefEqProofs only [push_cast, w3, Int.reduceBEq, Int.reduceBNe, Int.reduceEq, Int.reduceNe, Int.reducePow, Nat.reduceAdd, Nat.reduceMul, Nat.reduceSub, Nat.reduceLT, Nat.reduceLeDiff, Nat.reduceEqDiff, Nat.reduceBEq, Int.reduceLT, Int.reduceLE, Int.reduceAdd, Int.reduceSub, Int.reduceMul, Int.reduceToNat, Int.reduceNeg, reduceIte, reduceCtorEq, reduceBEq]
      refine callE_pure hq (by rfl) (by rfl) (by rfl) (by decide) (by rfl) (fun _ => by rfl) (by first | rfl | simp [gdOk, newToks]) ?_
      cases h2 : (e == 0)
      · simp -implicitDefEqProofs only [push_cast, h2, hleni, bne_self_eq_false, Int.reduceBEq, Int.reduceBNe, Int.reduceEq, Int.reduceNe, Int.reducePow, Nat.reduceAdd, Nat.reduceMul, Nat.reduceSub, Nat.reduceLT, Nat.reduceLeDiff, Nat.reduceEqDiff, Nat.reduceBEq, Int.reduceLT, Int.reduceLE, Int.reduceAdd, Int.reduceSub, Int.reduceMul, Int.reduceToNat, Int.reduceNeg, reduceIte, reduceCtorEq, reduceBEq]
        have hx := packGet_fs (m : Int) s (by omega)
        have hgp := @get_put (m : Int) s
        have hgw := @getP_wrong (m : Int) s
        simp only [getPR] at hx
        generalize getP (m : Int) s = G at *
        obtain ⟨⟨c1, N1, B1, L1⟩, e1⟩ := G
        simp only at hgp hgw hx
        simp only [Rq.pv] at hx
        refine callE_pure hx (by rfl) (by rfl) (by rfl) (by decide) (by rfl) (fun _ => by rfl) (by first | rfl | simp [gdOk, newToks]) ?_
        cases h6 : (e1 != 0)
        · obtain rfl : e1 = 0 := by simpa using h6
          obtain ⟨g1, g2, g3, g4⟩ := hgp rfl
          have hput := packPut_fs (m : Int) ⟨c1, N1, B1, L1⟩ ⟨by simp only; omega, by simp only; omega, by simp only; omega⟩
          simp only [packR, g1, Rq.pv] at hput
          simp -implicitDefEqProofs only [push_cast, Int.reduceBEq, Int.reduceBNe, Int.reduceEq, Int.reduceNe, Int.reducePow, Nat.reduceAdd, Nat.reduceMul, Nat.reduceSub, Nat.reduceLT, Nat.reduceLeDiff, Nat.reduceEqDiff, Nat.reduceBEq, Int.reduceLT, Int.reduceLE, Int.reduceAdd, Int.reduceSub, Int.reduceMul, Int.reduceToNat, Int.reduceNeg, reduceIte, reduceCtorEq, reduceBEq]
          refine callE_pure hput (by rfl) (by rfl) (by rfl) (by decide) (by rfl) (fun _ => by rfl) (by first | rfl | simp [gdOk, newToks]) ?_
          simp -implicitDefEqProofs only [push_cast, Int.reduceBEq, Int.reduceBNe, Int.reduceEq, Int.reduceNe, Int.reducePow, Nat.reduceAdd, Nat.reduceMul, Nat.reduceSub, Nat.reduceLT, Nat.reduceLeDiff, Nat.reduceEqDiff, Nat.reduceBEq, Int.reduceLT, Int.reduceLE, Int.reduceAdd, Int.reduceSub, Int.reduceMul, Int.reduceToNat, Int.reduceNeg, reduceIte, reduceCtorEq, reduceBEq]
          refine callE_pure awake_fs (by rfl) (by rfl) (by rfl) (by decide) (by rfl) (fun _ => by rfl) (by first | rfl | simp [gdOk, newToks]) ?_
          simp -implicitDefEqProofs only [push_cast, Int.reduceBEq, Int.reduceBNe, Int.reduceEq, Int.reduceNe, Int.reducePow, Nat.reduceAdd, Nat.reduceMul, Nat.reduceSub, Nat.reduceLT, Nat.reduceLeDiff, Nat.reduceEqDiff, Nat.reduceBEq, Int.reduceLT, Int.reduceLE, Int.reduceAdd, Int.reduceSub, Int.reduceMul, Int.reduceToNat, Int.reduceNeg, reduceIte, reduceCtorEq, reduceBEq]
        · have he1 : ¬ e1 = 0 := by simpa using h6
          obtain ⟨rfl, rfl, rfl, rfl⟩ := Rq.mk.inj (hgw he1)
          simp -implicitDefEqProofs only [push_cast, h6, ints_nil, Int.reduceBEq, Int.reduceBNe, Int.reduceEq, Int.reduceNe, Int.reducePow, Nat.reduceAdd, Nat.reduceMul, Nat.reduceSub, Nat.reduceLT, Nat.reduceLeDiff, Nat.reduceEqDiff, Nat.reduceBEq, Int.reduceLT, Int.reduceLE, Int.reduceAdd, Int.reduceSub, Int.reduceMul, Int.reduceToNat, Int.reduceNeg, reduceIte, reduceCtorEq, reduceBEq]
          refine callE_pure awake_fs (by rfl) (by rfl) (by rfl) (by decide) (by rfl) (fun _ => by rfl) (by first | rfl | simp [gdOk, newToks]) ?_
          simp -implicitDefEqProofs only [push_cast, Int.reduceBEq, Int.reduceBNe, Int.reduceEq, Int.reduceNe, Int.reducePow, Nat.reduceAdd, Nat.reduceMul, Nat.reduceSub, Nat.reduceLT, Nat.reduceLeDiff, Nat.reduceEqDiff, Nat.reduceBEq, Int.reduceLT, Int.reduceLE, Int.reduceAdd, Int.reduceSub, Int.reduceMul, Int.reduceToNat, Int.reduceNeg, reduceIte, reduceCtorEq, reduceBEq]
      · obtain rfl : e = 0 := by simpa using h2
        obtain ⟨b1, b2, b3, b4, b5⟩ := hback rfl
        have hg := packGet_fs (m : Int) sa (by omega)
        have hl := packLen_fs (m : Int) (sa.take 4)
        have hsm := packSame_fs r r hfewr hfewr
        rw [sameR_refl] at hsm
        simp only [getPR, b1, b2, Rq.pv] at hg hl hsm
        have h3 : decide ((sa.length : Int) < 4) = false := by simp; omega
        have w5 : Int.tmod (sa.length : Int) 4 = 0 := by rw [Int.tmod_eq_emod_of_nonneg (by omega)]; omega
        simp -implicitDefEqProofs only [push_cast, h3, hleni, bne_self_eq_false, Int.reduceBEq, Int.reduceBNe, Int.reduceEq, Int.reduceNe, Int.reducePow, Nat.reduceAdd, Nat.reduceMul, Nat.reduceSub, Nat.reduceLT, Nat.reduceLeDiff, Nat.reduceEqDiff, Nat.reduceBEq, Int.reduceLT, Int.reduceLE, Int.reduceAdd, Int.reduceSub, Int.reduceMul, Int.reduceToNat, Int.reduceNeg, reduceIte, reduceCtorEq, reduceBEq]
        refine callE_pure hg (by rfl) (by rfl) (by rfl) (by decide) (by rfl) (fun _ => by rfl) (by first | rfl | simp [gdOk, newToks]) ?_
        simp -implicitDefEqProofs only [push_cast, Int.reduceBEq, Int.reduceBNe, Int.reduceEq, Int.reduceNe, Int.reducePow, Nat.reduceAdd, Nat.reduceMul, Nat.reduceSub, Nat.reduceLT, Nat.reduceLeDiff, Nat.reduceEqDiff, Nat.reduceBEq, Int.reduceLT, Int.reduceLE, Int.reduceAdd, Int.reduceSub, Int.reduceMul, Int.reduceToNat, Int.reduceNeg, reduceIte, reduceCtorEq, reduceBEq]
        (repeat (first | refine ⟨by omega, ?_⟩ | refine ⟨by (unfold drawOk; kernel_rfl), ?_⟩))
        refine callE_pure hl (by rfl) (by rfl) (by rfl) (by decide) (by rfl) (fun _ => by rfl) (by first | rfl | simp [gdOk, newToks]) ?_
        simp -implicitDefEqProofs only [push_cast, Int.reduceBEq, Int.reduceBNe, Int.reduceEq, Int.reduceNe, Int.reducePow, Nat.reduceAdd, Nat.reduceMul, Nat.reduceSub, Nat.reduceLT, Nat.reduceLeDiff, Nat.reduceEqDiff, Nat.reduceBEq, Int.reduceLT, Int.reduceLE, Int.reduceAdd, Int.reduceSub, Int.reduceMul, Int.reduceToNat, Int.reduceNeg, reduceIte, reduceCtorEq, reduceBEq]
        refine callE_pure hsm (by rfl) (by rfl) (by rfl) (by decide) (by rfl) (fun _ => by rfl) (by first | rfl | simp [gdOk, newToks]) ?_
        simp -implicitDefEqProofs only [push_cast, w5, bne_self_eq_false, Int.reduceBEq, Int.reduceBNe, Int.reduceEq, Int.reduceNe, Int.reducePow, Nat.reduceAdd, Nat.reduceMul, Nat.reduceSub, Nat.reduceLT, Nat.reduceLeDiff, Nat.reduceEqDiff, Nat.reduceBEq, Int.reduceLT, Int.reduceLE, Int.reduceAdd, Int.reduceSub, Int.reduceMul, Int.reduceToNat, Int.reduceNeg, reduceIte, reduceCtorEq, reduceBEq]
        have hx := packGet_fs (m : Int) s (by omega)
        have hgp := @get_put (m : Int) s
        have hgw := @getP_wrong (m : Int) s
        simp only [getPR] at hx
        generalize getP (m : Int) s = G at *
        obtain ⟨⟨c1, N1, B1, L1⟩, e1⟩ := G
        simp only at hgp hgw hx
        simp only [Rq.pv] at hx
        refine callE_pure hx (by rfl) (by rfl) (by rfl) (by decide) (by rfl) (fun _ => by rfl) (by first | rfl | simp [gdOk, newToks]) ?_
        cases h6 : (e1 != 0)
        · obtain rfl : e1 = 0 := by simpa using h6
          obtain ⟨g1, g2, g3, g4⟩ := hgp rfl
          have hput := packPut_fs (m : Int) ⟨c1, N1, B1, L1⟩ ⟨by simp only; omega, by simp only; omega, by simp only; omega⟩
          simp only [packR, g1, Rq.pv] at hput
          simp -implicitDefEqProofs only [push_cast, Int.reduceBEq, Int.reduceBNe, Int.reduceEq, Int.reduceNe, Int.reducePow, Nat.reduceAdd, Nat.reduceMul, Nat.reduceSub, Nat.reduceLT, Nat.reduceLeDiff, Nat.reduceEqDiff, Nat.reduceBEq, Int.reduceLT, Int.reduceLE, Int.reduceAdd, Int.reduceSub, Int.reduceMul, Int.reduceToNat, Int.reduceNeg, reduceIte, reduceCtorEq, reduceBEq]
          refine callE_pure hput (by rfl) (by rfl) (by rfl) (by decide) (by rfl) (fun _ => by rfl) (by first | rfl | simp [gdOk, newToks]) ?_
          simp -implicitDefEqProofs only [push_cast, Int.reduceBEq, Int.reduceBNe, Int.reduceEq, Int.reduceNe, Int.reducePow, Nat.reduceAdd, Nat.reduceMul, Nat.reduceSub, Nat.reduceLT, Nat.reduceLeDiff, Nat.reduceEqDiff, Nat.reduceBEq, Int.reduceLT, Int.reduceLE, Int.reduceAdd, Int.reduceSub, Int.reduceMul, Int.reduceToNat, Int.reduceNeg, reduceIte, reduceCtorEq, reduceBEq]
          refine callE_pure awake_fs (by rfl) (by rfl) (by rfl) (by decide) (by rfl) (fun _ => by rfl) (by first | rfl | simp [gdOk, newToks]) ?_
          simp -implicitDefEqProofs only [push_cast, Int.reduceBEq, Int.reduceBNe, Int.reduceEq, Int.reduceNe, Int.reducePow, Nat.reduceAdd, Nat.reduceMul, Nat.reduceSub, Nat.reduceLT, Nat.reduceLeDiff, Nat.reduceEqDiff, Nat.reduceBEq, Int.reduceLT, Int.reduceLE, Int.reduceAdd, Int.reduceSub, Int.reduceMul, Int.reduceToNat, Int.reduceNeg, reduceIte, reduceCtorEq, reduceBEq]
        · have he1 : ¬ e1 = 0 := by simpa using h6
          obtain ⟨rfl, rfl, rfl, rfl⟩ := Rq.mk.inj (hgw he1)
          simp -implicitDefEqProofs only [push_cast, h6, ints_nil, Int.reduceBEq, Int.reduceBNe, Int.reduceEq, Int.reduceNe, Int.reducePow, Nat.reduceAdd, Nat.reduceMul, Nat.reduceSub, Nat.reduceLT, Nat.reduceLeDiff, Nat.reduceEqDiff, Nat.reduceBEq, Int.reduceLT, Int.reduceLE, Int.reduceAdd, Int.reduceSub, Int.reduceMul, Int.reduceToNat, Int.reduceNeg, reduceIte, reduceCtorEq, reduceBEq]
          refine callE_pure awake_fs (by rfl) (by rfl) (by rfl) (by decide) (by rfl) (fun _ => by rfl) (by first | rfl | simp [gdOk, newToks]) ?_
          simp -implicitDefEqProofs only [push_cast, Int.reduceBEq, Int.reduceBNe, Int.reduceEq, Int.reduceNe, Int.reducePow, Nat.reduceAdd, Nat.reduceMul, Nat.reduceSub, Nat.reduceLT, Nat.reduceLeDiff, Nat.reduceEqDiff, Nat.reduceBEq, Int.reduceLT, Int.reduceLE, Int.reduceAdd, Int.reduceSub, Int.reduceMul, Int.reduceToNat, Int.reduceNeg, reduceIte, reduceCtorEq, reduceBEq]
    · (refine Fsp.of (nx := 0) mixed Tryd.func8 rfl (by decide) (by first | exact Nat.le_refl _ | simp) (by simp [Tryd.f8]) ⟨by decide, by decide⟩ ?_; simp -implicitDefEqProofs only [push_cast, Tryd.f8, Rq.pv, Int.reduceBEq, Int.reduceBNe, Int.reduceEq, Int.reduceNe, Int.reducePow, Nat.reduceAdd, Nat.reduceMul, Nat.reduceSub, Nat.reduceLT, Nat.reduceLeDiff, Nat.reduceEqDiff, Nat.reduceBEq, Int.reduceLT, Int.reduceLE, Int.reduceAdd, Int.reduceSub, Int.reduceMul, Int.reduceToNat, Int.reduceNeg, reduceIte, reduceCtorEq, reduceBEq])
      refine callE_pure hfw (by rfl) (by rfl) (by rfl) (by decide) (by rfl) (fun _ => by rfl) (by first | rfl | simp [gdOk, newToks]) ?_
      simp -implicitDefEqProofs only [push_cast, hs, Int.reduceBEq, Int.reduceBNe, Int.reduceEq, Int.reduceNe, Int.reducePow, Nat.reduceAdd, Nat.reduceMul, Nat.reduceSub, Nat.reduceLT, Nat.reduceLeDiff, Nat.reduceEqDiff, Nat.reduceBEq, Int.reduceLT, Int.reduceLE, Int.reduceAdd, Int.reduceSub, Int.reduceMul, Int.reduceToNat, Int.reduceNeg, reduceIte, reduceCtorEq, reduceBEq]
      refine callE_pure awake_fs (by rfl) (by rfl) (by rfl) (by decide) (by rfl) (fun _ => by rfl) (by first | rfl | simp [gdOk, newToks]) ?_
      simp -implicitDefEqProofs only [push_cast, Int.reduceBEq, Int.reduceBNe, Int.reduceEq, Int.reduceNe, Int.reducePow, Nat.reduceAdd, Nat.reduceMul, Nat.reduceSub, Nat.reduceLT, Nat.reduceLeDiff, Nat.reduceEqDiff, Nat.reduceBEq, Int.reduceLT, Int.reduceLE, Int.reduceAdd, Int.reduceSub, Int.reduceMul, Int.reduceToNat, Int.reduceNeg, reduceIte, reduceCtorEq, reduceBEq]

end Go.Proofs.Sh
