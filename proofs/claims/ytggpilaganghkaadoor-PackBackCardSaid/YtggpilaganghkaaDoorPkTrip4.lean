/- Package pack: Length. -/
import Derived.Test.YtggpilaganghkaaDoorPkGet
import Derived.Test.YtggpilaganghkaaDoorPkLawPuts
set_option maxRecDepth 100000
set_option linter.unusedSimpArgs false
set_option linter.unusedVariables false
namespace Go.Proofs.Sh
open Go.Pv

def lenN (o : Int) (s : List UInt8) : Nat := decU o ((s.drop 2).take 2)
def lenR (o : Int) (s : List UInt8) : Int × Int :=
  if isOrd o = true then
    if s.length < 4 then (0, 3) else if lenN o s = 0 then (0, 13) else if 16384 < lenN o s then (0, 4) else (((4 * lenN o s : Nat) : Int), 0)
  else (0, 8)
theorem two_of {s : List UInt8} (h : 4 ≤ s.length) : (s.drop 2).take 2 = [s.getD 2 0, s.getD 3 0] := by
  match s, h with
  | _ :: _ :: x :: y :: r, _ => rfl
theorem lenN_0 {s : List UInt8} (h : 4 ≤ s.length) : lenN 0 s = (s.getD 2 0).toNat + 256 * (s.getD 3 0).toNat := by
  rw [lenN, two_of h]; simp [decU, little]
theorem lenN_1 {s : List UInt8} (h : 4 ≤ s.length) : lenN 1 s = (s.getD 3 0).toNat + 256 * (s.getD 2 0).toNat := by
  rw [lenN, two_of h]; simp [decU, little]
theorem lenN_lt {o : Int} {s : List UInt8} (h : 4 ≤ s.length) : lenN o s < 65536 := by
  have := decU_lt o ((s.drop 2).take 2)
  rw [two_of h] at this
  rw [lenN, two_of h]
  exact this
set_option maxHeartbeats 2000000 in
theorem packLen_fs (o : Int) (s : List UInt8) : Fsp Tryd.prog 17 [] 0 [.int .i64 o, .str s] [] 0 (.tup [.int .i64 (lenR o s).1, .int .i64 (lenR o s).2]) := by
  have hk := pknown_fs o
  cases ho : isOrd o
  · rw [ho] at hk
    rw [show lenR o s = (0, 8) by rw [lenR, if_neg (by rw [ho]; simp)]]
    (refine Fsp.of (nx := 0) mixed Tryd.func17 rfl (by decide) (by first | exact Nat.le_refl _ | simp) (by simp [Tryd.f17]) ⟨by decide, by decide⟩ ?_; simp -implicitDefEqProofs only [push_cast, Tryd.f17, Int.reduceBEq, Int.reduceBNe, Int.reduceEq, Int.reduceNe, Int.reducePow, Nat.reduceAdd, Nat.reduceMul, Nat.reduceSub, Nat.reduceLT, Nat.reduceLeDiff, Nat.reduceEqDiff, Nat.reduceBEq, Int.reduceLT, Int.reduceLE, Int.reduceAdd, Int.reduceSub, Int.reduceMul, Int.reduceToNat, Int.reduceNeg, reduceIte, reduceCtorEq, reduceBEq])
    refine callE_pure hk (by rfl) (by rfl) (by rfl) (by decide) (by rfl) (fun _ => by rfl) (by first | rfl | simp [gdOk, newToks]) ?_
    simp -implicitDefEqProofs only [push_cast, Int.reduceBEq, Int.reduceBNe, Int.reduceEq, Int.reduceNe, Int.reducePow, Nat.reduceAdd, Nat.reduceMul, Nat.reduceSub, Nat.reduceLT, Nat.reduceLeDiff, Nat.reduceEqDiff, Nat.reduceBEq, Int.reduceLT, Int.reduceLE, Int.reduceAdd, Int.reduceSub, Int.reduceMul, Int.reduceToNat, Int.reduceNeg, reduceIte, reduceCtorEq, reduceBEq]
    all_goals simp [wkL, res2, res1, PV.weak, PV.el]
  · rw [ho] at hk
    have hor := isOrd_of ho
    cases h1 : decide ((s.length : Int) < 4)
    · have h1' : 4 ≤ s.length := by simp at h1; omega
      have hn := lenN_lt (o := o) h1'
      have hlen : ((s.drop 2).take 2).length = wid 2 := by rw [two_of h1']; rfl
      have hg := get_fs hor (s := 2) (by unfold isSize; omega) ((s.drop 2).take 2)
      rw [show getV o 2 ((s.drop 2).take 2) = (lenN o s : Int) by
        rw [getV, if_pos hlen, readV, if_neg (by simp only [decide_eq_true_eq]; rw [show high 2 = 65535 by decide]; show ¬ (65535 : Int) < ((lenN o s : Nat) : Int); omega)]; rfl, show getE 2 ((s.drop 2).take 2) = 0 by rw [getE, if_neg (by omega), if_neg (by omega)]] at hg
      have hL : lenR o s = if lenN o s = 0 then (0, 13) else if 16384 < lenN o s then (0, 4) else (((4 * lenN o s : Nat) : Int), 0) := by
        rw [lenR, if_pos ho, if_neg (by omega)]
      rw [hL]
      have hw : IntKind.i64.wrap (4 * (lenN o s : Int)) = 4 * (lenN o s : Int) := by rw [wrap_i64_id (by omega) (by omega)]
      generalize lenN o s = n at *
      cases h2 : ((n : Int) == 0)
      · have h2' : ¬ n = 0 := by simp at h2; omega
        rw [if_neg h2']
        cases h3 : decide ((65536 : Int) < 4 * (n : Int))
        · have h3' : ¬ 16384 < n := by simp at h3; omega
          rw [if_neg h3']
          (refine Fsp.of (nx := 0) mixed Tryd.func17 rfl (by decide) (by first | exact Nat.le_refl _ | simp) (by simp [Tryd.f17]) ⟨by decide, by decide⟩ ?_; simp -implicitDefEqProofs only [push_cast, Tryd.f17, Int.reduceBEq, Int.reduceBNe, Int.reduceEq, Int.reduceNe, Int.reducePow, Nat.reduceAdd, Nat.reduceMul, Nat.reduceSub, Nat.reduceLT, Nat.reduceLeDiff, Nat.reduceEqDiff, Nat.reduceBEq, Int.reduceLT, Int.reduceLE, Int.reduceAdd, Int.reduceSub, Int.reduceMul, Int.reduceToNat, Int.reduceNeg, reduceIte, reduceCtorEq, reduceBEq])
          refine callE_pure hk (by rfl) (by rfl) (by rfl) (by decide) (by rfl) (fun _ => by rfl) (by first | rfl | simp [gdOk, newToks]) ?_
          simp -implicitDefEqProofs only [push_cast, h1, Int.reduceBEq, Int.reduceBNe, Int.reduceEq, Int.reduceNe, Int.reducePow, Nat.reduceAdd, Nat.reduceMul, Nat.reduceSub, Nat.reduceLT, Nat.reduceLeDiff, Nat.reduceEqDiff, Nat.reduceBEq, Int.reduceLT, Int.reduceLE, Int.reduceAdd, Int.reduceSub, Int.reduceMul, Int.reduceToNat, Int.reduceNeg, reduceIte, reduceCtorEq, reduceBEq]
          (repeat (first | refine ⟨by omega, ?_⟩ | refine ⟨by (unfold drawOk; kernel_rfl), ?_⟩))
          refine callE_pure hg (by rfl) (by rfl) (by rfl) (by decide) (by rfl) (fun _ => by rfl) (by first | rfl | simp [gdOk, newToks]) ?_
          simp -implicitDefEqProofs only [push_cast, h2, h3, hw, Int.reduceBEq, Int.reduceBNe, Int.reduceEq, Int.reduceNe, Int.reducePow, Nat.reduceAdd, Nat.reduceMul, Nat.reduceSub, Nat.reduceLT, Nat.reduceLeDiff, Nat.reduceEqDiff, Nat.reduceBEq, Int.reduceLT, Int.reduceLE, Int.reduceAdd, Int.reduceSub, Int.reduceMul, Int.reduceToNat, Int.reduceNeg, reduceIte, reduceCtorEq, reduceBEq]
          all_goals simp [wkL, res2, res1, PV.weak, PV.el]
        · have h3' : 16384 < n := by simp at h3; omega
          rw [if_pos h3']
          (refine Fsp.of (nx := 0) mixed Tryd.func17 rfl (by decide) (by first | exact Nat.le_refl _ | simp) (by simp [Tryd.f17]) ⟨by decide, by decide⟩ ?_; simp -implicitDefEqProofs only [push_cast, Tryd.f17, Int.reduceBEq, Int.reduceBNe, Int.reduceEq, Int.reduceNe, Int.reducePow, Nat.reduceAdd, Nat.reduceMul, Nat.reduceSub, Nat.reduceLT, Nat.reduceLeDiff, Nat.reduceEqDiff, Nat.reduceBEq, Int.reduceLT, Int.reduceLE, Int.reduceAdd, Int.reduceSub, Int.reduceMul, Int.reduceToNat, Int.reduceNeg, reduceIte, reduceCtorEq, reduceBEq])
          refine callE_pure hk (by rfl) (by rfl) (by rfl) (by decide) (by rfl) (fun _ => by rfl) (by first | rfl | simp [gdOk, newToks]) ?_
          simp -implicitDefEqProofs only [push_cast, h1, Int.reduceBEq, Int.reduceBNe, Int.reduceEq, Int.reduceNe, Int.reducePow, Nat.reduceAdd, Nat.reduceMul, Nat.reduceSub, Nat.reduceLT, Nat.reduceLeDiff, Nat.reduceEqDiff, Nat.reduceBEq, Int.reduceLT, Int.reduceLE, Int.reduceAdd, Int.reduceSub, Int.reduceMul, Int.reduceToNat, Int.reduceNeg, reduceIte, reduceCtorEq, reduceBEq]
          (repeat (first | refine ⟨by omega, ?_⟩ | refine ⟨by (unfold drawOk; kernel_rfl), ?_⟩))
          refine callE_pure hg (by rfl) (by rfl) (by rfl) (by decide) (by rfl) (fun _ => by rfl) (by first | rfl | simp [gdOk, newToks]) ?_
          simp -implicitDefEqProofs only [push_cast, h2, h3, hw, Int.reduceBEq, Int.reduceBNe, Int.reduceEq, Int.reduceNe, Int.reducePow, Nat.reduceAdd, Nat.reduceMul, Nat.reduceSub, Nat.reduceLT, Nat.reduceLeDiff, Nat.reduceEqDiff, Nat.reduceBEq, Int.reduceLT, Int.reduceLE, Int.reduceAdd, Int.reduceSub, Int.reduceMul, Int.reduceToNat, Int.reduceNeg, reduceIte, reduceCtorEq, reduceBEq]
          all_goals simp [wkL, res2, res1, PV.weak, PV.el]
      · have h2' : n = 0 := by simp at h2; omega
        rw [if_pos h2']
        (refine Fsp.of (nx := 0) mixed Tryd.func17 rfl (by decide) (by first | exact Nat.le_refl _ | simp) (by simp [Tryd.f17]) ⟨by decide, by decide⟩ ?_; simp -implicitDefEqProofs only [push_cast, Tryd.f17, Int.reduceBEq, Int.reduceBNe, Int.reduceEq, Int.reduceNe, Int.reducePow, Nat.reduceAdd, Nat.reduceMul, Nat.reduceSub, Nat.reduceLT, Nat.reduceLeDiff, Nat.reduceEqDiff, Nat.reduceBEq, Int.reduceLT, Int.reduceLE, Int.reduceAdd, Int.reduceSub, Int.reduceMul, Int.reduceToNat, Int.reduceNeg, reduceIte, reduceCtorEq, reduceBEq])
        refine callE_pure hk (by rfl) (by rfl) (by rfl) (by decide) (by rfl) (fun _ => by rfl) (by first | rfl | simp [gdOk, newToks]) ?_
        simp -implicitDefEqProofs only [push_cast, h1, Int.reduceBEq, Int.reduceBNe, Int.reduceEq, Int.reduceNe, Int.reducePow, Nat.reduceAdd, Nat.reduceMul, Nat.reduceSub, Nat.reduceLT, Nat.reduceLeDiff, Nat.reduceEqDiff, Nat.reduceBEq, Int.reduceLT, Int.reduceLE, Int.reduceAdd, Int.reduceSub, Int.reduceMul, Int.reduceToNat, Int.reduceNeg, reduceIte, reduceCtorEq, reduceBEq]
        (repeat (first | refine ⟨by omega, ?_⟩ | refine ⟨by (unfold drawOk; kernel_rfl), ?_⟩))
        refine callE_pure hg (by rfl) (by rfl) (by rfl) (by decide) (by rfl) (fun _ => by rfl) (by first | rfl | simp [gdOk, newToks]) ?_
        simp -implicitDefEqProofs only [push_cast, h2, Int.reduceBEq, Int.reduceBNe, Int.reduceEq, Int.reduceNe, Int.reducePow, Nat.reduceAdd, Nat.reduceMul, Nat.reduceSub, Nat.reduceLT, Nat.reduceLeDiff, Nat.reduceEqDiff, Nat.reduceBEq, Int.reduceLT, Int.reduceLE, Int.reduceAdd, Int.reduceSub, Int.reduceMul, Int.reduceToNat, Int.reduceNeg, reduceIte, reduceCtorEq, reduceBEq]
        all_goals simp [wkL, res2, res1, PV.weak, PV.el]
    · have h1' : s.length < 4 := by simp at h1; omega
      rw [show lenR o s = (0, 3) by rw [lenR, if_pos ho, if_pos h1']]
      (refine Fsp.of (nx := 0) mixed Tryd.func17 rfl (by decide) (by first | exact Nat.le_refl _ | simp) (by simp [Tryd.f17]) ⟨by decide, by decide⟩ ?_; simp -implicitDefEqProofs only [push_cast, Tryd.f17, Int.reduceBEq, Int.reduceBNe, Int.reduceEq, Int.reduceNe, Int.reducePow, Nat.reduceAdd, Nat.reduceMul, Nat.reduceSub, Nat.reduceLT, Nat.reduceLeDiff, Nat.reduceEqDiff, Nat.reduceBEq, Int.reduceLT, Int.reduceLE, Int.reduceAdd, Int.reduceSub, Int.reduceMul, Int.reduceToNat, Int.reduceNeg, reduceIte, reduceCtorEq, reduceBEq])
      refine callE_pure hk (by rfl) (by rfl) (by rfl) (by decide) (by rfl) (fun _ => by rfl) (by first | rfl | simp [gdOk, newToks]) ?_
      simp -implicitDefEqProofs only [push_cast, h1, Int.reduceBEq, Int.reduceBNe, Int.reduceEq, Int.reduceNe, Int.reducePow, Nat.reduceAdd, Nat.reduceMul, Nat.reduceSub, Nat.reduceLT, Nat.reduceLeDiff, Nat.reduceEqDiff, Nat.reduceBEq, Int.reduceLT, Int.reduceLE, Int.reduceAdd, Int.reduceSub, Int.reduceMul, Int.reduceToNat, Int.reduceNeg, reduceIte, reduceCtorEq, reduceBEq]
      all_goals simp [wkL, res2, res1, PV.weak, PV.el]

theorem w256 (x : UInt8) : IntKind.i64.wrap (256 * (x.toNat : Int)) = 256 * (x.toNat : Int) := by
  have := x.toNat_lt
  rw [wrap_i64_id (by omega) (by omega)]
theorem wb (x : UInt8) : IntKind.i64.wrap (x.toNat : Int) = (x.toNat : Int) := by
  have := x.toNat_lt
  rw [wrap_i64_id (by omega) (by omega)]
set_option maxHeartbeats 4000000 in
theorem refLen_fs (o : Int) (s : List UInt8) : Fsp Tryd.prog 18 [] 0 [.int .i64 o, .str s] [] 0 (.tup [.int .i64 (lenR o s).1, .int .i64 (lenR o s).2]) := by
  cases ho : isOrd o
  · have h0 : (o != 0) = true := by simp [isOrd] at ho; simp [ho.1]
    have h1 : (o != 1) = true := by simp [isOrd] at ho; simp [ho.2]
    rw [show lenR o s = (0, 8) by rw [lenR, if_neg (by rw [ho]; simp)]]
    (refine Fsp.of (nx := 0) mixed Tryd.func18 rfl (by decide) (by first | exact Nat.le_refl _ | simp) (by simp [Tryd.f18]) ⟨by decide, by decide⟩ ?_; simp -implicitDefEqProofs only [push_cast, Tryd.f18, h0, h1, Int.reduceBEq, Int.reduceBNe, Int.reduceEq, Int.reduceNe, Int.reducePow, Nat.reduceAdd, Nat.reduceMul, Nat.reduceSub, Nat.reduceLT, Nat.reduceLeDiff, Nat.reduceEqDiff, Nat.reduceBEq, Int.reduceLT, Int.reduceLE, Int.reduceAdd, Int.reduceSub, Int.reduceMul, Int.reduceToNat, Int.reduceNeg, reduceIte, reduceCtorEq, reduceBEq])
    all_goals simp [wkL, res2, res1, PV.weak, PV.el]
  · have hor := isOrd_of ho
    cases h1 : decide ((s.length : Int) < 4)
    · have h1' : 4 ≤ s.length := by simp at h1; omega
      have hn := lenN_lt (o := o) h1'
      have hL : lenR o s = if lenN o s = 0 then (0, 13) else if 16384 < lenN o s then (0, 4) else (((4 * lenN o s : Nat) : Int), 0) := by
        rw [lenR, if_pos ho, if_neg (by omega)]
      rw [hL]
      have hw : IntKind.i64.wrap (4 * (lenN o s : Int)) = 4 * (lenN o s : Int) := by rw [wrap_i64_id (by omega) (by omega)]
      have hN0 := lenN_0 h1'
      have hN1 := lenN_1 h1'
      have hx := (s.getD 2 0).toNat_lt
      have hy := (s.getD 3 0).toNat_lt
      have f0 : IntKind.i64.wrap (((s.getD 2 0).toNat : Int) + 256 * ((s.getD 3 0).toNat : Int)) = (lenN 0 s : Int) := by rw [wrap_i64_id (by omega) (by omega), hN0]; omega
      have f1 : IntKind.i64.wrap (256 * ((s.getD 2 0).toNat : Int) + ((s.getD 3 0).toNat : Int)) = (lenN 1 s : Int) := by rw [wrap_i64_id (by omega) (by omega), hN1]; omega
      have g2 : 2 < s.length := by omega
      have g3 : 3 < s.length := by omega
      rcases hor with rfl | rfl
      · generalize lenN 0 s = n at *
        cases h2 : ((n : Int) == 0)
        · have h2' : ¬ n = 0 := by simp at h2; omega
          rw [if_neg h2']
          cases h3 : decide ((65536 : Int) < 4 * (n : Int))
          · have h3' : ¬ 16384 < n := by simp at h3; omega
            rw [if_neg h3']
            (refine Fsp.of (nx := 0) mixed Tryd.func18 rfl (by decide) (by first | exact Nat.le_refl _ | simp) (by simp [Tryd.f18]) ⟨by decide, by decide⟩ ?_; simp -implicitDefEqProofs only [push_cast, Tryd.f18, h1, wb, w256, f0, h2, h3, hw, Int.reduceBEq, Int.reduceBNe, Int.reduceEq, Int.reduceNe, Int.reducePow, Nat.reduceAdd, Nat.reduceMul, Nat.reduceSub, Nat.reduceLT, Nat.reduceLeDiff, Nat.reduceEqDiff, Nat.reduceBEq, Int.reduceLT, Int.reduceLE, Int.reduceAdd, Int.reduceSub, Int.reduceMul, Int.reduceToNat, Int.reduceNeg, reduceIte, reduceCtorEq, reduceBEq])
            (repeat (first | refine ⟨by omega, ?_⟩ | refine ⟨by (unfold drawOk; kernel_rfl), ?_⟩))
            all_goals simp [wkL, res2, res1, PV.weak, PV.el]
          · have h3' : 16384 < n := by simp at h3; omega
            rw [if_pos h3']
            (refine Fsp.of (nx := 0) mixed Tryd.func18 rfl (by decide) (by first | exact Nat.le_refl _ | simp) (by simp [Tryd.f18]) ⟨by decide, by decide⟩ ?_; simp -implicitDefEqProofs only [push_cast, Tryd.f18, h1, wb, w256, f0, h2, h3, hw, Int.reduceBEq, Int.reduceBNe, Int.reduceEq, Int.reduceNe, Int.reducePow, Nat.reduceAdd, Nat.reduceMul, Nat.reduceSub, Nat.reduceLT, Nat.reduceLeDiff, Nat.reduceEqDiff, Nat.reduceBEq, Int.reduceLT, Int.reduceLE, Int.reduceAdd, Int.reduceSub, Int.reduceMul, Int.reduceToNat, Int.reduceNeg, reduceIte, reduceCtorEq, reduceBEq])
            (repeat (first | refine ⟨by omega, ?_⟩ | refine ⟨by (unfold drawOk; kernel_rfl), ?_⟩))
            all_goals simp [wkL, res2, res1, PV.weak, PV.el]
        · have h2' : n = 0 := by simp at h2; omega
          rw [if_pos h2']
          (refine Fsp.of (nx := 0) mixed Tryd.func18 rfl (by decide) (by first | exact Nat.le_refl _ | simp) (by simp [Tryd.f18]) ⟨by decide, by decide⟩ ?_; simp -implicitDefEqProofs only [push_cast, Tryd.f18, h1, wb, w256, f0, h2, Int.reduceBEq, Int.reduceBNe, Int.reduceEq, Int.reduceNe, Int.reducePow, Nat.reduceAdd, Nat.reduceMul, Nat.reduceSub, Nat.reduceLT, Nat.reduceLeDiff, Nat.reduceEqDiff, Nat.reduceBEq, Int.reduceLT, Int.reduceLE, Int.reduceAdd, Int.reduceSub, Int.reduceMul, Int.reduceToNat, Int.reduceNeg, reduceIte, reduceCtorEq, reduceBEq])
          (repeat (first | refine ⟨by omega, ?_⟩ | refine ⟨by (unfold drawOk; kernel_rfl), ?_⟩))
          all_goals simp [wkL, res2, res1, PV.weak, PV.el]
      · generalize lenN 1 s = n at *
        generalize lenN 0 s = n0 at *
        cases h2 : ((n : Int) == 0)
        · have h2' : ¬ n = 0 := by simp at h2; omega
          rw [if_neg h2']
          cases h3 : decide ((65536 : Int) < 4 * (n : Int))
          · have h3' : ¬ 16384 < n := by simp at h3; omega
            rw [if_neg h3']
            (refine Fsp.of (nx := 0) mixed Tryd.func18 rfl (by decide) (by first | exact Nat.le_refl _ | simp) (by simp [Tryd.f18]) ⟨by decide, by decide⟩ ?_; simp -implicitDefEqProofs only [push_cast, Tryd.f18, h1, wb, w256, f0, f1, h2, h3, hw, Int.reduceBEq, Int.reduceBNe, Int.reduceEq, Int.reduceNe, Int.reducePow, Nat.reduceAdd, Nat.reduceMul, Nat.reduceSub, Nat.reduceLT, Nat.reduceLeDiff, Nat.reduceEqDiff, Nat.reduceBEq, Int.reduceLT, Int.reduceLE, Int.reduceAdd, Int.reduceSub, Int.reduceMul, Int.reduceToNat, Int.reduceNeg, reduceIte, reduceCtorEq, reduceBEq])
            (repeat (first | refine ⟨by omega, ?_⟩ | refine ⟨by (unfold drawOk; kernel_rfl), ?_⟩))
            all_goals simp [wkL, res2, res1, PV.weak, PV.el]
          · have h3' : 16384 < n := by simp at h3; omega
            rw [if_pos h3']
            (refine Fsp.of (nx := 0) mixed Tryd.func18 rfl (by decide) (by first | exact Nat.le_refl _ | simp) (by simp [Tryd.f18]) ⟨by decide, by decide⟩ ?_; simp -implicitDefEqProofs only [push_cast, Tryd.f18, h1, wb, w256, f0, f1, h2, h3, hw, Int.reduceBEq, Int.reduceBNe, Int.reduceEq, Int.reduceNe, Int.reducePow, Nat.reduceAdd, Nat.reduceMul, Nat.reduceSub, Nat.reduceLT, Nat.reduceLeDiff, Nat.reduceEqDiff, Nat.reduceBEq, Int.reduceLT, Int.reduceLE, Int.reduceAdd, Int.reduceSub, Int.reduceMul, Int.reduceToNat, Int.reduceNeg, reduceIte, reduceCtorEq, reduceBEq])
            (repeat (first | refine ⟨by omega, ?_⟩ | refine ⟨by (unfold drawOk; kernel_rfl), ?_⟩))
            all_goals simp [wkL, res2, res1, PV.weak, PV.el]
        · have h2' : n = 0 := by simp at h2; omega
          rw [if_pos h2']
          (refine Fsp.of (nx := 0) mixed Tryd.func18 rfl (by decide) (by first | exact Nat.le_refl _ | simp) (by simp [Tryd.f18]) ⟨by decide, by decide⟩ ?_; simp -implicitDefEqProofs only [push_cast, Tryd.f18, h1, wb, w256, f0, f1, h2, Int.reduceBEq, Int.reduceBNe, Int.reduceEq, Int.reduceNe, Int.reducePow, Nat.reduceAdd, Nat.reduceMul, Nat.reduceSub, Nat.reduceLT, Nat.reduceLeDiff, Nat.reduceEqDiff, Nat.reduceBEq, Int.reduceLT, Int.reduceLE, Int.reduceAdd, Int.reduceSub, Int.reduceMul, Int.reduceToNat, Int.reduceNeg, reduceIte, reduceCtorEq, reduceBEq])
          (repeat (first | refine ⟨by omega, ?_⟩ | refine ⟨by (unfold drawOk; kernel_rfl), ?_⟩))
          all_goals simp [wkL, res2, res1, PV.weak, PV.el]
    · have h1' : s.length < 4 := by simp at h1; omega
      rw [show lenR o s = (0, 3) by rw [lenR, if_pos ho, if_pos h1']]
      rcases hor with rfl | rfl
      · (refine Fsp.of (nx := 0) mixed Tryd.func18 rfl (by decide) (by first | exact Nat.le_refl _ | simp) (by simp [Tryd.f18]) ⟨by decide, by decide⟩ ?_; simp -implicitDefEqProofs only [push_cast, Tryd.f18, h1, Int.reduceBEq, Int.reduceBNe, Int.reduceEq, Int.reduceNe, Int.reducePow, Nat.reduceAdd, Nat.reduceMul, Nat.reduceSub, Nat.reduceLT, Nat.reduceLeDiff, Nat.reduceEqDiff, Nat.reduceBEq, Int.reduceLT, Int.reduceLE, Int.reduceAdd, Int.reduceSub, Int.reduceMul, Int.reduceToNat, Int.reduceNeg, reduceIte, reduceCtorEq, reduceBEq])
        all_goals simp [wkL, res2, res1, PV.weak, PV.el]
      · (refine Fsp.of (nx := 0) mixed Tryd.func18 rfl (by decide) (by first | exact Nat.le_refl _ | simp) (by simp [Tryd.f18]) ⟨by decide, by decide⟩ ?_; simp -implicitDefEqProofs only [push_cast, Tryd.f18, h1, Int.reduceBEq, Int.reduceBNe, Int.reduceEq, Int.reduceNe, Int.reducePow, Nat.reduceAdd, Nat.reduceMul, Nat.reduceSub, Nat.reduceLT, Nat.reduceLeDiff, Nat.reduceEqDiff, Nat.reduceBEq, Int.reduceLT, Int.reduceLE, Int.reduceAdd, Int.reduceSub, Int.reduceMul, Int.reduceToNat, Int.reduceNeg, reduceIte, reduceCtorEq, reduceBEq])
        all_goals simp [wkL, res2, res1, PV.weak, PV.el]

end Go.Proofs.Sh

/- Package pack: Get; PackGets. -/
set_option maxRecDepth 100000
set_option linter.unusedSimpArgs false
set_option linter.unusedVariables false
namespace Go.Proofs.Sh
open Go.Pv

def rq0 : Rq := ⟨0, [], [], []⟩
def getQ (o : Int) (s : List UInt8) (f : Fm) : Rq × Int :=
  if (lenR o s).2 = 0 then
    if (s.length : Int) = (lenR o s).1 then
      if s.getD 1 0 = 0 then
        if (getF o f (s.drop 4)).2 = 0 then (⟨((s.getD 0 0).toNat : Int), (getF o f (s.drop 4)).1.N, (getF o f (s.drop 4)).1.B, (getF o f (s.drop 4)).1.L⟩, 0)
        else (rq0, (getF o f (s.drop 4)).2)
      else (rq0, 2)
    else (rq0, 17)
  else (rq0, (lenR o s).2)
def getP (o : Int) (s : List UInt8) : Rq × Int :=
  if isOrd o = true then
    if s.length < 4 then (rq0, 3)
    else match formOf ((s.getD 0 0).toNat : Int) with
      | none => (rq0, 10)
      | some f => getQ o s f
  else (rq0, 8)
def getPR (o : Int) (s : List UInt8) : PV := .tup [(getP o s).1.pv, .int .i64 (getP o s).2]
theorem getP_none {o : Int} {s : List UInt8} (ho : isOrd o = true) (h : ¬ s.length < 4) (hf : formOf ((s.getD 0 0).toNat : Int) = none) : getP o s = (rq0, 10) := by
  rw [getP, if_pos ho, if_neg h, hf]
theorem getP_some {o : Int} {s : List UInt8} {f : Fm} (ho : isOrd o = true) (h : ¬ s.length < 4) (hf : formOf ((s.getD 0 0).toNat : Int) = some f) : getP o s = getQ o s f := by
  rw [getP, if_pos ho, if_neg h, hf]
set_option maxHeartbeats 8000000 in
theorem packGet_fs (o : Int) (s : List UInt8) (hs : s.length ≤ 1000000) : Fsp Tryd.prog 16 [] 0 [.int .i64 o, .str s] [] 0 (getPR o s) := by
  have hk := pknown_fs o
  have hp := packLen_fs o s
  rw [getPR]
  cases ho : isOrd o
  · rw [ho] at hk
    rw [show getP o s = (rq0, 8) by rw [getP, if_neg (by rw [ho]; simp)]]
    (refine Fsp.of (nx := 0) mixed Tryd.func16 rfl (by decide) (by first | exact Nat.le_refl _ | simp) (by simp [Tryd.f16]) ⟨by decide, by decide⟩ ?_; simp -implicitDefEqProofs only [push_cast, Tryd.f16, Int.reduceBEq, Int.reduceBNe, Int.reduceEq, Int.reduceNe, Int.reducePow, Nat.reduceAdd, Nat.reduceMul, Nat.reduceSub, Nat.reduceLT, Nat.reduceLeDiff, Nat.reduceEqDiff, Nat.reduceBEq, Int.reduceLT, Int.reduceLE, Int.reduceAdd, Int.reduceSub, Int.reduceMul, Int.reduceToNat, Int.reduceNeg, reduceIte, reduceCtorEq, reduceBEq])
    refine callE_pure hk (by rfl) (by rfl) (by rfl) (by decide) (by rfl) (fun _ => by rfl) (by first | rfl | simp [gdOk, newToks]) ?_
    simp -implicitDefEqProofs only [push_cast, Int.reduceBEq, Int.reduceBNe, Int.reduceEq, Int.reduceNe, Int.reducePow, Nat.reduceAdd, Nat.reduceMul, Nat.reduceSub, Nat.reduceLT, Nat.reduceLeDiff, Nat.reduceEqDiff, Nat.reduceBEq, Int.reduceLT, Int.reduceLE, Int.reduceAdd, Int.reduceSub, Int.reduceMul, Int.reduceToNat, Int.reduceNeg, reduceIte, reduceCtorEq, reduceBEq]
    exact ⟨_, rfl, by simp [wkL, res2, res1, PV.weak, PV.el, rq0, Rq.pv, ints]⟩
  · rw [ho] at hk
    have hor := isOrd_of ho
    cases h1 : decide ((s.length : Int) < 4)
    · have h1' : ¬ s.length < 4 := by simp at h1; omega
      have g0 : 0 < s.length := by omega
      have g1 : 1 < s.length := by omega
      have g4 : 4 ≤ s.length := by omega
      have hq := request_fs ((s.getD 0 0).toNat : Int)
      cases hf : formOf ((s.getD 0 0).toNat : Int) with
      | none =>
        rw [formR, hf] at hq
        simp only [form0] at hq
        rw [getP_none ho h1' hf]
        (refine Fsp.of (nx := 0) mixed Tryd.func16 rfl (by decide) (by first | exact Nat.le_refl _ | simp) (by simp [Tryd.f16]) ⟨by decide, by decide⟩ ?_; simp -implicitDefEqProofs only [push_cast, Tryd.f16, Int.reduceBEq, Int.reduceBNe, Int.reduceEq, Int.reduceNe, Int.reducePow, Nat.reduceAdd, Nat.reduceMul, Nat.reduceSub, Nat.reduceLT, Nat.reduceLeDiff, Nat.reduceEqDiff, Nat.reduceBEq, Int.reduceLT, Int.reduceLE, Int.reduceAdd, Int.reduceSub, Int.reduceMul, Int.reduceToNat, Int.reduceNeg, reduceIte, reduceCtorEq, reduceBEq])
        refine callE_pure hk (by rfl) (by rfl) (by rfl) (by decide) (by rfl) (fun _ => by rfl) (by first | rfl | simp [gdOk, newToks]) ?_
        simp -implicitDefEqProofs only [push_cast, h1, wb, Int.reduceBEq, Int.reduceBNe, Int.reduceEq, Int.reduceNe, Int.reducePow, Nat.reduceAdd, Nat.reduceMul, Nat.reduceSub, Nat.reduceLT, Nat.reduceLeDiff, Nat.reduceEqDiff, Nat.reduceBEq, Int.reduceLT, Int.reduceLE, Int.reduceAdd, Int.reduceSub, Int.reduceMul, Int.reduceToNat, Int.reduceNeg, reduceIte, reduceCtorEq, reduceBEq]
        (repeat (first | refine ⟨by omega, ?_⟩ | refine ⟨by (unfold drawOk; kernel_rfl), ?_⟩))
        refine callE_pure hq (by rfl) (by rfl) (by rfl) (by decide) (by rfl) (fun _ => by rfl) (by first | rfl | simp [gdOk, newToks]) ?_
        simp -implicitDefEqProofs only [push_cast, Int.reduceBEq, Int.reduceBNe, Int.reduceEq, Int.reduceNe, Int.reducePow, Nat.reduceAdd, Nat.reduceMul, Nat.reduceSub, Nat.reduceLT, Nat.reduceLeDiff, Nat.reduceEqDiff, Nat.reduceBEq, Int.reduceLT, Int.reduceLE, Int.reduceAdd, Int.reduceSub, Int.reduceMul, Int.reduceToNat, Int.reduceNeg, reduceIte, reduceCtorEq, reduceBEq]
        exact ⟨_, rfl, by simp [wkL, res2, res1, PV.weak, PV.el, rq0, Rq.pv, ints]⟩
      | some f =>
        rw [formR, hf] at hq
        simp only [formT, Fm.pv] at hq
        obtain ⟨hok, -, -⟩ := formOf_some hf
        have hg := formGet_fs hor f hok (s.drop 4) (by simp; omega)
        simp only [getR, Fm.pv] at hg
        have htk : List.take (s.length - 4) (List.drop 4 s) = List.drop 4 s := List.take_of_length_le (by simp)
        rw [getP_some ho h1' hf, getQ]
        generalize getF o f (s.drop 4) = x at *
        obtain ⟨x, xe⟩ := x
        simp only [Fd.pv] at hg
        generalize lenR o s = L at *
        obtain ⟨n, e⟩ := L
        simp only at hp
        simp only
        (refine Fsp.of (nx := 0) mixed Tryd.func16 rfl (by decide) (by first | exact Nat.le_refl _ | simp) (by simp [Tryd.f16]) ⟨by decide, by decide⟩ ?_; simp -implicitDefEqProofs only [push_cast, Tryd.f16, Int.reduceBEq, Int.reduceBNe, Int.reduceEq, Int.reduceNe, Int.reducePow, Nat.reduceAdd, Nat.reduceMul, Nat.reduceSub, Nat.reduceLT, Nat.reduceLeDiff, Nat.reduceEqDiff, Nat.reduceBEq, Int.reduceLT, Int.reduceLE, Int.reduceAdd, Int.reduceSub, Int.reduceMul, Int.reduceToNat, Int.reduceNeg, reduceIte, reduceCtorEq, reduceBEq])
        refine callE_pure hk (by rfl) (by rfl) (by rfl) (by decide) (by rfl) (fun _ => by rfl) (by first | rfl | simp [gdOk, newToks]) ?_
        simp -implicitDefEqProofs only [push_cast, h1, wb, Int.reduceBEq, Int.reduceBNe, Int.reduceEq, Int.reduceNe, Int.reducePow, Nat.reduceAdd, Nat.reduceMul, Nat.reduceSub, Nat.reduceLT, Nat.reduceLeDiff, Nat.reduceEqDiff, Nat.reduceBEq, Int.reduceLT, Int.reduceLE, Int.reduceAdd, Int.reduceSub, Int.reduceMul, Int.reduceToNat, Int.reduceNeg, reduceIte, reduceCtorEq, reduceBEq]
        (repeat (first | refine ⟨by omega, ?_⟩ | refine ⟨by (unfold drawOk; kernel_rfl), ?_⟩))
        refine callE_pure hq (by rfl) (by rfl) (by rfl) (by decide) (by rfl) (fun _ => by rfl) (by first | rfl | simp [gdOk, newToks]) ?_
        simp -implicitDefEqProofs only [push_cast, Int.reduceBEq, Int.reduceBNe, Int.reduceEq, Int.reduceNe, Int.reducePow, Nat.reduceAdd, Nat.reduceMul, Nat.reduceSub, Nat.reduceLT, Nat.reduceLeDiff, Nat.reduceEqDiff, Nat.reduceBEq, Int.reduceLT, Int.reduceLE, Int.reduceAdd, Int.reduceSub, Int.reduceMul, Int.reduceToNat, Int.reduceNeg, reduceIte, reduceCtorEq, reduceBEq]
        refine callE_pure hp (by rfl) (by rfl) (by rfl) (by decide) (by rfl) (fun _ => by rfl) (by first | rfl | simp [gdOk, newToks]) ?_
        cases h2 : (e != 0)
        · have h2' : e = 0 := by simpa using h2
          rw [if_pos h2']
          cases h3 : ((s.length : Int) != n)
          · have h3' : (s.length : Int) = n := by simpa using h3
            rw [if_pos h3']
            cases h4 : (((s.getD 1 0).toNat : Int) != 0)
            · have h4' : s.getD 1 0 = 0 := by
                simp at h4
                exact UInt8.toNat_inj.1 (by rw [List.getD_eq_getElem?_getD]; simpa using h4)
              rw [if_pos h4']
              cases h5 : (xe != 0)
              · have h5' : xe = 0 := by simpa using h5
                rw [if_pos h5']
                simp -implicitDefEqProofs only [push_cast, h2, h3, h4, htk, Int.reduceBEq, Int.reduceBNe, Int.reduceEq, Int.reduceNe, Int.reducePow, Nat.reduceAdd, Nat.reduceMul, Nat.reduceSub, Nat.reduceLT, Nat.reduceLeDiff, Nat.reduceEqDiff, Nat.reduceBEq, Int.reduceLT, Int.reduceLE, Int.reduceAdd, Int.reduceSub, Int.reduceMul, Int.reduceToNat, Int.reduceNeg, reduceIte, reduceCtorEq, reduceBEq]
                (repeat (first | refine ⟨by omega, ?_⟩ | refine ⟨by (unfold drawOk; kernel_rfl), ?_⟩))
                refine callE_pure hg (by rfl) (by rfl) (by rfl) (by decide) (by rfl) (fun _ => by rfl) (by first | rfl | simp [gdOk, newToks]) ?_
                simp -implicitDefEqProofs only [push_cast, h5, wb, Int.reduceBEq, Int.reduceBNe, Int.reduceEq, Int.reduceNe, Int.reducePow, Nat.reduceAdd, Nat.reduceMul, Nat.reduceSub, Nat.reduceLT, Nat.reduceLeDiff, Nat.reduceEqDiff, Nat.reduceBEq, Int.reduceLT, Int.reduceLE, Int.reduceAdd, Int.reduceSub, Int.reduceMul, Int.reduceToNat, Int.reduceNeg, reduceIte, reduceCtorEq, reduceBEq]
                (repeat (first | refine ⟨by omega, ?_⟩ | refine ⟨by (unfold drawOk; kernel_rfl), ?_⟩))
                exact ⟨_, rfl, by simp [wkL, res2, res1, PV.weak, PV.el, rq0, Rq.pv, ints]⟩
              · have h5' : ¬ xe = 0 := by simpa using h5
                rw [if_neg h5']
                simp -implicitDefEqProofs only [push_cast, h2, h3, h4, htk, Int.reduceBEq, Int.reduceBNe, Int.reduceEq, Int.reduceNe, Int.reducePow, Nat.reduceAdd, Nat.reduceMul, Nat.reduceSub, Nat.reduceLT, Nat.reduceLeDiff, Nat.reduceEqDiff, Nat.reduceBEq, Int.reduceLT, Int.reduceLE, Int.reduceAdd, Int.reduceSub, Int.reduceMul, Int.reduceToNat, Int.reduceNeg, reduceIte, reduceCtorEq, reduceBEq]
                (repeat (first | refine ⟨by omega, ?_⟩ | refine ⟨by (unfold drawOk; kernel_rfl), ?_⟩))
                refine callE_pure hg (by rfl) (by rfl) (by rfl) (by decide) (by rfl) (fun _ => by rfl) (by first | rfl | simp [gdOk, newToks]) ?_
                simp -implicitDefEqProofs only [push_cast, h5, Int.reduceBEq, Int.reduceBNe, Int.reduceEq, Int.reduceNe, Int.reducePow, Nat.reduceAdd, Nat.reduceMul, Nat.reduceSub, Nat.reduceLT, Nat.reduceLeDiff, Nat.reduceEqDiff, Nat.reduceBEq, Int.reduceLT, Int.reduceLE, Int.reduceAdd, Int.reduceSub, Int.reduceMul, Int.reduceToNat, Int.reduceNeg, reduceIte, reduceCtorEq, reduceBEq]
                (repeat (first | refine ⟨by omega, ?_⟩ | refine ⟨by (unfold drawOk; kernel_rfl), ?_⟩))
                exact ⟨_, rfl, by simp [wkL, res2, res1, PV.weak, PV.el, rq0, Rq.pv, ints]⟩
            · have h4' : ¬ s.getD 1 0 = 0 := by
                intro h
                rw [h] at h4; exact absurd h4 (by decide)
              rw [if_neg h4']
              simp -implicitDefEqProofs only [push_cast, h2, h3, h4, Int.reduceBEq, Int.reduceBNe, Int.reduceEq, Int.reduceNe, Int.reducePow, Nat.reduceAdd, Nat.reduceMul, Nat.reduceSub, Nat.reduceLT, Nat.reduceLeDiff, Nat.reduceEqDiff, Nat.reduceBEq, Int.reduceLT, Int.reduceLE, Int.reduceAdd, Int.reduceSub, Int.reduceMul, Int.reduceToNat, Int.reduceNeg, reduceIte, reduceCtorEq, reduceBEq]
              (repeat (first | refine ⟨by omega, ?_⟩ | refine ⟨by (unfold drawOk; kernel_rfl), ?_⟩))
              exact ⟨_, rfl, by simp [wkL, res2, res1, PV.weak, PV.el, rq0, Rq.pv, ints]⟩
          · have h3' : ¬ (s.length : Int) = n := by simpa using h3
            rw [if_neg h3']
            simp -implicitDefEqProofs only [push_cast, h2, h3, Int.reduceBEq, Int.reduceBNe, Int.reduceEq, Int.reduceNe, Int.reducePow, Nat.reduceAdd, Nat.reduceMul, Nat.reduceSub, Nat.reduceLT, Nat.reduceLeDiff, Nat.reduceEqDiff, Nat.reduceBEq, Int.reduceLT, Int.reduceLE, Int.reduceAdd, Int.reduceSub, Int.reduceMul, Int.reduceToNat, Int.reduceNeg, reduceIte, reduceCtorEq, reduceBEq]
            exact ⟨_, rfl, by simp [wkL, res2, res1, PV.weak, PV.el, rq0, Rq.pv, ints]⟩
        · have h2' : ¬ e = 0 := by simpa using h2
          rw [if_neg h2']
          simp -implicitDefEqProofs only [push_cast, h2, Int.reduceBEq, Int.reduceBNe, Int.reduceEq, Int.reduceNe, Int.reducePow, Nat.reduceAdd, Nat.reduceMul, Nat.reduceSub, Nat.reduceLT, Nat.reduceLeDiff, Nat.reduceEqDiff, Nat.reduceBEq, Int.reduceLT, Int.reduceLE, Int.reduceAdd, Int.reduceSub, Int.reduceMul, Int.reduceToNat, Int.reduceNeg, reduceIte, reduceCtorEq, reduceBEq]
          (repeat (first | refine ⟨by omega, ?_⟩ | refine ⟨by (unfold drawOk; kernel_rfl), ?_⟩))
          exact ⟨_, rfl, by simp [wkL, res2, res1, PV.weak, PV.el, rq0, Rq.pv, ints]⟩
    · have h1' : s.length < 4 := by simp at h1; omega
      rw [show getP o s = (rq0, 3) by rw [getP, if_pos ho, if_pos h1']]
      (refine Fsp.of (nx := 0) mixed Tryd.func16 rfl (by decide) (by first | exact Nat.le_refl _ | simp) (by simp [Tryd.f16]) ⟨by decide, by decide⟩ ?_; simp -implicitDefEqProofs only [push_cast, Tryd.f16, Int.reduceBEq, Int.reduceBNe, Int.reduceEq, Int.reduceNe, Int.reducePow, Nat.reduceAdd, Nat.reduceMul, Nat.reduceSub, Nat.reduceLT, Nat.reduceLeDiff, Nat.reduceEqDiff, Nat.reduceBEq, Int.reduceLT, Int.reduceLE, Int.reduceAdd, Int.reduceSub, Int.reduceMul, Int.reduceToNat, Int.reduceNeg, reduceIte, reduceCtorEq, reduceBEq])
      refine callE_pure hk (by rfl) (by rfl) (by rfl) (by decide) (by rfl) (fun _ => by rfl) (by first | rfl | simp [gdOk, newToks]) ?_
      simp -implicitDefEqProofs only [push_cast, h1, Int.reduceBEq, Int.reduceBNe, Int.reduceEq, Int.reduceNe, Int.reducePow, Nat.reduceAdd, Nat.reduceMul, Nat.reduceSub, Nat.reduceLT, Nat.reduceLeDiff, Nat.reduceEqDiff, Nat.reduceBEq, Int.reduceLT, Int.reduceLE, Int.reduceAdd, Int.reduceSub, Int.reduceMul, Int.reduceToNat, Int.reduceNeg, reduceIte, reduceCtorEq, reduceBEq]
      exact ⟨_, rfl, by simp [wkL, res2, res1, PV.weak, PV.el, rq0, Rq.pv, ints]⟩

set_option maxHeartbeats 8000000 in
theorem lawGet_fs (o : Int) (s : List UInt8) (hs : s.length ≤ 1000000) : Fsp Tryd.prog 19 [] 0 [.int .i64 o, .str s] [] 0 (getPR o s) := by
  have hp := refLen_fs o s
  rw [getPR]
  cases ho : isOrd o
  · rw [show lenR o s = (0, 8) by rw [lenR, if_neg (by rw [ho]; simp)]] at hp
    rw [show getP o s = (rq0, 8) by rw [getP, if_neg (by rw [ho]; simp)]]
    (refine Fsp.of (nx := 0) mixed Tryd.func19 rfl (by decide) (by first | exact Nat.le_refl _ | simp) (by simp [Tryd.f19]) ⟨by decide, by decide⟩ ?_; simp -implicitDefEqProofs only [push_cast, Tryd.f19, Int.reduceBEq, Int.reduceBNe, Int.reduceEq, Int.reduceNe, Int.reducePow, Nat.reduceAdd, Nat.reduceMul, Nat.reduceSub, Nat.reduceLT, Nat.reduceLeDiff, Nat.reduceEqDiff, Nat.reduceBEq, Int.reduceLT, Int.reduceLE, Int.reduceAdd, Int.reduceSub, Int.reduceMul, Int.reduceToNat, Int.reduceNeg, reduceIte, reduceCtorEq, reduceBEq])
    refine callE_pure hp (by rfl) (by rfl) (by rfl) (by decide) (by rfl) (fun _ => by rfl) (by first | rfl | simp [gdOk, newToks]) ?_
    simp -implicitDefEqProofs only [push_cast, Int.reduceBEq, Int.reduceBNe, Int.reduceEq, Int.reduceNe, Int.reducePow, Nat.reduceAdd, Nat.reduceMul, Nat.reduceSub, Nat.reduceLT, Nat.reduceLeDiff, Nat.reduceEqDiff, Nat.reduceBEq, Int.reduceLT, Int.reduceLE, Int.reduceAdd, Int.reduceSub, Int.reduceMul, Int.reduceToNat, Int.reduceNeg, reduceIte, reduceCtorEq, reduceBEq]
    (repeat (first | refine ⟨by omega, ?_⟩ | refine ⟨by (unfold drawOk; kernel_rfl), ?_⟩))
    exact ⟨_, rfl, by simp [wkL, res2, res1, PV.weak, PV.el, rq0, Rq.pv, ints]⟩
  · have hor := isOrd_of ho
    cases h1 : decide ((s.length : Int) < 4)
    · have h1' : ¬ s.length < 4 := by simp at h1; omega
      have g0 : 0 < s.length := by omega
      have he : ((lenR o s).2 == 8) = false ∧ ((lenR o s).2 == 3) = false := by
        rw [lenR, if_pos ho, if_neg h1']
        split
        · exact ⟨rfl, rfl⟩
        · split
          · exact ⟨rfl, rfl⟩
          · exact ⟨rfl, rfl⟩
      have g1 : 1 < s.length := by omega
      have g4 : 4 ≤ s.length := by omega
      have hq := request_fs ((s.getD 0 0).toNat : Int)
      cases hf : formOf ((s.getD 0 0).toNat : Int) with
      | none =>
        rw [formR, hf] at hq
        simp only [form0] at hq
        rw [getP_none ho h1' hf]
        generalize lenR o s = L at *
        obtain ⟨n, e⟩ := L
        simp only at hp he
        obtain ⟨he1, he2⟩ := he
        (refine Fsp.of (nx := 0) mixed Tryd.func19 rfl (by decide) (by first | exact Nat.le_refl _ | simp) (by simp [Tryd.f19]) ⟨by decide, by decide⟩ ?_; simp -implicitDefEqProofs only [push_cast, Tryd.f19, Int.reduceBEq, Int.reduceBNe, Int.reduceEq, Int.reduceNe, Int.reducePow, Nat.reduceAdd, Nat.reduceMul, Nat.reduceSub, Nat.reduceLT, Nat.reduceLeDiff, Nat.reduceEqDiff, Nat.reduceBEq, Int.reduceLT, Int.reduceLE, Int.reduceAdd, Int.reduceSub, Int.reduceMul, Int.reduceToNat, Int.reduceNeg, reduceIte, reduceCtorEq, reduceBEq])
        refine callE_pure hp (by rfl) (by rfl) (by rfl) (by decide) (by rfl) (fun _ => by rfl) (by first | rfl | simp [gdOk, newToks]) ?_
        simp -implicitDefEqProofs only [push_cast, he1, he2, wb, Int.reduceBEq, Int.reduceBNe, Int.reduceEq, Int.reduceNe, Int.reducePow, Nat.reduceAdd, Nat.reduceMul, Nat.reduceSub, Nat.reduceLT, Nat.reduceLeDiff, Nat.reduceEqDiff, Nat.reduceBEq, Int.reduceLT, Int.reduceLE, Int.reduceAdd, Int.reduceSub, Int.reduceMul, Int.reduceToNat, Int.reduceNeg, reduceIte, reduceCtorEq, reduceBEq]
        (repeat (first | refine ⟨by omega, ?_⟩ | refine ⟨by (unfold drawOk; kernel_rfl), ?_⟩))
        refine callE_pure hq (by rfl) (by rfl) (by rfl) (by decide) (by rfl) (fun _ => by rfl) (by first | rfl | simp [gdOk, newToks]) ?_
        simp -implicitDefEqProofs only [push_cast, Int.reduceBEq, Int.reduceBNe, Int.reduceEq, Int.reduceNe, Int.reducePow, Nat.reduceAdd, Nat.reduceMul, Nat.reduceSub, Nat.reduceLT, Nat.reduceLeDiff, Nat.reduceEqDiff, Nat.reduceBEq, Int.reduceLT, Int.reduceLE, Int.reduceAdd, Int.reduceSub, Int.reduceMul, Int.reduceToNat, Int.reduceNeg, reduceIte, reduceCtorEq, reduceBEq]
        exact ⟨_, rfl, by simp [wkL, res2, res1, PV.weak, PV.el, rq0, Rq.pv, ints]⟩
      | some f =>
        rw [formR, hf] at hq
        simp only [formT, Fm.pv] at hq
        obtain ⟨hok, -, -⟩ := formOf_some hf
        have hg := formGet_fs hor f hok (s.drop 4) (by simp; omega)
        simp only [getR, Fm.pv] at hg
        have htk : List.take (s.length - 4) (List.drop 4 s) = List.drop 4 s := List.take_of_length_le (by simp)
        rw [getP_some ho h1' hf, getQ]
        generalize getF o f (s.drop 4) = x at *
        obtain ⟨x, xe⟩ := x
        simp only [Fd.pv] at hg
        generalize lenR o s = L at *
        obtain ⟨n, e⟩ := L
        simp only at hp he
        obtain ⟨he1, he2⟩ := he
        simp only
        (refine Fsp.of (nx := 0) mixed Tryd.func19 rfl (by decide) (by first | exact Nat.le_refl _ | simp) (by simp [Tryd.f19]) ⟨by decide, by decide⟩ ?_; simp -implicitDefEqProofs only [push_cast, Tryd.f19, Int.reduceBEq, Int.reduceBNe, Int.reduceEq, Int.reduceNe, Int.reducePow, Nat.reduceAdd, Nat.reduceMul, Nat.reduceSub, Nat.reduceLT, Nat.reduceLeDiff, Nat.reduceEqDiff, Nat.reduceBEq, Int.reduceLT, Int.reduceLE, Int.reduceAdd, Int.reduceSub, Int.reduceMul, Int.reduceToNat, Int.reduceNeg, reduceIte, reduceCtorEq, reduceBEq])
        refine callE_pure hp (by rfl) (by rfl) (by rfl) (by decide) (by rfl) (fun _ => by rfl) (by first | rfl | simp [gdOk, newToks]) ?_
        simp -implicitDefEqProofs only [push_cast, he1, he2, wb, Int.reduceBEq, Int.reduceBNe, Int.reduceEq, Int.reduceNe, Int.reducePow, Nat.reduceAdd, Nat.reduceMul, Nat.reduceSub, Nat.reduceLT, Nat.reduceLeDiff, Nat.reduceEqDiff, Nat.reduceBEq, Int.reduceLT, Int.reduceLE, Int.reduceAdd, Int.reduceSub, Int.reduceMul, Int.reduceToNat, Int.reduceNeg, reduceIte, reduceCtorEq, reduceBEq]
        (repeat (first | refine ⟨by omega, ?_⟩ | refine ⟨by (unfold drawOk; kernel_rfl), ?_⟩))
        refine callE_pure hq (by rfl) (by rfl) (by rfl) (by decide) (by rfl) (fun _ => by rfl) (by first | rfl | simp [gdOk, newToks]) ?_
        simp -implicitDefEqProofs only [push_cast, Int.reduceBEq, Int.reduceBNe, Int.reduceEq, Int.reduceNe, Int.reducePow, Nat.reduceAdd, Nat.reduceMul, Nat.reduceSub, Nat.reduceLT, Nat.reduceLeDiff, Nat.reduceEqDiff, Nat.reduceBEq, Int.reduceLT, Int.reduceLE, Int.reduceAdd, Int.reduceSub, Int.reduceMul, Int.reduceToNat, Int.reduceNeg, reduceIte, reduceCtorEq, reduceBEq]
        cases h2 : (e != 0)
        · have h2' : e = 0 := by simpa using h2
          rw [if_pos h2']
          cases h3 : (n != (s.length : Int))
          · have h3' : (s.length : Int) = n := by simpa using (show n = (s.length : Int) by simpa using h3).symm
            rw [if_pos h3']
            cases h4 : (((s.getD 1 0).toNat : Int) != 0)
            · have h4' : s.getD 1 0 = 0 := by
                simp at h4
                exact UInt8.toNat_inj.1 (by rw [List.getD_eq_getElem?_getD]; simpa using h4)
              rw [if_pos h4']
              cases h5 : (xe != 0)
              · have h5' : xe = 0 := by simpa using h5
                rw [if_pos h5']
                simp -implicitDefEqProofs only [push_cast, h2, h3, h4, htk, Int.reduceBEq, Int.reduceBNe, Int.reduceEq, Int.reduceNe, Int.reducePow, Nat.reduceAdd, Nat.reduceMul, Nat.reduceSub, Nat.reduceLT, Nat.reduceLeDiff, Nat.reduceEqDiff, Nat.reduceBEq, Int.reduceLT, Int.reduceLE, Int.reduceAdd, Int.reduceSub, Int.reduceMul, Int.reduceToNat, Int.reduceNeg, reduceIte, reduceCtorEq, reduceBEq]
                (repeat (first | refine ⟨by omega, ?_⟩ | refine ⟨by (unfold drawOk; kernel_rfl), ?_⟩))
                refine callE_pure hg (by rfl) (by rfl) (by rfl) (by decide) (by rfl) (fun _ => by rfl) (by first | rfl | simp [gdOk, newToks]) ?_
                simp -implicitDefEqProofs only [push_cast, h5, wb, Int.reduceBEq, Int.reduceBNe, Int.reduceEq, Int.reduceNe, Int.reducePow, Nat.reduceAdd, Nat.reduceMul, Nat.reduceSub, Nat.reduceLT, Nat.reduceLeDiff, Nat.reduceEqDiff, Nat.reduceBEq, Int.reduceLT, Int.reduceLE, Int.reduceAdd, Int.reduceSub, Int.reduceMul, Int.reduceToNat, Int.reduceNeg, reduceIte, reduceCtorEq, reduceBEq]
                (repeat (first | refine ⟨by omega, ?_⟩ | refine ⟨by (unfold drawOk; kernel_rfl), ?_⟩))
                exact ⟨_, rfl, by simp [wkL, res2, res1, PV.weak, PV.el, rq0, Rq.pv, ints]⟩
              · have h5' : ¬ xe = 0 := by simpa using h5
                rw [if_neg h5']
                simp -implicitDefEqProofs only [push_cast, h2, h3, h4, htk, Int.reduceBEq, Int.reduceBNe, Int.reduceEq, Int.reduceNe, Int.reducePow, Nat.reduceAdd, Nat.reduceMul, Nat.reduceSub, Nat.reduceLT, Nat.reduceLeDiff, Nat.reduceEqDiff, Nat.reduceBEq, Int.reduceLT, Int.reduceLE, Int.reduceAdd, Int.reduceSub, Int.reduceMul, Int.reduceToNat, Int.reduceNeg, reduceIte, reduceCtorEq, reduceBEq]
                (repeat (first | refine ⟨by omega, ?_⟩ | refine ⟨by (unfold drawOk; kernel_rfl), ?_⟩))
                refine callE_pure hg (by rfl) (by rfl) (by rfl) (by decide) (by rfl) (fun _ => by rfl) (by first | rfl | simp [gdOk, newToks]) ?_
                simp -implicitDefEqProofs only [push_cast, h5, Int.reduceBEq, Int.reduceBNe, Int.reduceEq, Int.reduceNe, Int.reducePow, Nat.reduceAdd, Nat.reduceMul, Nat.reduceSub, Nat.reduceLT, Nat.reduceLeDiff, Nat.reduceEqDiff, Nat.reduceBEq, Int.reduceLT, Int.reduceLE, Int.reduceAdd, Int.reduceSub, Int.reduceMul, Int.reduceToNat, Int.reduceNeg, reduceIte, reduceCtorEq, reduceBEq]
                (repeat (first | refine ⟨by omega, ?_⟩ | refine ⟨by (unfold drawOk; kernel_rfl), ?_⟩))
                exact ⟨_, rfl, by simp [wkL, res2, res1, PV.weak, PV.el, rq0, Rq.pv, ints]⟩
            · have h4' : ¬ s.getD 1 0 = 0 := by
                intro h
                rw [h] at h4; exact absurd h4 (by decide)
              rw [if_neg h4']
              simp -implicitDefEqProofs only [push_cast, h2, h3, h4, Int.reduceBEq, Int.reduceBNe, Int.reduceEq, Int.reduceNe, Int.reducePow, Nat.reduceAdd, Nat.reduceMul, Nat.reduceSub, Nat.reduceLT, Nat.reduceLeDiff, Nat.reduceEqDiff, Nat.reduceBEq, Int.reduceLT, Int.reduceLE, Int.reduceAdd, Int.reduceSub, Int.reduceMul, Int.reduceToNat, Int.reduceNeg, reduceIte, reduceCtorEq, reduceBEq]
              (repeat (first | refine ⟨by omega, ?_⟩ | refine ⟨by (unfold drawOk; kernel_rfl), ?_⟩))
              exact ⟨_, rfl, by simp [wkL, res2, res1, PV.weak, PV.el, rq0, Rq.pv, ints]⟩
          · have h3' : ¬ (s.length : Int) = n := fun h => by rw [h] at h3; simp at h3
            rw [if_neg h3']
            simp -implicitDefEqProofs only [push_cast, h2, h3, Int.reduceBEq, Int.reduceBNe, Int.reduceEq, Int.reduceNe, Int.reducePow, Nat.reduceAdd, Nat.reduceMul, Nat.reduceSub, Nat.reduceLT, Nat.reduceLeDiff, Nat.reduceEqDiff, Nat.reduceBEq, Int.reduceLT, Int.reduceLE, Int.reduceAdd, Int.reduceSub, Int.reduceMul, Int.reduceToNat, Int.reduceNeg, reduceIte, reduceCtorEq, reduceBEq]
            exact ⟨_, rfl, by simp [wkL, res2, res1, PV.weak, PV.el, rq0, Rq.pv, ints]⟩
        · have h2' : ¬ e = 0 := by simpa using h2
          rw [if_neg h2']
          simp -implicitDefEqProofs only [push_cast, h2, Int.reduceBEq, Int.reduceBNe, Int.reduceEq, Int.reduceNe, Int.reducePow, Nat.reduceAdd, Nat.reduceMul, Nat.reduceSub, Nat.reduceLT, Nat.reduceLeDiff, Nat.reduceEqDiff, Nat.reduceBEq, Int.reduceLT, Int.reduceLE, Int.reduceAdd, Int.reduceSub, Int.reduceMul, Int.reduceToNat, Int.reduceNeg, reduceIte, reduceCtorEq, reduceBEq]
          (repeat (first | refine ⟨by omega, ?_⟩ | refine ⟨by (unfold drawOk; kernel_rfl), ?_⟩))
          exact ⟨_, rfl, by simp [wkL, res2, res1, PV.weak, PV.el, rq0, Rq.pv, ints]⟩
    · have h1' : s.length < 4 := by simp at h1; omega
      rw [show getP o s = (rq0, 3) by rw [getP, if_pos ho, if_pos h1']]
      rw [show lenR o s = (0, 3) by rw [lenR, if_pos ho, if_pos h1']] at hp
      (refine Fsp.of (nx := 0) mixed Tryd.func19 rfl (by decide) (by first | exact Nat.le_refl _ | simp) (by simp [Tryd.f19]) ⟨by decide, by decide⟩ ?_; simp -implicitDefEqProofs only [push_cast, Tryd.f19, Int.reduceBEq, Int.reduceBNe, Int.reduceEq, Int.reduceNe, Int.reducePow, Nat.reduceAdd, Nat.reduceMul, Nat.reduceSub, Nat.reduceLT, Nat.reduceLeDiff, Nat.reduceEqDiff, Nat.reduceBEq, Int.reduceLT, Int.reduceLE, Int.reduceAdd, Int.reduceSub, Int.reduceMul, Int.reduceToNat, Int.reduceNeg, reduceIte, reduceCtorEq, reduceBEq])
      refine callE_pure hp (by rfl) (by rfl) (by rfl) (by decide) (by rfl) (fun _ => by rfl) (by first | rfl | simp [gdOk, newToks]) ?_
      simp -implicitDefEqProofs only [push_cast, Int.reduceBEq, Int.reduceBNe, Int.reduceEq, Int.reduceNe, Int.reducePow, Nat.reduceAdd, Nat.reduceMul, Nat.reduceSub, Nat.reduceLT, Nat.reduceLeDiff, Nat.reduceEqDiff, Nat.reduceBEq, Int.reduceLT, Int.reduceLE, Int.reduceAdd, Int.reduceSub, Int.reduceMul, Int.reduceToNat, Int.reduceNeg, reduceIte, reduceCtorEq, reduceBEq]
      (repeat (first | refine ⟨by omega, ?_⟩ | refine ⟨by (unfold drawOk; kernel_rfl), ?_⟩))
      exact ⟨_, rfl, by simp [wkL, res2, res1, PV.weak, PV.el, rq0, Rq.pv, ints]⟩

theorem stB_len (o : Int) (s : List UInt8) (b : Bool) (c : Cu) : (stB o s b c).2.1.length ≤ s.length := by
  unfold stB
  split
  · split
    · split
      · simp
      · simp only [List.length_take, List.length_drop]; omega
    · simp
  · simp
theorem stL_len {o : Int} (ho : isOrder o) {s : List UInt8} (hs : s.length ≤ 1000000) {z : Int} (hz : z = 0 ∨ isSize z) (c : Cu) : (stL o s z c).1.length ≤ 1000000 := by
  unfold stL
  split
  · simp
  · rename_i h0
    have hw := wid_pos (hz.resolve_left h0)
    split
    · split
      · simp
      · rename_i h2
        have hn := num4 (o := o) (s := s) ho c
        generalize num o s 4 c = q at *
        obtain ⟨q1, q2⟩ := q
        simp only at hn h2
        obtain ⟨n, rfl⟩ := Int.eq_ofNat_of_zero_le hn.1
        simp only [nums_length, List.length_replicate, Int.toNat_natCast]
        have h3 : (n : Int) * (wid z : Int) = ((n * wid z : Nat) : Int) := by rw [Int.natCast_mul]
        rw [h3] at h2
        have h4 : n * 1 ≤ n * wid z := Nat.mul_le_mul_left _ hw.1
        omega
    · simp
theorem getF_few {o : Int} (ho : isOrder o) {f : Fm} (h : f.Ok) {s : List UInt8} (hs : s.length ≤ 1000000) : (getF o f s).1.N.length ≤ 1000000 ∧ (getF o f s).1.B.length ≤ 1000000 ∧ (getF o f s).1.L.length ≤ 1000000 := by
  have hb : (body o s f ⟨0, 0⟩).1.N.length ≤ 1000000 ∧ (body o s f ⟨0, 0⟩).1.B.length ≤ 1000000 ∧ (body o s f ⟨0, 0⟩).1.L.length ≤ 1000000 := by
    have hn := h.n
    unfold body
    split
    · refine ⟨?_, ?_, ?_⟩
      · simp only [nums_length]; omega
      · exact Nat.le_trans (stB_len o s _ _) hs
      · exact stL_len ho hs h.l _
    · refine ⟨?_, ?_, ?_⟩
      · simp only [nums_length]; omega
      · simp
      · simp
  unfold getF
  split
  · simp [fd0]
  · split
    · exact hb
    · simp [fd0]
theorem getP_few {o : Int} {s : List UInt8} (hs : s.length ≤ 1000000) : (getP o s).1.Few := by
  have h0 : rq0.Few := ⟨by simp [rq0], by simp [rq0], by simp [rq0]⟩
  unfold getP
  split
  · rename_i ho
    split
    · exact h0
    · split
      · exact h0
      · rename_i f hf
        obtain ⟨hok, -, -⟩ := formOf_some hf
        have hb := getF_few (isOrd_of ho) hok (s := s.drop 4) (by simp; omega)
        unfold getQ
        split
        · split
          · split
            · split
              · exact ⟨hb.1, hb.2.1, hb.2.2⟩
              · exact h0
            · exact h0
          · exact h0
        · exact h0
  · exact h0
set_option maxHeartbeats 4000000 in
theorem packGets_fs (o : Int) (s : List UInt8) : Fsp Tryd.prog 7 [] 0 [.int .i64 o, .str s] [] 0 (.bool true) := by
  cases h1 : decide ((900 : Int) < (s.length : Int))
  · have h1' : s.length ≤ 1000000 := by simp at h1; omega
    have hg := packGet_fs o s h1'
    have hl := lawGet_fs o s h1'
    have hp := packLen_fs o s
    have hr := refLen_fs o s
    have hfew := getP_few (o := o) h1'
    have hsame := packSame_fs (getP o s).1 (getP o s).1 hfew hfew
    rw [sameR_refl] at hsame
    simp only [getPR] at hg hl
    generalize getP o s = G at *
    obtain ⟨⟨c, N, B, L⟩, e⟩ := G
    generalize lenR o s = M at *
    obtain ⟨n, b⟩ := M
    simp only [Rq.pv] at hg hl hsame hp hr
    have hnn : (n != n) = false := by simp
    have hbb : (b != b) = false := by simp
    (refine Fsp.of (nx := 0) mixed Tryd.func7 rfl (by decide) (by first | exact Nat.le_refl _ | simp) (by simp [Tryd.f7]) ⟨by decide, by decide⟩ ?_; simp -implicitDefEqProofs only [push_cast, Tryd.f7, h1, Int.reduceBEq, Int.reduceBNe, Int.reduceEq, Int.reduceNe, Int.reducePow, Nat.reduceAdd, Nat.reduceMul, Nat.reduceSub, Nat.reduceLT, Nat.reduceLeDiff, Nat.reduceEqDiff, Nat.reduceBEq, Int.reduceLT, Int.reduceLE, Int.reduceAdd, Int.reduceSub, Int.reduceMul, Int.reduceToNat, Int.reduceNeg, reduceIte, reduceCtorEq, reduceBEq])
    refine callE_pure hg (by rfl) (by rfl) (by rfl) (by decide) (by rfl) (fun _ => by rfl) (by first | rfl | simp [gdOk, newToks]) ?_
    simp -implicitDefEqProofs only [push_cast, Int.reduceBEq, Int.reduceBNe, Int.reduceEq, Int.reduceNe, Int.reducePow, Nat.reduceAdd, Nat.reduceMul, Nat.reduceSub, Nat.reduceLT, Nat.reduceLeDiff, Nat.reduceEqDiff, Nat.reduceBEq, Int.reduceLT, Int.reduceLE, Int.reduceAdd, Int.reduceSub, Int.reduceMul, Int.reduceToNat, Int.reduceNeg, reduceIte, reduceCtorEq, reduceBEq]
    refine callE_pure hp (by rfl) (by rfl) (by rfl) (by decide) (by rfl) (fun _ => by rfl) (by first | rfl | simp [gdOk, newToks]) ?_
    simp -implicitDefEqProofs only [push_cast, Int.reduceBEq, Int.reduceBNe, Int.reduceEq, Int.reduceNe, Int.reducePow, Nat.reduceAdd, Nat.reduceMul, Nat.reduceSub, Nat.reduceLT, Nat.reduceLeDiff, Nat.reduceEqDiff, Nat.reduceBEq, Int.reduceLT, Int.reduceLE, Int.reduceAdd, Int.reduceSub, Int.reduceMul, Int.reduceToNat, Int.reduceNeg, reduceIte, reduceCtorEq, reduceBEq]
    refine callE_pure hr (by rfl) (by rfl) (by rfl) (by decide) (by rfl) (fun _ => by rfl) (by first | rfl | simp [gdOk, newToks]) ?_
    simp -implicitDefEqProofs only [push_cast, hnn, hbb, Int.reduceBEq, Int.reduceBNe, Int.reduceEq, Int.reduceNe, Int.reducePow, Nat.reduceAdd, Nat.reduceMul, Nat.reduceSub, Nat.reduceLT, Nat.reduceLeDiff, Nat.reduceEqDiff, Nat.reduceBEq, Int.reduceLT, Int.reduceLE, Int.reduceAdd, Int.reduceSub, Int.reduceMul, Int.reduceToNat, Int.reduceNeg, reduceIte, reduceCtorEq, reduceBEq]
    refine callE_pure hl (by rfl) (by rfl) (by rfl) (by decide) (by rfl) (fun _ => by rfl) (by first | rfl | simp [gdOk, newToks]) ?_
    simp -implicitDefEqProofs only [push_cast, Int.reduceBEq, Int.reduceBNe, Int.reduceEq, Int.reduceNe, Int.reducePow, Nat.reduceAdd, Nat.reduceMul, Nat.reduceSub, Nat.reduceLT, Nat.reduceLeDiff, Nat.reduceEqDiff, Nat.reduceBEq, Int.reduceLT, Int.reduceLE, Int.reduceAdd, Int.reduceSub, Int.reduceMul, Int.reduceToNat, Int.reduceNeg, reduceIte, reduceCtorEq, reduceBEq]
    refine callE_pure hsame (by rfl) (by rfl) (by rfl) (by decide) (by rfl) (fun _ => by rfl) (by first | rfl | simp [gdOk, newToks]) ?_
    simp -implicitDefEqProofs only [push_cast, Int.reduceBEq, Int.reduceBNe, Int.reduceEq, Int.reduceNe, Int.reducePow, Nat.reduceAdd, Nat.reduceMul, Nat.reduceSub, Nat.reduceLT, Nat.reduceLeDiff, Nat.reduceEqDiff, Nat.reduceBEq, Int.reduceLT, Int.reduceLE, Int.reduceAdd, Int.reduceSub, Int.reduceMul, Int.reduceToNat, Int.reduceNeg, reduceIte, reduceCtorEq, reduceBEq]
    refine callE_pure awake_fs (by rfl) (by rfl) (by rfl) (by decide) (by rfl) (fun _ => by rfl) (by first | rfl | simp [gdOk, newToks]) ?_
    simp -implicitDefEqProofs only [push_cast, Int.reduceBEq, Int.reduceBNe, Int.reduceEq, Int.reduceNe, Int.reducePow, Nat.reduceAdd, Nat.reduceMul, Nat.reduceSub, Nat.reduceLT, Nat.reduceLeDiff, Nat.reduceEqDiff, Nat.reduceBEq, Int.reduceLT, Int.reduceLE, Int.reduceAdd, Int.reduceSub, Int.reduceMul, Int.reduceToNat, Int.reduceNeg, reduceIte, reduceCtorEq, reduceBEq]
  · (refine Fsp.of (nx := 0) mixed Tryd.func7 rfl (by decide) (by first | exact Nat.le_refl _ | simp) (by simp [Tryd.f7]) ⟨by decide, by decide⟩ ?_; simp -implicitDefEqProofs only [push_cast, Tryd.f7, h1, Int.reduceBEq, Int.reduceBNe, Int.reduceEq, Int.reduceNe, Int.reducePow, Nat.reduceAdd, Nat.reduceMul, Nat.reduceSub, Nat.reduceLT, Nat.reduceLeDiff, Nat.reduceEqDiff, Nat.reduceBEq, Int.reduceLT, Int.reduceLE, Int.reduceAdd, Int.reduceSub, Int.reduceMul, Int.reduceToNat, Int.reduceNeg, reduceIte, reduceCtorEq, reduceBEq])
    refine callE_pure awake_fs (by rfl) (by rfl) (by rfl) (by decide) (by rfl) (fun _ => by rfl) (by first | rfl | simp [gdOk, newToks]) ?_
    simp -implicitDefEqProofs only [push_cast, Int.reduceBEq, Int.reduceBNe, Int.reduceEq, Int.reduceNe, Int.reducePow, Nat.reduceAdd, Nat.reduceMul, Nat.reduceSub, Nat.reduceLT, Nat.reduceLeDiff, Nat.reduceEqDiff, Nat.reduceBEq, Int.reduceLT, Int.reduceLE, Int.reduceAdd, Int.reduceSub, Int.reduceMul, Int.reduceToNat, Int.reduceNeg, reduceIte, reduceCtorEq, reduceBEq]

end Go.Proofs.Sh

/- Requests' bytes: the head. Plain. -/
set_option maxRecDepth 100000
namespace Go.Proofs.Sh
open Go.Pv
theorem fmt_mod (o : Int) (f : Fm) (x : Fd) : (fmt o f x).length % 4 = 0 := by
  have hp : ∀ l : List UInt8, (p1 l).length % 4 = 0 := fun l => by
    simp only [p1, zeros, List.length_append, List.length_replicate, padN]; omega
  unfold fmt
  split
  · exact hp _
  · unfold fmt2
    split
    · exact hp _
    · exact hp _
theorem byteAt_of {n k : Nat} : (byteAt (n : Int) k).toNat = n / 256 ^ k % 256 := by
  have := byteAt_toNat (n : Int) k
  have h : ((256 : Int) ^ k) = ((256 ^ k : Nat) : Int) := by rw [Int.natCast_pow]; rfl
  rw [h, ← Int.natCast_ediv] at this
  omega
theorem enc2_0 (n : Int) : encB 0 2 n = [byteAt n 0, byteAt n 1] := rfl
theorem enc2_1 (n : Int) : encB 1 2 n = [byteAt n 1, byteAt n 0] := rfl
/-- A request's bytes, if they are. -/
theorem packS_shape {o : Int} {r : Rq} (h : (packS o r).2 = 0) : ∃ (f : Fm) (c x y : UInt8) (X : List UInt8), isOrd o = true ∧ formOf r.C = some f ∧ (packS o r).1 = c :: 0 :: x :: y :: X ∧ (c.toNat : Int) = r.C ∧
    4 * decU o [x, y] = X.length + 4 ∧ X.length + 4 ≤ 65536 ∧ X = fmt o f r.fd ∧ fitsE f r.fd = 0 := by
  cases ho : isOrd o
  · rw [packS, if_neg (by rw [ho]; simp)] at h; cases h
  · cases hf : formOf r.C with
    | none => rw [packS, if_pos ho, hf] at h; cases h
    | some f =>
      cases hE : (fitsE f r.fd != 0)
      · rcases Nat.lt_or_ge 65536 ((fmt o f r.fd).length + 4) with h1 | h1
        · rw [packS_big ho hf hE (by omega)] at h; cases h
        · obtain ⟨-, hc1, hc2⟩ := formOf_some hf
          rw [packS_ok ho hf hE h1]
          have hm := fmt_mod o f r.fd
          generalize hX : fmt o f r.fd = X at *
          obtain ⟨C, hC⟩ := Int.eq_ofNat_of_zero_le (show 0 ≤ r.C by omega)
          have hc : ((byteAt r.C 0).toNat : Int) = r.C := by
            rw [hC, byteAt_of]; omega
          have hz : byteAt 0 0 = 0 := by decide
          have hd2 : ∀ n : Nat, n < 65536 → (byteAt (n : Int) 0).toNat + 256 * (byteAt (n : Int) 1).toNat = n := fun n hn => by
            rw [byteAt_of, byteAt_of]; omega
          have hdd := hd2 (X.length / 4 + 1) (by omega)
          rcases isOrd_of ho with rfl | rfl
          · refine ⟨f, byteAt r.C 0, byteAt ((X.length / 4 + 1 : Nat) : Int) 0, byteAt ((X.length / 4 + 1 : Nat) : Int) 1, X, rfl, rfl, ?_, hc, ?_, h1, hX.symm, by simpa using hE⟩
            · rw [hd, enc1, enc1, enc2_0, hz]; rfl
            · simp [decU, little] at hdd ⊢; omega
          · refine ⟨f, byteAt r.C 0, byteAt ((X.length / 4 + 1 : Nat) : Int) 1, byteAt ((X.length / 4 + 1 : Nat) : Int) 0, X, rfl, rfl, ?_, hc, ?_, h1, hX.symm, by simpa using hE⟩
            · rw [hd, enc1, enc1, enc2_1, hz]; rfl
            · simp [decU, little] at hdd ⊢; omega
      · rw [packS_err ho hf hE] at h
        simp at hE
        exact absurd h hE
theorem packS_none {o : Int} {r : Rq} (h : ¬ (packS o r).2 = 0) : (packS o r).1 = [] := by
  cases ho : isOrd o
  · rw [packS, if_neg (by rw [ho]; simp)]
  · cases hf : formOf r.C with
    | none => rw [packS, if_pos ho, hf]
    | some f =>
      cases hE : (fitsE f r.fd != 0)
      · rcases Nat.lt_or_ge 65536 ((fmt o f r.fd).length + 4) with h1 | h1
        · rw [packS_big ho hf hE (by omega)]
        · rw [packS_ok ho hf hE h1] at h; exact absurd rfl h
      · rw [packS_err ho hf hE]
/-- What is told of bytes that have a request's head. -/
theorem lenR_head {o : Int} (ho : isOrd o = true) {t : List UInt8} {x y : UInt8} {m : Nat} (h4 : 4 ≤ t.length) (h2 : t.getD 2 0 = x) (h3 : t.getD 3 0 = y) (hm : 4 * decU o [x, y] = m) (h0 : 0 < m) (h1 : m ≤ 65536) : lenR o t = ((m : Int), 0) := by
  have hn : lenN o t = decU o [x, y] := by rw [lenN, two_of h4, h2, h3]
  rw [lenR, if_pos ho, if_neg (by omega), if_neg (by omega), if_neg (by omega), hn, hm]
theorem getP_head {o : Int} (ho : isOrd o = true) {t : List UInt8} {c : UInt8} {f : Fm} (h4 : 4 ≤ t.length) (hc : t.getD 0 0 = c) (hf : formOf (c.toNat : Int) = some f) : getP o t = getQ o t f :=
  getP_some ho (by omega) (by rw [hc]; exact hf)
/-- Cut short: none. -/
theorem cut_none {o : Int} (ho : isOrd o = true) {c x y : UInt8} {X : List UInt8} {f : Fm} (hf : formOf (c.toNat : Int) = some f) (hm : 4 * decU o [x, y] = X.length + 4) (h1 : X.length + 4 ≤ 65536) {k : Nat} (hk : k < X.length + 4) :
    ¬ (getP o ((c :: 0 :: x :: y :: X).take k)).2 = 0 := by
  rcases Nat.lt_or_ge k 4 with h4 | h4
  · rw [getP, if_pos ho, if_pos (by simp; omega)]; simp
  · obtain ⟨k, rfl⟩ := Nat.exists_eq_add_of_le' h4
    have ht : (c :: 0 :: x :: y :: X).take (k + 4) = c :: 0 :: x :: y :: X.take k := rfl
    rw [ht, getP_head (t := c :: 0 :: x :: y :: X.take k) (c := c) ho (by simp) rfl hf, getQ, lenR_head (t := c :: 0 :: x :: y :: X.take k) (x := x) (y := y) ho (m := X.length + 4) (by simp) rfl rfl hm (by omega) h1, if_pos rfl, if_neg (by simp; omega)]
    simp
/-- One more: none. -/
theorem more_none {o : Int} (ho : isOrd o = true) {c x y z : UInt8} {X : List UInt8} {f : Fm} (hf : formOf (c.toNat : Int) = some f) (hm : 4 * decU o [x, y] = X.length + 4) (h1 : X.length + 4 ≤ 65536) :
    (getP o (c :: 0 :: x :: y :: (X ++ [z]))).2 = 17 := by
  rw [getP_head (t := c :: 0 :: x :: y :: (X ++ [z])) (c := c) ho (by simp) rfl hf, getQ, lenR_head (t := c :: 0 :: x :: y :: (X ++ [z])) (x := x) (y := y) ho (m := X.length + 4) (by simp) rfl rfl hm (by omega) h1, if_pos rfl, if_neg (by simp; omega)]
/-- Another second byte: none. -/
theorem form_none {o : Int} (ho : isOrd o = true) {c x y z : UInt8} {X : List UInt8} {f : Fm} (hf : formOf (c.toNat : Int) = some f) (hm : 4 * decU o [x, y] = X.length + 4) (h1 : X.length + 4 ≤ 65536) (hz : z ≠ 0) :
    (getP o (c :: z :: x :: y :: X)).2 = 2 := by
  rw [getP_head (t := c :: z :: x :: y :: X) (c := c) ho (by simp) rfl hf, getQ, lenR_head (t := c :: z :: x :: y :: X) (x := x) (y := y) ho (m := X.length + 4) (by simp) rfl rfl hm (by omega) h1, if_pos rfl, if_pos (by simp; omega), if_neg (by simpa using hz)]
end Go.Proofs.Sh

/- Numbers as bytes, and back. Plain. -/
set_option maxRecDepth 100000
namespace Go.Proofs.Sh
open Go.Pv
theorem byteAt_nat (v : Int) (k : Nat) : ((byteAt v k).toNat : Int) = (v / 256 ^ k) % 256 := byteAt_toNat v k
theorem dec_enc {o : Int} (ho : isOrder o) {s : Int} (hs : isSize s) (v : Int) : (decU o (encB o (wid s) v) : Int) = v % 256 ^ wid s := by
  have h0 := byteAt_nat v 0
  have h1 := byteAt_nat v 1
  have h2 := byteAt_nat v 2
  have h3 := byteAt_nat v 3
  simp only [Int.reducePow] at h0 h1 h2 h3
  rcases ho with rfl | rfl <;> rcases hs with rfl | rfl | rfl | rfl | rfl | rfl <;>
    simp [encB, decU, little, wid, List.range_succ] <;> omega
theorem read_enc {o : Int} (ho : isOrder o) {s : Int} (hs : isSize s) {v : Int} (hf : fitsN s v = true) : readV o s (encB o (wid s) v) = v := by
  have h := dec_enc ho hs v
  unfold readV
  rcases hs with rfl | rfl | rfl | rfl | rfl | rfl <;> simp [fitsN, low, high, wid] at hf h ⊢ <;> split <;> omega
theorem fits_read {o : Int} {s : Int} (hs : isSize s) {b : List UInt8} (hb : b.length = wid s) : fitsN s (readV o s b) = true := by
  have h := decU_lt o b
  rw [hb] at h
  unfold readV
  rcases hs with rfl | rfl | rfl | rfl | rfl | rfl <;> simp [fitsN, low, high, wid] at h ⊢ <;> split <;> omega
theorem byteAt_eq {v : Int} {k : Nat} {x : UInt8} (h : (v / 256 ^ k) % 256 = (x.toNat : Int)) : byteAt v k = x := by
  apply UInt8.toNat_inj.1
  have := byteAt_nat v k
  omega
theorem enc_read {o : Int} (ho : isOrder o) {s : Int} (hs : isSize s) {b : List UInt8} (hb : b.length = wid s) : encB o (wid s) (readV o s b) = b := by
  have key : ∀ (k : Nat) (x : UInt8), k < 4 → ((decU o b : Int) / 256 ^ k) % 256 = (x.toNat : Int) → k < wid s → byteAt (readV o s b) k = x := by
    intro k x hk h hw
    apply byteAt_eq
    rw [← h]
    unfold readV
    split
    · have : k = 0 ∨ k = 1 ∨ k = 2 ∨ k = 3 := by omega
      rcases hs with rfl | rfl | rfl | rfl | rfl | rfl <;> rcases this with rfl | rfl | rfl | rfl <;> simp [wid] at hw ⊢ <;> omega
    · rfl
  rcases ho with rfl | rfl <;> rcases hs with rfl | rfl | rfl | rfl | rfl | rfl
  · match b, hb with
    | [b0], _ =>
      have h_b0 := b0.toNat_lt
      have e_b0 := key 0 b0 (by decide) (by simp [decU, little]; omega) (by decide)
      show [byteAt _ 0] = _
      rw [e_b0]
  · match b, hb with
    | [b0, b1], _ =>
      have h_b0 := b0.toNat_lt
      have h_b1 := b1.toNat_lt
      have e_b0 := key 0 b0 (by decide) (by simp [decU, little]; omega) (by decide)
      have e_b1 := key 1 b1 (by decide) (by simp [decU, little]; omega) (by decide)
      show [byteAt _ 0, byteAt _ 1] = _
      rw [e_b0, e_b1]
  · match b, hb with
    | [b0, b1, b2, b3], _ =>
      have h_b0 := b0.toNat_lt
      have h_b1 := b1.toNat_lt
      have h_b2 := b2.toNat_lt
      have h_b3 := b3.toNat_lt
      have e_b0 := key 0 b0 (by decide) (by simp [decU, little]; omega) (by decide)
      have e_b1 := key 1 b1 (by decide) (by simp [decU, little]; omega) (by decide)
      have e_b2 := key 2 b2 (by decide) (by simp [decU, little]; omega) (by decide)
      have e_b3 := key 3 b3 (by decide) (by simp [decU, little]; omega) (by decide)
      show [byteAt _ 0, byteAt _ 1, byteAt _ 2, byteAt _ 3] = _
      rw [e_b0, e_b1, e_b2, e_b3]
  · match b, hb with
    | [b0], _ =>
      have h_b0 := b0.toNat_lt
      have e_b0 := key 0 b0 (by decide) (by simp [decU, little]; omega) (by decide)
      show [byteAt _ 0] = _
      rw [e_b0]
  · match b, hb with
    | [b0, b1], _ =>
      have h_b0 := b0.toNat_lt
      have h_b1 := b1.toNat_lt
      have e_b0 := key 0 b0 (by decide) (by simp [decU, little]; omega) (by decide)
      have e_b1 := key 1 b1 (by decide) (by simp [decU, little]; omega) (by decide)
      show [byteAt _ 0, byteAt _ 1] = _
      rw [e_b0, e_b1]
  · match b, hb with
    | [b0, b1, b2, b3], _ =>
      have h_b0 := b0.toNat_lt
      have h_b1 := b1.toNat_lt
      have h_b2 := b2.toNat_lt
      have h_b3 := b3.toNat_lt
      have e_b0 := key 0 b0 (by decide) (by simp [decU, little]; omega) (by decide)
      have e_b1 := key 1 b1 (by decide) (by simp [decU, little]; omega) (by decide)
      have e_b2 := key 2 b2 (by decide) (by simp [decU, little]; omega) (by decide)
      have e_b3 := key 3 b3 (by decide) (by simp [decU, little]; omega) (by decide)
      show [byteAt _ 0, byteAt _ 1, byteAt _ 2, byteAt _ 3] = _
      rw [e_b0, e_b1, e_b2, e_b3]
  · match b, hb with
    | [b0], _ =>
      have h_b0 := b0.toNat_lt
      have e_b0 := key 0 b0 (by decide) (by simp [decU, little]; omega) (by decide)
      show [byteAt _ 0] = _
      rw [e_b0]
  · match b, hb with
    | [b0, b1], _ =>
      have h_b0 := b0.toNat_lt
      have h_b1 := b1.toNat_lt
      have e_b0 := key 1 b0 (by decide) (by simp [decU, little]; omega) (by decide)
      have e_b1 := key 0 b1 (by decide) (by simp [decU, little]; omega) (by decide)
      show [byteAt _ 1, byteAt _ 0] = _
      rw [e_b0, e_b1]
  · match b, hb with
    | [b0, b1, b2, b3], _ =>
      have h_b0 := b0.toNat_lt
      have h_b1 := b1.toNat_lt
      have h_b2 := b2.toNat_lt
      have h_b3 := b3.toNat_lt
      have e_b0 := key 3 b0 (by decide) (by simp [decU, little]; omega) (by decide)
      have e_b1 := key 2 b1 (by decide) (by simp [decU, little]; omega) (by decide)
      have e_b2 := key 1 b2 (by decide) (by simp [decU, little]; omega) (by decide)
      have e_b3 := key 0 b3 (by decide) (by simp [decU, little]; omega) (by decide)
      show [byteAt _ 3, byteAt _ 2, byteAt _ 1, byteAt _ 0] = _
      rw [e_b0, e_b1, e_b2, e_b3]
  · match b, hb with
    | [b0], _ =>
      have h_b0 := b0.toNat_lt
      have e_b0 := key 0 b0 (by decide) (by simp [decU, little]; omega) (by decide)
      show [byteAt _ 0] = _
      rw [e_b0]
  · match b, hb with
    | [b0, b1], _ =>
      have h_b0 := b0.toNat_lt
      have h_b1 := b1.toNat_lt
      have e_b0 := key 1 b0 (by decide) (by simp [decU, little]; omega) (by decide)
      have e_b1 := key 0 b1 (by decide) (by simp [decU, little]; omega) (by decide)
      show [byteAt _ 1, byteAt _ 0] = _
      rw [e_b0, e_b1]
  · match b, hb with
    | [b0, b1, b2, b3], _ =>
      have h_b0 := b0.toNat_lt
      have h_b1 := b1.toNat_lt
      have h_b2 := b2.toNat_lt
      have h_b3 := b3.toNat_lt
      have e_b0 := key 3 b0 (by decide) (by simp [decU, little]; omega) (by decide)
      have e_b1 := key 2 b1 (by decide) (by simp [decU, little]; omega) (by decide)
      have e_b2 := key 1 b2 (by decide) (by simp [decU, little]; omega) (by decide)
      have e_b3 := key 0 b3 (by decide) (by simp [decU, little]; omega) (by decide)
      show [byteAt _ 3, byteAt _ 2, byteAt _ 1, byteAt _ 0] = _
      rw [e_b0, e_b1, e_b2, e_b3]
end Go.Proofs.Sh

/- Numbers taken at their places. Plain. -/
set_option maxRecDepth 100000
namespace Go.Proofs.Sh
open Go.Pv
theorem num_at {o : Int} (ho : isOrder o) {z : Int} (hz : isSize z) {v : Int} (hf : fitsN z v = true) (P B : List UInt8) : num o (P ++ encB o (wid z) v ++ B) z ⟨P.length, 0⟩ = (v, ⟨P.length + wid z, 0⟩) := by
  have he := encB_length o (wid z) v
  rw [num, if_pos rfl, if_neg (by simp only [List.length_append, he]; omega)]
  have ht : ((P ++ encB o (wid z) v ++ B).drop P.length).take (wid z) = encB o (wid z) v := by
    rw [List.append_assoc, List.drop_left]
    exact List.take_left' he
  simp only [ht, read_enc ho hz hf]
theorem filP_zeros (P B : List UInt8) : ∀ k j : Nat, k + j ≤ 4 → filP (P ++ zeros (k + j) ++ B) k (P.length + j) = ⟨P.length + j + k, 0⟩
  | 0, j, _ => rfl
  | k + 1, j, h => by
    unfold filP
    rw [if_neg (by simp [zeros]; omega), if_pos (by
      have : (P ++ zeros (k + 1 + j) ++ B).getD (P.length + j) 0 = 0 := by
        rw [List.append_assoc, List.getD_eq_getElem?_getD, List.getElem?_append_right (by omega), List.getElem?_append_left (by simp [zeros])]
        simp [zeros]
      exact this)]
    have := filP_zeros P B k (j + 1) (by omega)
    rw [show k + 1 + j = k + (j + 1) by omega, show P.length + j + 1 = P.length + (j + 1) by omega, this]
    congr 1; omega
theorem fil_at (P B : List UInt8) : fil (P ++ zeros (padN P.length) ++ B) ⟨P.length, 0⟩ = ⟨P.length + padN P.length, 0⟩ := by
  rw [fil, if_pos rfl]
  exact filP_zeros P B (padN P.length) 0 (by have := padN_le P.length; omega)
theorem fil_p1 (P B : List UInt8) : fil (p1 P ++ B) ⟨P.length, 0⟩ = ⟨(p1 P).length, 0⟩ := by
  have h := fil_at P B
  rw [show (p1 P).length = P.length + padN P.length by simp [p1, zeros]]
  exact h
theorem row_cons (o z v : Int) (F N : List Int) (k : Nat) : row o (z :: F) (v :: N) (k + 1) = putS o z v ++ row o F N k := by
  simp only [row, List.range_succ_eq_map, List.flatMap_cons, List.flatMap_map]
  rfl
theorem allFit_cons {z v : Int} {F N : List Int} {k : Nat} : allFit (z :: F) (v :: N) (k + 1) = (fitsN z v && allFit F N k) := by
  simp only [allFit, List.range_succ_eq_map, List.all_cons, List.all_map]
  rfl
theorem nums_row {o : Int} (ho : isOrder o) : ∀ (F N : List Int) (P B : List UInt8), N.length = F.length → (∀ z ∈ F, isSize z) → allFit F N N.length = true →
    nums o (P ++ row o F N N.length ++ B) F ⟨P.length, 0⟩ = (N, ⟨(P ++ row o F N N.length).length, 0⟩)
  | [], [], P, B, _, _, _ => by simp [nums, row]
  | [], _ :: _, _, _, h, _, _ => by simp at h
  | _ :: _, [], _, _, h, _, _ => by simp at h
  | z :: F, v :: N, P, B, hl, hs, hf => by
    rw [List.length_cons, allFit_cons, Bool.and_eq_true] at hf
    have hz := hs z (List.mem_cons_self ..)
    have hp : putS o z v = encB o (wid z) v := by rw [putS, if_pos hf.1]
    rw [List.length_cons, row_cons, hp]
    have h1 := num_at ho hz hf.1 P (row o F N N.length ++ B)
    have h2 := nums_row ho F N (P ++ encB o (wid z) v) B (by simpa using hl) (fun y hy => hs y (List.mem_cons_of_mem _ hy)) hf.2
    have e1 : P ++ (encB o (wid z) v ++ row o F N N.length) ++ B = P ++ encB o (wid z) v ++ (row o F N N.length ++ B) := by simp
    have e2 : P ++ encB o (wid z) v ++ row o F N N.length ++ B = P ++ encB o (wid z) v ++ (row o F N N.length ++ B) := by simp
    rw [e2] at h2
    rw [e1]
    have e3 : (P ++ encB o (wid z) v).length = P.length + wid z := by rw [List.length_append, encB_length]
    rw [e3] at h2
    simp only [nums, h1, h2]
    simp
theorem row1_row (o z : Int) : ∀ (L : List Int), row1 o z L L.length = row o (List.replicate L.length z) L L.length := by
  intro L
  simp only [row1, row, List.flatMap_def]
  congr 1
  apply List.map_congr_left
  intro j hj
  rw [List.mem_range] at hj
  rw [show (List.replicate L.length z).getD j 0 = z by simp [List.getD_eq_getElem?_getD, hj]]
theorem rowFit_all (z : Int) (L : List Int) (h : rowFit z L L.length = true) : allFit (List.replicate L.length z) L L.length = true := by
  unfold allFit
  unfold rowFit at h
  rw [List.all_eq_true] at h ⊢
  intro j hj
  have hj' := List.mem_range.1 hj
  rw [show (List.replicate L.length z).getD j 0 = z by simp [List.getD_eq_getElem?_getD, hj']]
  exact h j hj
/-- What fits, part by part. -/
structure FitsR (f : Fm) (x : Fd) : Prop where
  n : x.N.length = f.F.length
  a : allFit f.F x.N x.N.length = true
  b : f.B = true ∨ x.B = []
  bl : x.B.length ≤ 65536
  l : f.L ≠ 0 ∨ x.L = []
  ll : x.L.length ≤ 65536
  r : rowFit f.L x.L x.L.length = true
theorem fitsE_parts {f : Fm} {x : Fd} (h : fitsE f x = 0) : FitsR f x := by
  unfold fitsE at h
  split at h
  · exact absurd h (by decide)
  rename_i h1
  split at h
  · exact absurd h (by decide)
  rename_i h2
  split at h
  · exact absurd h (by decide)
  rename_i h3
  split at h
  · exact absurd h (by decide)
  rename_i h4
  split at h
  · exact absurd h (by decide)
  rename_i h5
  split at h
  · exact absurd h (by decide)
  rename_i h6
  split at h
  · exact absurd h (by decide)
  rename_i h7
  refine ⟨by simp at h1; omega, by simpa using h2, ?_, by simp at h4; omega, ?_, by simp at h6; omega, by simpa using h7⟩
  · cases hb : f.B
    · right
      rw [hb] at h3
      simpa using h3
    · exact .inl rfl
  · rcases Decidable.em (f.L = 0) with hl | hl
    · right
      rw [hl] at h5
      simp at h5
      exact List.eq_nil_of_length_eq_zero (by simpa using h5)
    · exact .inl hl
theorem putS4 {o : Int} {n : Nat} (h : n ≤ 65536) : fitsN 4 (n : Int) = true ∧ putS o 4 (n : Int) = encB o (wid 4) (n : Int) := by
  have hf : fitsN 4 (n : Int) = true := by simp [fitsN, low, high]; omega
  exact ⟨hf, by rw [putS, if_pos hf]⟩
/-- The text, taken where it was put. -/
theorem stB_at {o : Int} (ho : isOrder o) (P t B : List UInt8) (ht : t.length ≤ 65536) :
    stB o (p1 (P ++ putS o 4 t.length ++ t) ++ B) true ⟨P.length, 0⟩ = (true, t, ⟨(p1 (P ++ putS o 4 t.length ++ t)).length, 0⟩) := by
  obtain ⟨hf, hp⟩ := putS4 (o := o) ht
  have hz : isSize 4 := by unfold isSize; omega
  have hw : wid 4 = 4 := rfl
  have he := encB_length o (wid 4) (t.length : Int)
  have e1 : p1 (P ++ putS o 4 t.length ++ t) ++ B = P ++ encB o (wid 4) (t.length : Int) ++ (t ++ (zeros (padN (P ++ putS o 4 t.length ++ t).length) ++ B)) := by
    rw [p1, hp]; simp only [List.append_assoc]
  have hn := num_at ho hz hf P (t ++ (zeros (padN (P ++ putS o 4 t.length ++ t).length) ++ B))
  have hfl := fil_p1 (P ++ putS o 4 t.length ++ t) B
  rw [← e1] at hn
  rw [stB, if_pos rfl, hn]
  simp only [if_true]
  have hlen : (p1 (P ++ putS o 4 t.length ++ t) ++ B).length = P.length + wid 4 + (t.length + (padN (P ++ putS o 4 t.length ++ t).length + B.length)) := by
    rw [e1]; simp only [List.length_append, he, zeros, List.length_replicate]
  rw [if_neg (by rw [hlen]; omega)]
  have hd : (p1 (P ++ putS o 4 t.length ++ t) ++ B).drop (P.length + wid 4) = t ++ (zeros (padN (P ++ putS o 4 t.length ++ t).length) ++ B) := by
    rw [e1]
    exact List.drop_left' (by rw [List.length_append, he])
  have hl2 : (P ++ putS o 4 t.length ++ t).length = P.length + wid 4 + t.length := by rw [hp]; simp only [List.length_append, he]
  rw [hl2] at hfl
  rw [hd, Int.toNat_natCast, List.take_left, hfl]
theorem row_len {o : Int} {z : Int} : ∀ (L : List Int), allFit (List.replicate L.length z) L L.length = true → (row o (List.replicate L.length z) L L.length).length = L.length * wid z
  | [], _ => by simp [row]
  | v :: L, h => by
    rw [List.length_cons, List.replicate_succ, allFit_cons, Bool.and_eq_true] at h
    rw [List.length_cons, List.replicate_succ, row_cons, List.length_append, row_len L h.2, putS, if_pos h.1, encB_length, Nat.succ_mul]
    omega
/-- The row, taken where it was put. -/
theorem stL_at {o : Int} (ho : isOrder o) {z : Int} (hz : isSize z) (P : List UInt8) (L : List Int) (hL : L.length ≤ 65536) (hf : rowFit z L L.length = true) :
    stL o (p1 (P ++ putS o 4 L.length ++ row1 o z L L.length)) z ⟨P.length, 0⟩ = (L, ⟨(p1 (P ++ putS o 4 L.length ++ row1 o z L L.length)).length, 0⟩) := by
  obtain ⟨hf4, hp⟩ := putS4 (o := o) hL
  have hz4 : isSize 4 := by unfold isSize; omega
  have hz0 : ¬ z = 0 := by rcases hz with rfl | rfl | rfl | rfl | rfl | rfl <;> decide
  have he := encB_length o (wid 4) (L.length : Int)
  have hr := row1_row o z L
  have hall := rowFit_all z L hf
  have hnr := nums_row ho (List.replicate L.length z) L (P ++ putS o 4 L.length) (zeros (padN (P ++ putS o 4 L.length ++ row1 o z L L.length).length)) (by simp) (fun y hy => by rw [List.eq_of_mem_replicate hy]; exact hz) hall
  rw [← hr] at hnr
  have hfl := fil_p1 (P ++ putS o 4 L.length ++ row1 o z L L.length) []
  rw [List.append_nil] at hfl
  have e1 : p1 (P ++ putS o 4 L.length ++ row1 o z L L.length) = P ++ encB o (wid 4) (L.length : Int) ++ (row1 o z L L.length ++ zeros (padN (P ++ putS o 4 L.length ++ row1 o z L L.length).length)) := by
    rw [p1, hp]; simp only [List.append_assoc]
  have hn := num_at ho hz4 hf4 P (row1 o z L L.length ++ zeros (padN (P ++ putS o 4 L.length ++ row1 o z L L.length).length))
  rw [← e1] at hn
  rw [show P ++ putS o 4 ↑L.length ++ row1 o z L L.length ++ zeros (padN (P ++ putS o 4 ↑L.length ++ row1 o z L L.length).length) = p1 (P ++ putS o 4 L.length ++ row1 o z L L.length) from rfl] at hnr
  rw [show (P ++ putS o 4 (L.length : Int)).length = P.length + wid 4 by rw [hp, List.length_append, he]] at hnr
  rw [stL, if_neg hz0, hn]
  simp only [if_true, Int.toNat_natCast]
  have hrl := row_len (o := o) L hall
  rw [← hr] at hrl
  have hlen : (p1 (P ++ putS o 4 L.length ++ row1 o z L L.length)).length = P.length + wid 4 + (L.length * wid z + padN (P ++ putS o 4 L.length ++ row1 o z L L.length).length) := by
    rw [e1]; simp only [List.length_append, he, zeros, List.length_replicate, hrl]
  have hm : (L.length : Int) * (wid z : Int) = ((L.length * wid z : Nat) : Int) := (Int.natCast_mul _ _).symm
  rw [hm, if_neg (by rw [hlen]; omega), hnr]
  simp only
  rw [hfl]
end Go.Proofs.Sh

/- What is put is got, and what is got is put. Plain. -/
set_option maxRecDepth 100000
namespace Go.Proofs.Sh
open Go.Pv
theorem p1_eq (l : List UInt8) : p1 l = l ++ zeros (padN l.length) := rfl
theorem stB_none {o : Int} {s : List UInt8} {c : Cu} : stB o s false c = (true, [], c) := by rw [stB, if_neg (by decide)]
theorem stL_none {o : Int} {s : List UInt8} {c : Cu} : stL o s 0 c = ([], c) := by rw [stL, if_pos rfl]
/-- The text of fields, taken where it was put. -/
theorem stB_fmt {o : Int} (ho : isOrder o) {f : Fm} {x : Fd} (h : FitsR f x) (B : List UInt8) :
    stB o (fmt2 o f x ++ B) f.B ⟨(fmt1 o f x).length, 0⟩ = (true, x.B, ⟨(fmt2 o f x).length, 0⟩) := by
  cases hb : f.B
  · have hx : x.B = [] := by rcases h.b with h1 | h1
                             · rw [hb] at h1; cases h1
                             · exact h1
    have h2 : fmt2 o f x = fmt1 o f x := by rw [fmt2, if_neg (by rw [hb]; decide)]
    rw [stB_none, hx, h2]
  · have h2 : fmt2 o f x = p1 (fmt1 o f x ++ putS o 4 x.B.length ++ x.B) := by rw [fmt2, if_pos hb]
    rw [h2]
    exact stB_at ho (fmt1 o f x) x.B B h.bl
theorem stL_fmt {o : Int} (ho : isOrder o) {f : Fm} (hf : f.Ok) {x : Fd} (h : FitsR f x) :
    stL o (fmt o f x) f.L ⟨(fmt2 o f x).length, 0⟩ = (x.L, ⟨(fmt o f x).length, 0⟩) := by
  rcases Decidable.em (f.L = 0) with hl | hl
  · have hx : x.L = [] := by rcases h.l with h1 | h1
                             · exact absurd hl h1
                             · exact h1
    have h2 : fmt o f x = fmt2 o f x := by rw [fmt, if_neg (by simp [hl])]
    rw [h2, hl, stL_none, hx]
  · have h2 : fmt o f x = p1 (fmt2 o f x ++ putS o 4 x.L.length ++ row1 o f.L x.L x.L.length) := by rw [fmt, if_pos (by simpa using hl)]
    have hz : isSize f.L := hf.l.resolve_left hl
    rw [h2]
    exact stL_at ho hz (fmt2 o f x) x.L h.ll h.r
theorem fmt2_ext (o : Int) (f : Fm) (x : Fd) : ∃ C, fmt2 o f x = fmt1 o f x ++ C := by
  unfold fmt2
  split
  · exact ⟨putS o 4 x.B.length ++ x.B ++ zeros (padN (fmt1 o f x ++ putS o 4 x.B.length ++ x.B).length), by rw [p1]; simp only [List.append_assoc]⟩
  · exact ⟨[], (List.append_nil _).symm⟩
theorem fmt_ext (o : Int) (f : Fm) (x : Fd) : ∃ C, fmt o f x = fmt2 o f x ++ C := by
  unfold fmt
  split
  · exact ⟨putS o 4 x.L.length ++ row1 o f.L x.L x.L.length ++ zeros (padN (fmt2 o f x ++ putS o 4 x.L.length ++ row1 o f.L x.L x.L.length).length), by rw [p1]; simp only [List.append_assoc]⟩
  · exact ⟨[], (List.append_nil _).symm⟩
/-- What is put is got. -/
theorem body_fmt {o : Int} (ho : isOrder o) {f : Fm} (hf : f.Ok) {x : Fd} (h : fitsE f x = 0) : body o (fmt o f x) f ⟨0, 0⟩ = (x, ⟨(fmt o f x).length, 0⟩) := by
  have hp := fitsE_parts h
  obtain ⟨C1, hC1⟩ := fmt2_ext o f x
  obtain ⟨C2, hC2⟩ := fmt_ext o f x
  have hn : nums o (fmt o f x) f.F ⟨0, 0⟩ = (x.N, ⟨(row o f.F x.N x.N.length).length, 0⟩) := by
    have := nums_row ho f.F x.N [] (zeros (padN (row o f.F x.N x.N.length).length) ++ (C1 ++ C2)) hp.n hf.s hp.a
    have e : [] ++ row o f.F x.N x.N.length ++ (zeros (padN (row o f.F x.N x.N.length).length) ++ (C1 ++ C2)) = fmt o f x := by
      rw [hC2, hC1, fmt1, p1]; simp only [List.append_assoc, List.nil_append]
    rw [e] at this
    exact this
  have hfl : fil (fmt o f x) ⟨(row o f.F x.N x.N.length).length, 0⟩ = ⟨(fmt1 o f x).length, 0⟩ := by
    have := fil_p1 (row o f.F x.N x.N.length) (C1 ++ C2)
    have e : p1 (row o f.F x.N x.N.length) ++ (C1 ++ C2) = fmt o f x := by
      rw [hC2, hC1, fmt1]; simp only [List.append_assoc]
    rw [e] at this
    exact this
  have hB := stB_fmt ho hp C2
  rw [← hC2] at hB
  have hL := stL_fmt ho hf hp
  unfold body
  simp only [hn, hfl, hB, hL, if_true]
theorem getF_fmt {o : Int} (ho : isOrder o) {f : Fm} (hf : f.Ok) {x : Fd} (h : fitsE f x = 0) (hl : (fmt o f x).length ≤ 65536) : getF o f (fmt o f x) = (x, 0) := by
  have hb := body_fmt ho hf h
  have hX : getX (fmt o f x) ⟨(fmt o f x).length, 0⟩ = 0 := by rw [getX, if_neg (by simp)]
  rw [getF, if_neg (by omega), hb]
  simp only [hX, if_true]
/-- Back: a number. -/
theorem num_back {o : Int} (ho : isOrder o) {z : Int} (hz : isSize z) {s : List UInt8} {c : Cu} (h : (num o s z c).2.e = 0) :
    c.e = 0 ∧ (num o s z c).2.a ≤ s.length ∧ (num o s z c).2.a = c.a + wid z ∧ fitsN z (num o s z c).1 = true ∧ s.take (num o s z c).2.a = s.take c.a ++ putS o z (num o s z c).1 := by
  unfold num at h ⊢
  split at h
  · rename_i h0
    rw [if_pos h0]
    split at h
    · exact absurd h (by simp)
    · rename_i h1
      rw [if_neg h1]
      have hb : ((s.drop c.a).take (wid z)).length = wid z := by simp; omega
      have hfit := fits_read (o := o) hz hb
      refine ⟨h0, by simp only; omega, rfl, hfit, ?_⟩
      simp only [putS, if_pos hfit, enc_read ho hz hb, List.take_add]
  · rename_i h0
    exact absurd h h0
theorem nums_back {o : Int} (ho : isOrder o) {s : List UInt8} : ∀ (F : List Int) {c : Cu}, (∀ z ∈ F, isSize z) → (nums o s F c).2.e = 0 → c.a ≤ s.length →
    c.e = 0 ∧ (nums o s F c).2.a ≤ s.length ∧ allFit F (nums o s F c).1 (nums o s F c).1.length = true ∧ s.take (nums o s F c).2.a = s.take c.a ++ row o F (nums o s F c).1 (nums o s F c).1.length
  | [], c, _, h, ha => ⟨h, ha, by simp [nums, allFit], by simp [nums, row]⟩
  | z :: F, c, hs, h, ha => by
    have h' : (nums o s F (num o s z c).2).2.e = 0 := h
    obtain ⟨h1, h2, h3, h4⟩ := nums_back ho F (fun y hy => hs y (List.mem_cons_of_mem _ hy)) h' (num_le ha)
    obtain ⟨g1, g2, g3, g4, g5⟩ := num_back ho (hs z (List.mem_cons_self ..)) h1
    refine ⟨g1, h2, ?_, ?_⟩
    · show allFit (z :: F) ((num o s z c).1 :: (nums o s F (num o s z c).2).1) ((nums o s F (num o s z c).2).1.length + 1) = true
      rw [allFit_cons, g4, h3]; rfl
    · show s.take (nums o s F (num o s z c).2).2.a = s.take c.a ++ row o (z :: F) ((num o s z c).1 :: (nums o s F (num o s z c).2).1) ((nums o s F (num o s z c).2).1.length + 1)
      rw [row_cons, h4, g5, List.append_assoc]
theorem filP_back {s : List UInt8} : ∀ (k a : Nat), a ≤ s.length → (filP s k a).e = 0 → (filP s k a).a = a + k ∧ a + k ≤ s.length ∧ s.take (a + k) = s.take a ++ zeros k
  | 0, a, ha, _ => ⟨rfl, ha, by simp [zeros]⟩
  | k + 1, a, ha, h => by
    unfold filP at h ⊢
    split at h
    · exact absurd h (by simp)
    · rename_i h1
      split at h
      · rename_i h2
        obtain ⟨g1, g2, g3⟩ := filP_back k (a + 1) (by omega) h
        rw [if_neg h1, if_pos h2]
        refine ⟨by rw [g1]; omega, by omega, ?_⟩
        rw [show a + (k + 1) = a + 1 + k by omega, g3]
        have hlt : a < s.length := by omega
        rw [List.take_add_one, List.getElem?_eq_getElem hlt]
        have h3 : s[a] = 0 := by
          rw [List.getD_eq_getElem?_getD, List.getElem?_eq_getElem hlt] at h2; exact h2
        rw [h3]
        simp [zeros, List.replicate_succ]
      · exact absurd h (by simp)
theorem fil_back {s : List UInt8} {c : Cu} (ha : c.a ≤ s.length) (h : (fil s c).e = 0) : c.e = 0 ∧ (fil s c).a ≤ s.length ∧ s.take (fil s c).a = p1 (s.take c.a) := by
  unfold fil at h ⊢
  split at h
  · rename_i h0
    rw [if_pos h0]
    obtain ⟨g1, g2, g3⟩ := filP_back _ _ ha h
    refine ⟨h0, by rw [g1]; exact g2, ?_⟩
    rw [g1, g3, p1, List.length_take, Nat.min_eq_left ha]
  · rename_i h0
    exact absurd h h0
theorem stB_back {o : Int} (ho : isOrder o) {s : List UInt8} {b : Bool} {c : Cu} (ha : c.a ≤ s.length) (hs : s.length ≤ 65536) (h : (stB o s b c).2.2.e = 0) :
    c.e = 0 ∧ (stB o s b c).1 = true ∧ (stB o s b c).2.2.a ≤ s.length ∧ (b = true ∨ (stB o s b c).2.1 = []) ∧ (stB o s b c).2.1.length ≤ 65536 ∧
      s.take (stB o s b c).2.2.a = if b = true then p1 (s.take c.a ++ putS o 4 (stB o s b c).2.1.length ++ (stB o s b c).2.1) else s.take c.a := by
  cases b
  · rw [stB_none] at h ⊢
    exact ⟨h, rfl, ha, .inr rfl, by simp, rfl⟩
  · have h4 := num4 (s := s) ho c
    have hz4 : isSize 4 := by unfold isSize; omega
    unfold stB at h ⊢
    rw [if_pos rfl] at h ⊢
    split at h
    · rename_i h1
      rw [if_pos h1]
      obtain ⟨g1, g2, g3, g4, g5⟩ := num_back ho hz4 h1
      split at h
      · exact absurd h (by simp)
      · rename_i h2
        rw [if_neg h2]
        obtain ⟨n, hn⟩ := Int.eq_ofNat_of_zero_le h4.1
        have hlen : ((s.drop (num o s 4 c).2.a).take (num o s 4 c).1.toNat).length = n := by
          rw [hn]; rw [hn] at h2; simp; omega
        have hle : (num o s 4 c).2.a + (num o s 4 c).1.toNat ≤ s.length := by rw [hn]; rw [hn] at h2; simp; omega
        obtain ⟨k1, k2, k3⟩ := fil_back (c := ⟨(num o s 4 c).2.a + (num o s 4 c).1.toNat, 0⟩) hle h
        refine ⟨g1, rfl, k2, .inl rfl, by rw [hlen]; rw [hn] at hle; simp at hle; omega, ?_⟩
        simp only [if_true]
        rw [k3, hlen, List.take_add, g5]
        rw [hn]
        try rfl
    · rename_i h1
      exact absurd h h1
theorem allFit_rep (z : Int) (L : List Int) (h : allFit (List.replicate L.length z) L L.length = true) : rowFit z L L.length = true := by
  unfold allFit at h
  unfold rowFit
  rw [List.all_eq_true] at h ⊢
  intro j hj
  have hj' := List.mem_range.1 hj
  have := h j hj
  rwa [show (List.replicate L.length z).getD j 0 = z by simp [List.getD_eq_getElem?_getD, hj']] at this
theorem stL_back {o : Int} (ho : isOrder o) {s : List UInt8} {z : Int} (hz : z = 0 ∨ isSize z) {c : Cu} (ha : c.a ≤ s.length) (hs : s.length ≤ 65536) (h : (stL o s z c).2.e = 0) :
    c.e = 0 ∧ (stL o s z c).2.a ≤ s.length ∧ (z ≠ 0 ∨ (stL o s z c).1 = []) ∧ (stL o s z c).1.length ≤ 65536 ∧ rowFit z (stL o s z c).1 (stL o s z c).1.length = true ∧
      s.take (stL o s z c).2.a = if (z != 0) = true then p1 (s.take c.a ++ putS o 4 (stL o s z c).1.length ++ row1 o z (stL o s z c).1 (stL o s z c).1.length) else s.take c.a := by
  rcases Decidable.em (z = 0) with rfl | hz0
  · rw [stL_none] at h ⊢
    exact ⟨h, ha, .inr rfl, by simp, by simp [rowFit], rfl⟩
  · have hzs := hz.resolve_left hz0
    have hw := wid_pos hzs
    have h4 := num4 (s := s) ho c
    have hz4 : isSize 4 := by unfold isSize; omega
    unfold stL at h ⊢
    rw [if_neg hz0] at h ⊢
    split at h
    · rename_i h1
      rw [if_pos h1]
      obtain ⟨g1, g2, g3, g4, g5⟩ := num_back ho hz4 h1
      split at h
      · exact absurd h (by simp)
      · rename_i h2
        rw [if_neg h2]
        obtain ⟨n, hn⟩ := Int.eq_ofNat_of_zero_le h4.1
        have hlen := nums_length (o := o) (s := s) (List.replicate (num o s 4 c).1.toNat z) (num o s 4 c).2
        rw [List.length_replicate] at hlen
        have hnn : (num o s 4 c).1.toNat = n := by rw [hn]; rfl
        rw [hnn] at h hlen
        have hle : (nums o s (List.replicate n z) (num o s 4 c).2).2.a ≤ s.length := nums_le _ g2
        obtain ⟨k1, k2, k3⟩ := fil_back hle h
        obtain ⟨q1, q2, q3, q4⟩ := nums_back ho (List.replicate n z) (fun y hy => by rw [List.eq_of_mem_replicate hy]; exact hzs) k1 g2
        rw [hnn]
        have hnl : n ≤ 65536 := by
          rw [hn] at h2
          have : (n : Int) ≤ (n : Int) * (wid z : Int) := by
            have := Int.mul_le_mul_of_nonneg_left (show (1 : Int) ≤ (wid z : Int) by omega) (Int.natCast_nonneg n)
            omega
          try simp only [Int.ofNat_eq_natCast] at h2
          omega
        rw [hlen] at q3 q4
        have hr : List.replicate n z = List.replicate (nums o s (List.replicate n z) (num o s 4 c).2).1.length z := by rw [hlen]
        refine ⟨g1, k2, .inl hz0, by rw [hlen]; exact hnl, ?_, ?_⟩
        · apply allFit_rep
          rw [hlen]; exact q3
        · rw [if_pos (by simpa using hz0), k3, q4, g5, hlen]
          rw [hn]
          congr 2
          have := row1_row o z (nums o s (List.replicate n z) (num o s 4 c).2).1
          rw [hlen] at this
          exact this.symm
    · rename_i h1
      exact absurd h h1
/-- What is got is put as just these bytes. -/
theorem body_back {o : Int} (ho : isOrder o) {f : Fm} (hf : f.Ok) {s : List UInt8} (hs : s.length ≤ 65536) {x : Fd} {c : Cu} (h : body o s f ⟨0, 0⟩ = (x, c)) (he : c.e = 0) :
    c.a ≤ s.length ∧ s.take c.a = fmt o f x ∧ fitsE f x = 0 := by
  unfold body at h
  split at h
  · rename_i h1
    obtain ⟨rfl, rfl⟩ := Prod.mk.inj h
    have a0 : (0 : Nat) ≤ s.length := Nat.zero_le _
    have a1 : (fil s (nums o s f.F ⟨0, 0⟩).2).a ≤ s.length := fil_le (nums_le f.F (c := ⟨0, 0⟩) a0)
    have a2 : (stB o s f.B (fil s (nums o s f.F ⟨0, 0⟩).2)).2.2.a ≤ s.length := by
      have : ∀ b (c : Cu), c.a ≤ s.length → (stB o s b c).2.2.a ≤ s.length := by
        intro b c hc
        cases b
        · rw [stB_none]; exact hc
        · have h4 := num4 (s := s) ho c
          unfold stB
          rw [if_pos rfl]
          split
          · split
            · exact num_le hc
            · rename_i h2
              have := num_le (o := o) (z := 4) hc
              exact fil_le (by simp only; omega)
          · exact num_le hc
      exact this _ _ a1
    obtain ⟨l1, l2, l3, l4, l5, l6⟩ := stL_back ho hf.l a2 hs he
    obtain ⟨b1, b2, b3, b4, b5, b6⟩ := stB_back ho a1 hs l1
    obtain ⟨f1, f2, f3⟩ := fil_back (nums_le f.F (c := ⟨0, 0⟩) a0) b1
    obtain ⟨n1, n2, n3, n4⟩ := nums_back ho f.F (c := ⟨0, 0⟩) hf.s f1 a0
    have hN := nums_length (o := o) (s := s) f.F ⟨0, 0⟩
    rw [List.take_zero, List.nil_append] at n4
    refine ⟨l2, ?_, ?_⟩
    · rw [l6, b6, f3, n4]
      rfl
    · generalize (nums o s f.F ⟨0, 0⟩).1 = N at *
      generalize (stL o s f.L (stB o s f.B (fil s (nums o s f.F ⟨0, 0⟩).2)).2.2).1 = L at *
      generalize (stB o s f.B (fil s (nums o s f.F ⟨0, 0⟩).2)).2.1 = B at *
      unfold fitsE
      rw [if_neg (by simp [hN]), if_neg (by rw [n3]; decide), if_neg (by rcases b4 with h | h <;> simp [h]), if_neg (by simp; omega), if_neg (by rcases l3 with h | h <;> simp [h]), if_neg (by simp; omega), if_neg (by rw [l5]; decide)]
  · rename_i h1
    obtain ⟨rfl, rfl⟩ := Prod.mk.inj h
    have a1 : (fil s (nums o s f.F ⟨0, 0⟩).2).a ≤ s.length := fil_le (nums_le f.F (c := ⟨0, 0⟩) (Nat.zero_le _))
    exact absurd (stB_back ho a1 hs he).2.1 h1
theorem getF_back {o : Int} (ho : isOrder o) {f : Fm} (hf : f.Ok) {s : List UInt8} (h : (getF o f s).2 = 0) : fmt o f (getF o f s).1 = s ∧ fitsE f (getF o f s).1 = 0 := by
  unfold getF at h ⊢
  split at h
  · exact absurd h (by decide)
  · rename_i h1
    rw [if_neg h1]
    split at h
    · rename_i h2
      rw [if_pos h2]
      cases hb : body o s f ⟨0, 0⟩ with
      | mk x c =>
        rw [hb] at h2
        unfold getX at h2
        split at h2
        · exact absurd h2 (by decide)
        · rename_i h3
          obtain ⟨g1, g2, g3⟩ := body_back ho hf (by omega) hb h2
          refine ⟨?_, g3⟩
          rw [← g2]
          apply List.take_of_length_le
          have : ¬ c.a < s.length := fun h4 => h3 ⟨h2, h4⟩
          omega
    · rename_i h2
      exact absurd h h2
end Go.Proofs.Sh

/- Requests: what is put is got, and what is got is put. Plain. -/
set_option maxRecDepth 100000
namespace Go.Proofs.Sh
open Go.Pv
theorem putS_len (o o' z v : Int) : (putS o z v).length = (putS o' z v).length := by
  unfold putS
  split
  · rw [encB_length, encB_length]
  · rfl
theorem row_len2 (o o' : Int) (F N : List Int) (k : Nat) : (row o F N k).length = (row o' F N k).length := by
  simp only [row, List.length_flatMap, putS_len o o']
theorem row1_len2 (o o' z : Int) (L : List Int) (k : Nat) : (row1 o z L k).length = (row1 o' z L k).length := by
  simp only [row1, List.length_flatMap, putS_len o o']
theorem p1_len2 {a b : List UInt8} (h : a.length = b.length) : (p1 a).length = (p1 b).length := by
  simp only [p1, List.length_append, zeros, List.length_replicate, h]
theorem fmt_len2 (o o' : Int) (f : Fm) (x : Fd) : (fmt o f x).length = (fmt o' f x).length := by
  have h1 : (fmt1 o f x).length = (fmt1 o' f x).length := p1_len2 (row_len2 o o' _ _ _)
  have h2 : (fmt2 o f x).length = (fmt2 o' f x).length := by
    unfold fmt2
    split
    · apply p1_len2
      rw [List.length_append, List.length_append, List.length_append, List.length_append, h1, putS_len o o']
    · exact h1
  unfold fmt
  split
  · apply p1_len2
    rw [List.length_append, List.length_append, List.length_append, List.length_append, h2, putS_len o o', row1_len2 o o']
  · exact h2
theorem hd_length (o C : Int) (n : Nat) : (hd o C n).length = 4 := by
  rw [hd, List.length_append, List.length_append, encB_length, encB_length, encB_length]
/-- The two orders. -/
theorem packS_orders {o o' : Int} (ho : isOrd o = true) (ho' : isOrd o' = true) (r : Rq) : (packS o r).2 = (packS o' r).2 ∧ (packS o r).1.length = (packS o' r).1.length := by
  have hl : ∀ f, (fmt o f r.fd).length = (fmt o' f r.fd).length := fun f => fmt_len2 o o' f _
  unfold packS
  rw [if_pos ho, if_pos ho']
  cases formOf r.C with
  | none => exact ⟨rfl, rfl⟩
  | some f =>
    simp only
    split
    · exact ⟨rfl, rfl⟩
    · rw [hl f]
      split
      · exact ⟨rfl, rfl⟩
      · exact ⟨rfl, by rw [List.length_append, List.length_append, hd_length, hd_length, hl f]⟩
/-- What is put is got. -/
theorem put_get {o : Int} {r : Rq} (h : (packS o r).2 = 0) :
    getP o (packS o r).1 = (r, 0) ∧ lenR o ((packS o r).1.take 4) = (((packS o r).1.length : Int), 0) ∧ 4 ≤ (packS o r).1.length ∧ (packS o r).1.length % 4 = 0 ∧ (packS o r).1.length ≤ 65536 := by
  obtain ⟨f, c, x, y, X, ho, hf, hs, hc, h4, hl, hX, hE⟩ := packS_shape h
  have hio := isOrd_of ho
  obtain ⟨hfo, -, -⟩ := formOf_some hf
  rw [hs]
  have hg := getF_fmt hio hfo hE (by rw [← hX]; omega)
  rw [← hX] at hg
  refine ⟨?_, ?_, by simp, by simp only [List.length_cons]; omega, by simp only [List.length_cons]; omega⟩
  · have hd4 : (c :: 0 :: x :: y :: X).drop 4 = X := rfl
    rw [getP_head (t := c :: 0 :: x :: y :: X) (c := c) ho (by simp) rfl (by rw [hc]; exact hf), getQ, lenR_head (t := c :: 0 :: x :: y :: X) (x := x) (y := y) ho (m := X.length + 4) (by simp) rfl rfl h4 (by omega) hl, if_pos rfl, if_pos (by simp; omega), if_pos (show (c :: 0 :: x :: y :: X).getD 1 0 = 0 from rfl), hd4, hg, if_pos rfl]
    show ((⟨(c.toNat : Int), r.fd.N, r.fd.B, r.fd.L⟩ : Rq), (0 : Int)) = (r, 0)
    rw [hc]
    rfl
  · have ht : (c :: 0 :: x :: y :: X).take 4 = [c, 0, x, y] := rfl
    rw [ht, lenR_head (t := [c, 0, x, y]) (x := x) (y := y) ho (m := X.length + 4) (by simp) rfl rfl h4 (by omega) hl]
    simp; omega
theorem getP_wrong {o : Int} {s : List UInt8} (h : ¬ (getP o s).2 = 0) : (getP o s).1 = rq0 := by
  unfold getP at h ⊢
  split at h
  · rename_i h1
    rw [if_pos h1]
    split at h
    · rename_i h2
      rw [if_pos h2]
    · rename_i h2
      rw [if_neg h2]
      split at h
      · rfl
      · rename_i f hf
        unfold getQ at h ⊢
        split at h
        · rename_i h3
          rw [if_pos h3]
          split at h
          · rename_i h4
            rw [if_pos h4]
            split at h
            · rename_i h5
              rw [if_pos h5]
              split at h
              · exact absurd rfl h
              · rename_i h6
                rw [if_neg h6]
            · rename_i h5
              rw [if_neg h5]
          · rename_i h4
            rw [if_neg h4]
        · rename_i h3
          rw [if_neg h3]
  · rename_i h1
    rw [if_neg h1]
theorem four_of {s : List UInt8} (h : 4 ≤ s.length) : s = s.getD 0 0 :: s.getD 1 0 :: s.getD 2 0 :: s.getD 3 0 :: s.drop 4 := by
  match s, h with
  | _ :: _ :: x :: y :: r, _ => rfl
/-- What is got of bytes is put as just these. -/
theorem get_put {o : Int} {s : List UInt8} (h : (getP o s).2 = 0) : packS o (getP o s).1 = (s, 0) ∧ (getP o s).1.N.length ≤ 16 ∧ (getP o s).1.B.length ≤ 65536 ∧ (getP o s).1.L.length ≤ 65536 := by
  unfold getP at h ⊢
  split at h
  · rename_i ho
    rw [if_pos ho]
    split at h
    · exact absurd h (by decide)
    · rename_i hs4
      rw [if_neg hs4]
      split at h
      · exact absurd h (by decide)
      · rename_i f hf
        unfold getQ at h ⊢
        split at h
        · rename_i h3
          rw [if_pos h3]
          split at h
          · rename_i h4
            rw [if_pos h4]
            split at h
            · rename_i h5
              rw [if_pos h5]
              split at h
              · rename_i h6
                rw [if_pos h6]
                obtain ⟨hfo, hc1, hc2⟩ := formOf_some hf
                have hio := isOrd_of ho
                obtain ⟨g1, g2⟩ := getF_back hio hfo h6
                have hp := fitsE_parts g2
                refine ⟨?_, by have := hp.n; have := hfo.n; simp only; omega, hp.bl, hp.ll⟩
                have hs4' : 4 ≤ s.length := by omega
                have hln : lenR o s = (((4 * lenN o s : Nat) : Int), 0) := by
                  unfold lenR at h3 ⊢
                  rw [if_pos ho, if_neg hs4] at h3 ⊢
                  split at h3
                  · exact absurd h3 (by decide)
                  · rename_i h7
                    rw [if_neg h7]
                    split at h3
                    · exact absurd h3 (by decide)
                    · rename_i h8
                      rw [if_neg h8]
                have hn16 : lenN o s ≤ 16384 := by
                  unfold lenR at h3
                  rw [if_pos ho, if_neg hs4] at h3
                  split at h3
                  · exact absurd h3 (by decide)
                  · split at h3
                    · exact absurd h3 (by decide)
                    · omega
                rw [hln] at h4
                simp only at h4
                have hlen : s.length = 4 * lenN o s := by omega
                have hd4 : (fmt o f (getF o f (s.drop 4)).1).length = s.length - 4 := by rw [g1]; simp
                have hfd : (⟨((s.getD 0 0).toNat : Int), (getF o f (s.drop 4)).1.N, (getF o f (s.drop 4)).1.B, (getF o f (s.drop 4)).1.L⟩ : Rq).fd = (getF o f (s.drop 4)).1 := rfl
                rw [packS_ok ho (f := f) hf (by rw [hfd, g2]; rfl) (by rw [hfd, hd4]; omega)]
                rw [hfd, g1]
                congr 1
                have hn : (s.drop 4).length / 4 + 1 = lenN o s := by simp; omega
                rw [hn]
                have hz2 : isSize 2 := by unfold isSize; omega
                have he := enc_read hio hz2 (b := [s.getD 2 0, s.getD 3 0]) rfl
                have hrv : readV o 2 [s.getD 2 0, s.getD 3 0] = (lenN o s : Int) := by
                  rw [readV, if_neg, lenN, two_of hs4']
                  have := decU_lt o [s.getD 2 0, s.getD 3 0]
                  simp [high]
                  simp at this
                  omega
                rw [hrv] at he
                have hw2 : wid 2 = 2 := rfl
                rw [hw2] at he
                rw [hd, he, enc1, enc1]
                have hb0 : byteAt ((s.getD 0 0).toNat : Int) 0 = s.getD 0 0 := byteAt_eq (by have := (s.getD 0 0).toNat_lt; omega)
                have hb1 : byteAt 0 0 = 0 := by decide
                rw [hb0, hb1]
                have h4s := four_of hs4'
                rw [h5] at h4s
                exact h4s.symm
              · rename_i h6
                exact absurd h h6
            · exact absurd h (by decide)
          · exact absurd h (by decide)
        · rename_i h3
          exact absurd h h3
  · exact absurd h (by decide)
end Go.Proofs.Sh
