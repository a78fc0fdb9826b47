/- Package pack: Length. -/
import Derived.Test.YtggpilaganghkaaDoorPkGet
import Derived.Test.YtggpilaganghkaaDoorPkLawPuts
set_option maxRecDepth 100000
set_option linter.unusedSimpArgs false
set_option linter.unusedVariables false
namespace Go.Proofs.Sh
open Go.Pv

def lenN (o : Int) (s : List UInt8) : Nat := decU o ((s.drop 2).take 2)
def lenR (o : Int) (s : List UInt8) : Int × Int :=
  if isOrd o = true then
    if s.length < 4 then (0, 3) else if lenN o s = 0 then (0, 13) else if 16384 < lenN o s then (0, 4) else (((4 * lenN o s : Nat) : Int), 0)
  else (0, 8)
theorem two_of {s : List UInt8} (h : 4 ≤ s.length) : (s.drop 2).take 2 = [s.getD 2 0, s.getD 3 0] := by
  match s, h with
  | _ :: _ :: x :: y :: r, _ => rfl
theorem lenN_0 {s : List UInt8} (h : 4 ≤ s.length) : lenN 0 s = (s.getD 2 0).toNat + 256 * (s.getD 3 0).toNat := by
  rw [lenN, two_of h]; simp [decU, little]
theorem lenN_1 {s : List UInt8} (h : 4 ≤ s.length) : lenN 1 s = (s.getD 3 0).toNat + 256 * (s.getD 2 0).toNat := by
  rw [lenN, two_of h]; simp [decU, little]
theorem lenN_lt {o : Int} {s : List UInt8} (h : 4 ≤ s.length) : lenN o s < 65536 := by
  have := decU_lt o ((s.drop 2).take 2)
  rw [two_of h] at this
  rw [lenN, two_of h]
  exact this
set_option maxHeartbeats 2000000 in
theorem packLen_fs (o : Int) (s : List UInt8) : Fsp Tryd.prog 17 [] 0 [.int .i64 o, .str s] [] 0 (.tup [.int .i64 (lenR o s).1, .int .i64 (lenR o s).2]) := by
  have hk := pknown_fs o
  cases ho : isOrd o
  · rw [ho] at hk
    rw [show lenR o s = (0, 8) by rw [lenR, if_neg (by rw [ho]; simp)]]
    (refine Fsp.of (nx := 0) mixed Tryd.func17 rfl (by decide) (by first | exact Nat.le_refl _ | simp) (by simp [Tryd.f17]) ⟨by decide, by decide⟩ ?_; simp -implicitDefEqProofs only [push_cast, Tryd.f17, Int.reduceBEq, Int.reduceBNe, Int.reduceEq, Int.reduceNe, Int.reducePow, Nat.reduceAdd, Nat.reduceMul, Nat.reduceSub, Nat.reduceLT, Nat.reduceLeDiff, Nat.reduceEqDiff, Nat.reduceBEq, Int.reduceLT, Int.reduceLE, Int.reduceAdd, Int.reduceSub, Int.reduceMul, Int.reduceToNat, Int.reduceNeg, reduceIte, reduceCtorEq, reduceBEq])
    refine callE_pure hk (by rfl) (by rfl) (by rfl) (by decide) (by rfl) (fun _ => by rfl) (by first | rfl | simp [gdOk, newToks]) ?_
    simp -implicitDefEqProofs only [push_cast, Int.reduceBEq, Int.reduceBNe, Int.reduceEq, Int.reduceNe, Int.reducePow, Nat.reduceAdd, Nat.reduceMul, Nat.reduceSub, Nat.reduceLT, Nat.reduceLeDiff, Nat.reduceEqDiff, Nat.reduceBEq, Int.reduceLT, Int.reduceLE, Int.reduceAdd, Int.reduceSub, Int.reduceMul, Int.reduceToNat, Int.reduceNeg, reduceIte, reduceCtorEq, reduceBEq]
    all_goals simp [wkL, res2, res1, PV.weak, PV.el]
  · rw [ho] at hk
    have hor := isOrd_of ho
    cases h1 : decide ((s.length : Int) < 4)
    · have h1' : 4 ≤ s.length := by simp at h1; omega
      have hn := lenN_lt (o := o) h1'
      have hlen : ((s.drop 2).take 2).length = wid 2 := by rw [two_of h1']; rfl
      have hg := get_fs hor (s := 2) (by unfold isSize; omega) ((s.drop 2).take 2)
      rw [show getV o 2 ((s.drop 2).take 2) = (lenN o s : Int) by
        rw [getV, if_pos hlen, readV, if_neg (by simp only [decide_eq_true_eq]; rw [show high 2 = 65535 by decide]; show ¬ (65535 : Int) < ((lenN o s : Nat) : Int); omega)]; rfl, show getE 2 ((s.drop 2).take 2) = 0 by rw [getE, if_neg (by omega), if_neg (by omega)]] at hg
      have hL : lenR o s = if lenN o s = 0 then (0, 13) else if 16384 < lenN o s then (0, 4) else (((4 * lenN o s : Nat) : Int), 0) := by
        rw [lenR, if_pos ho, if_neg (by omega)]
      rw [hL]
      have hw : IntKind.i64.wrap (4 * (lenN o s : Int)) = 4 * (lenN o s : Int) := by rw [wrap_i64_id (by omega) (by omega)]
      generalize lenN o s = n at *
      cases h2 : ((n : Int) == 0)
      · have h2' : ¬ n = 0 := by simp at h2; omega
        rw [if_neg h2']
        cases h3 : decide ((65536 : Int) < 4 * (n : Int))
        · have h3' : ¬ 16384 < n := by simp at h3; omega
          rw [if_neg h3']
          (refine Fsp.of (nx := 0) mixed Tryd.func17 rfl (by decide) (by first | exact Nat.le_refl _ | simp) (by simp [Tryd.f17]) ⟨by decide, by decide⟩ ?_; simp -implicitDefEqProofs only [push_cast, Tryd.f17, Int.reduceBEq, Int.reduceBNe, Int.reduceEq, Int.reduceNe, Int.reducePow, Nat.reduceAdd, Nat.reduceMul, Nat.reduceSub, Nat.reduceLT, Nat.reduceLeDiff, Nat.reduceEqDiff, Nat.reduceBEq, Int.reduceLT, Int.reduceLE, Int.reduceAdd, Int.reduceSub, Int.reduceMul, Int.reduceToNat, Int.reduceNeg, reduceIte, reduceCtorEq, reduceBEq])
          refine callE_pure hk (by rfl) (by rfl) (by rfl) (by decide) (by rfl) (fun _ => by rfl) (by first | rfl | simp [gdOk, newToks]) ?_
          simp -implicitDefEqProofs only [push_cast, h1, Int.reduceBEq, Int.reduceBNe, Int.reduceEq, Int.reduceNe, Int.reducePow, Nat.reduceAdd, Nat.reduceMul, Nat.reduceSub, Nat.reduceLT, Nat.reduceLeDiff, Nat.reduceEqDiff, Nat.reduceBEq, Int.reduceLT, Int.reduceLE, Int.reduceAdd, Int.reduceSub, Int.reduceMul, Int.reduceToNat, Int.reduceNeg, reduceIte, reduceCtorEq, reduceBEq]
          (repeat (first | refine ⟨by omega, ?_⟩ | refine ⟨by (unfold drawOk; kernel_rfl), ?_⟩))
          refine callE_pure hg (by rfl) (by rfl) (by rfl) (by decide) (by rfl) (fun _ => by rfl) (by first | rfl | simp [gdOk, newToks]) ?_
          simp -implicitDefEqProofs only [push_cast, h2, h3, hw, Int.reduceBEq, Int.reduceBNe, Int.reduceEq, Int.reduceNe, Int.reducePow, Nat.reduceAdd, Nat.reduceMul, Nat.reduceSub, Nat.reduceLT, Nat.reduceLeDiff, Nat.reduceEqDiff, Nat.reduceBEq, Int.reduceLT, Int.reduceLE, Int.reduceAdd, Int.reduceSub, Int.reduceMul, Int.reduceToNat, Int.reduceNeg, reduceIte, reduceCtorEq, reduceBEq]
          all_goals simp [wkL, res2, res1, PV.weak, PV.el]
        · have h3' : 16384 < n := by simp at h3; omega
          rw [if_pos h3']
          (refine Fsp.of (nx := 0) mixed Tryd.func17 rfl (by decide) (by first | exact Nat.le_refl _ | simp) (by simp [Tryd.f17]) ⟨by decide, by decide⟩ ?_; simp -implicitDefEqProofs only [push_cast, Tryd.f17, Int.reduceBEq, Int.reduceBNe, Int.reduceEq, Int.reduceNe, Int.reducePow, Nat.reduceAdd, Nat.reduceMul, Nat.reduceSub, Nat.reduceLT, Nat.reduceLeDiff, Nat.reduceEqDiff, Nat.reduceBEq, Int.reduceLT, Int.reduceLE, Int.reduceAdd, Int.reduceSub, Int.reduceMul, Int.reduceToNat, Int.reduceNeg, reduceIte, reduceCtorEq, reduceBEq])
          refine callE_pure hk (by rfl) (by rfl) (by rfl) (by decide) (by rfl) (fun _ => by rfl) (by first | rfl | simp [gdOk, newToks]) ?_
          simp -implicitDefEqProofs only [push_cast, h1, Int.reduceBEq, Int.reduceBNe, Int.reduceEq, Int.reduceNe, Int.reducePow, Nat.reduceAdd, Nat.reduceMul, Nat.reduceSub, Nat.reduceLT, Nat.reduceLeDiff, Nat.reduceEqDiff, Nat.reduceBEq, Int.reduceLT, Int.reduceLE, Int.reduceAdd, Int.reduceSub, Int.reduceMul, Int.reduceToNat, Int.reduceNeg, reduceIte, reduceCtorEq, reduceBEq]
          (repeat (first | refine ⟨by omega, ?_⟩ | refine ⟨by (unfold drawOk; kernel_rfl), ?_⟩))
          refine callE_pure hg (by rfl) (by rfl) (by rfl) (by decide) (by rfl) (fun _ => by rfl) (by first | rfl | simp [gdOk, newToks]) ?_
          simp -implicitDefEqProofs only [push_cast, h2, h3, hw, Int.reduceBEq, Int.reduceBNe, Int.reduceEq, Int.reduceNe, Int.reducePow, Nat.reduceAdd, Nat.reduceMul, Nat.reduceSub, Nat.reduceLT, Nat.reduceLeDiff, Nat.reduceEqDiff, Nat.reduceBEq, Int.reduceLT, Int.reduceLE, Int.reduceAdd, Int.reduceSub, Int.reduceMul, Int.reduceToNat, Int.reduceNeg, reduceIte, reduceCtorEq, reduceBEq]
          all_goals simp [wkL, res2, res1, PV.weak, PV.el]
      · have h2' : n = 0 := by simp at h2; omega
        rw [if_pos h2']
        (refine Fsp.of (nx := 0) mixed Tryd.func17 rfl (by decide) (by first | exact Nat.le_refl _ | simp) (by simp [Tryd.f17]) ⟨by decide, by decide⟩ ?_; simp -implicitDefEqProofs only [push_cast, Tryd.f17, Int.reduceBEq, Int.reduceBNe, Int.reduceEq, Int.reduceNe, Int.reducePow, Nat.reduceAdd, Nat.reduceMul, Nat.reduceSub, Nat.reduceLT, Nat.reduceLeDiff, Nat.reduceEqDiff, Nat.reduceBEq, Int.reduceLT, Int.reduceLE, Int.reduceAdd, Int.reduceSub, Int.reduceMul, Int.reduceToNat, Int.reduceNeg, reduceIte, reduceCtorEq, reduceBEq])
        refine callE_pure hk (by rfl) (by rfl) (by rfl) (by decide) (by rfl) (fun _ => by rfl) (by first | rfl | simp [gdOk, newToks]) ?_
        simp -implicitDefEqProofs only [push_cast, h1, Int.reduceBEq, Int.reduceBNe, Int.reduceEq, Int.reduceNe, Int.reducePow, Nat.reduceAdd, Nat.reduceMul, Nat.reduceSub, Nat.reduceLT, Nat.reduceLeDiff, Nat.reduceEqDiff, Nat.reduceBEq, Int.reduceLT, Int.reduceLE, Int.reduceAdd, Int.reduceSub, Int.reduceMul, Int.reduceToNat, Int.reduceNeg, reduceIte, reduceCtorEq, reduceBEq]
        (repeat (first | refine ⟨by omega, ?_⟩ | refine ⟨by (unfold drawOk; kernel_rfl), ?_⟩))
        refine callE_pure hg (by rfl) (by rfl) (by rfl) (by decide) (by rfl) (fun _ => by rfl) (by first | rfl | simp [gdOk, newToks]) ?_
        simp -implicitDefEqProofs only [push_cast, h2, Int.reduceBEq, Int.reduceBNe, Int.reduceEq, Int.reduceNe, Int.reducePow, Nat.reduceAdd, Nat.reduceMul, Nat.reduceSub, Nat.reduceLT, Nat.reduceLeDiff, Nat.reduceEqDiff, Nat.reduceBEq, Int.reduceLT, Int.reduceLE, Int.reduceAdd, Int.reduceSub, Int.reduceMul, Int.reduceToNat, Int.reduceNeg, reduceIte, reduceCtorEq, reduceBEq]
        all_goals simp [wkL, res2, res1, PV.weak, PV.el]
    · have h1' : s.length < 4 := by simp at h1; omega
      rw [show lenR o s = (0, 3) by rw [lenR, if_pos ho, if_pos h1']]
      (refine Fsp.of (nx := 0) mixed Tryd.func17 rfl (by decide) (by first | exact Nat.le_refl _ | simp) (by simp [Tryd.f17]) ⟨by decide, by decide⟩ ?_; simp -implicitDefEqProofs only [push_cast, Tryd.f17, Int.reduceBEq, Int.reduceBNe, Int.reduceEq, Int.reduceNe, Int.reducePow, Nat.reduceAdd, Nat.reduceMul, Nat.reduceSub, Nat.reduceLT, Nat.reduceLeDiff, Nat.reduceEqDiff, Nat.reduceBEq, Int.reduceLT, Int.reduceLE, Int.reduceAdd, Int.reduceSub, Int.reduceMul, Int.reduceToNat, Int.reduceNeg, reduceIte, reduceCtorEq, reduceBEq])
      refine callE_pure hk (by rfl) (by rfl) (by rfl) (by decide) (by rfl) (fun _ => by rfl) (by first | rfl | simp [gdOk, newToks]) ?_
      simp -implicitDefEqProofs only [push_cast, h1, Int.reduceBEq, Int.reduceBNe, Int.reduceEq, Int.reduceNe, Int.reducePow, Nat.reduceAdd, Nat.reduceMul, Nat.reduceSub, Nat.reduceLT, Nat.reduceLeDiff, Nat.reduceEqDiff, Nat.reduceBEq, Int.reduceLT, Int.reduceLE, Int.reduceAdd, Int.reduceSub, Int.reduceMul, Int.reduceToNat, Int.reduceNeg, reduceIte, reduceCtorEq, reduceBEq]
      all_goals simp [wkL, res2, res1, PV.weak, PV.el]

theorem w256 (x : UInt8) : IntKind.i64.wrap (256 * (x.toNat : Int)) = 256 * (x.toNat : Int) := by
  have := x.toNat_lt
  rw [wrap_i64_id (by omega) (by omega)]
theorem wb (x : UInt8) : IntKind.i64.wrap (x.toNat : Int) = (x.toNat : Int) := by
  have := x.toNat_lt
  rw [wrap_i64_id (by omega) (by omega)]
set_option maxHeartbeats 4000000 in
theorem refLen_fs (o : Int) (s : List UInt8) : Fsp Tryd.prog 18 [] 0 [.int .i64 o, .str s] [] 0 (.tup [.int .i64 (lenR o s).1, .int .i64 (lenR o s).2]) := by
  cases ho : isOrd o
  · have h0 : (o != 0) = true := by simp [isOrd] at ho; simp [ho.1]
    have h1 : (o != 1) = true := by simp [isOrd] at ho; simp [ho.2]
    rw [show lenR o s = (0, 8) by rw [lenR, if_neg (by rw [ho]; simp)]]
    (refine Fsp.of (nx := 0) mixed Tryd.func18 rfl (by decide) (by first | exact Nat.le_refl _ | simp) (by simp [Tryd.f18]) ⟨by decide, by decide⟩ ?_; simp -implicitDefEqProofs only [push_cast, Tryd.f18, h0, h1, Int.reduceBEq, Int.reduceBNe, Int.reduceEq, Int.reduceNe, Int.reducePow, Nat.reduceAdd, Nat.reduceMul, Nat.reduceSub, Nat.reduceLT, Nat.reduceLeDiff, Nat.reduceEqDiff, Nat.reduceBEq, Int.reduceLT, Int.reduceLE, Int.reduceAdd, Int.reduceSub, Int.reduceMul, Int.reduceToNat, Int.reduceNeg, reduceIte, reduceCtorEq, reduceBEq])
    all_goals simp [wkL, res2, res1, PV.weak, PV.el]
  · have hor := isOrd_of ho
    cases h1 : decide ((s.length : Int) < 4)
    · have h1' : 4 ≤ s.length := by simp at h1; omega
      have hn := lenN_lt (o := o) h1'
      have hL : lenR o s = if lenN o s = 0 then (0, 13) else if 16384 < lenN o s then (0, 4) else (((4 * lenN o s : Nat) : Int), 0) := by
        rw [lenR, if_pos ho, if_neg (by omega)]
      rw [hL]
      have hw : IntKind.i64.wrap (4 * (lenN o s : Int)) = 4 * (lenN o s : Int) := by rw [wrap_i64_id (by omega) (by omega)]
      have hN0 := lenN_0 h1'
      have hN1 := lenN_1 h1'
      have hx := (s.getD 2 0).toNat_lt
      have hy := (s.getD 3 0).toNat_lt
      have f0 : IntKind.i64.wrap (((s.getD 2 0).toNat : Int) + 256 * ((s.getD 3 0).toNat : Int)) = (lenN 0 s : Int) := by rw [wrap_i64_id (by omega) (by omega), hN0]; omega
      have f1 : IntKind.i64.wrap (256 * ((s.getD 2 0).toNat : Int) + ((s.getD 3 0).toNat : Int)) = (lenN 1 s : Int) := by rw [wrap_i64_id (by omega) (by omega), hN1]; omega
      have g2 : 2 < s.length := by omega
      have g3 : 3 < s.length := by omega
      rcases hor with rfl | rfl
      · generalize lenN 0 s = n at *
        cases h2 : ((n : Int) == 0)
        · have h2' : ¬ n = 0 := by simp at h2; omega
          rw [if_neg h2']
          cases h3 : decide ((65536 : Int) < 4 * (n : Int))
          · have h3' : ¬ 16384 < n := by simp at h3; omega
            rw [if_neg h3']
            (refine Fsp.of (nx := 0) mixed Tryd.func18 rfl (by decide) (by first | exact Nat.le_refl _ | simp) (by simp [Tryd.f18]) ⟨by decide, by decide⟩ ?_; simp -implicitDefEqProofs only [push_cast, Tryd.f18, h1, wb, w256, f0, h2, h3, hw, Int.reduceBEq, Int.reduceBNe, Int.reduceEq, Int.reduceNe, Int.reducePow, Nat.reduceAdd, Nat.reduceMul, Nat.reduceSub, Nat.reduceLT, Nat.reduceLeDiff, Nat.reduceEqDiff, Nat.reduceBEq, Int.reduceLT, Int.reduceLE, Int.reduceAdd, Int.reduceSub, Int.reduceMul, Int.reduceToNat, Int.reduceNeg, reduceIte, reduceCtorEq, reduceBEq])
            (repeat (first | refine ⟨by omega, ?_⟩ | refine ⟨by (unfold drawOk; kernel_rfl), ?_⟩))
            all_goals simp [wkL, res2, res1, PV.weak, PV.el]
          · have h3' : 16384 < n := by simp at h3; omega
            rw [if_pos h3']
            (refine Fsp.of (nx := 0) mixed Tryd.func18 rfl (by decide) (by first | exact Nat.le_refl _ | simp) (by simp [Tryd.f18]) ⟨by decide, by decide⟩ ?_; simp -implicitDefEqProofs only [push_cast, Tryd.f18, h1, wb, w256, f0, h2, h3, hw, Int.reduceBEq, Int.reduceBNe, Int.reduceEq, Int.reduceNe, Int.reducePow, Nat.reduceAdd, Nat.reduceMul, Nat.reduceSub, Nat.reduceLT, Nat.reduceLeDiff, Nat.reduceEqDiff, Nat.reduceBEq, Int.reduceLT, Int.reduceLE, Int.reduceAdd, Int.reduceSub, Int.reduceMul, Int.reduceToNat, Int.reduceNeg, reduceIte, reduceCtorEq, reduceBEq])
            (repeat (first | refine ⟨by omega, ?_⟩ | refine ⟨by (unfold drawOk; kernel_rfl), ?_⟩))
            all_goals simp [wkL, res2, res1, PV.weak, PV.el]
        · have h2' : n = 0 := by simp at h2; omega
          rw [if_pos h2']
          (refine Fsp.of (nx := 0) mixed Tryd.func18 rfl (by decide) (by first | exact Nat.le_refl _ | simp) (by simp [Tryd.f18]) ⟨by decide, by decide⟩ ?_; simp -implicitDefEqProofs only [push_cast, Tryd.f18, h1, wb, w256, f0, h2, Int.reduceBEq, Int.reduceBNe, Int.reduceEq, Int.reduceNe, Int.reducePow, Nat.reduceAdd, Nat.reduceMul, Nat.reduceSub, Nat.reduceLT, Nat.reduceLeDiff, Nat.reduceEqDiff, Nat.reduceBEq, Int.reduceLT, Int.reduceLE, Int.reduceAdd, Int.reduceSub, Int.reduceMul, Int.reduceToNat, Int.reduceNeg, reduceIte, reduceCtorEq, reduceBEq])
          (repeat (first | refine ⟨by omega, ?_⟩ | refine ⟨by (unfold drawOk; kernel_rfl), ?_⟩))
          all_goals simp [wkL, res2, res1, PV.weak, PV.el]
      · generalize lenN 1 s = n at *
        generalize lenN 0 s = n0 at *
        cases h2 : ((n : Int) == 0)
        · have h2' : ¬ n = 0 := by simp at h2; omega
          rw [if_neg h2']
          cases h3 : decide ((65536 : Int) < 4 * (n : Int))
          · have h3' : ¬ 16384 < n := by simp at h3; omega
            rw [if_neg h3']
            (refine Fsp.of (nx := 0) mixed Tryd.func18 rfl (by decide) (by first | exact Nat.le_refl _ | simp) (by simp [Tryd.f18]) ⟨by decide, by decide⟩ ?_; simp -implicitDefEqProofs only [push_cast, Tryd.f18, h1, wb, w256, f0, f1, h2, h3, hw, Int.reduceBEq, Int.reduceBNe, Int.reduceEq, Int.reduceNe, Int.reducePow, Nat.reduceAdd, Nat.reduceMul, Nat.reduceSub, Nat.reduceLT, Nat.reduceLeDiff, Nat.reduceEqDiff, Nat.reduceBEq, Int.reduceLT, Int.reduceLE, Int.reduceAdd, Int.reduceSub, Int.reduceMul, Int.reduceToNat, Int.reduceNeg, reduceIte, reduceCtorEq, reduceBEq])
            (repeat (first | refine ⟨by omega, ?_⟩ | refine ⟨by (unfold drawOk; kernel_rfl), ?_⟩))
            all_goals simp [wkL, res2, res1, PV.weak, PV.el]
          · have h3' : 16384 < n := by simp at h3; omega
            rw [if_pos h3']
            (refine Fsp.of (nx := 0) mixed Tryd.func18 rfl (by decide) (by first | exact Nat.le_refl _ | simp) (by simp [Tryd.f18]) ⟨by decide, by decide⟩ ?_; simp -implicitDefEqProofs only [push_cast, Tryd.f18, h1, wb, w256, f0, f1, h2, h3, hw, Int.reduceBEq, Int.reduceBNe, Int.reduceEq, Int.reduceNe, Int.reducePow, Nat.reduceAdd, Nat.reduceMul, Nat.reduceSub, Nat.reduceLT, Nat.reduceLeDiff, Nat.reduceEqDiff, Nat.reduceBEq, Int.reduceLT, Int.reduceLE, Int.reduceAdd, Int.reduceSub, Int.reduceMul, Int.reduceToNat, Int.reduceNeg, reduceIte, reduceCtorEq, reduceBEq])
            (repeat (first | refine ⟨by omega, ?_⟩ | refine ⟨by (unfold drawOk; kernel_rfl), ?_⟩))
            all_goals simp [wkL, res2, res1, PV.weak, PV.el]
        · have h2' : n = 0 := by simp at h2; omega
          rw [if_pos h2']
          (refine Fsp.of (nx := 0) mixed Tryd.func18 rfl (by decide) (by first | exact Nat.le_refl _ | simp) (by simp [Tryd.f18]) ⟨by decide, by decide⟩ ?_; simp -implicitDefEqProofs only [push_cast, Tryd.f18, h1, wb, w256, f0, f1, h2, Int.reduceBEq, Int.reduceBNe, Int.reduceEq, Int.reduceNe, Int.reducePow, Nat.reduceAdd, Nat.reduceMul, Nat.reduceSub, Nat.reduceLT, Nat.reduceLeDiff, Nat.reduceEqDiff, Nat.reduceBEq, Int.reduceLT, Int.reduceLE, Int.reduceAdd, Int.reduceSub, Int.reduceMul, Int.reduceToNat, Int.reduceNeg, reduceIte, reduceCtorEq, reduceBEq])
          (repeat (first | refine ⟨by omega, ?_⟩ | refine ⟨by (unfold drawOk; kernel_rfl), ?_⟩))
          all_goals simp [wkL, res2, res1, PV.weak, PV.el]
    · have h1' : s.length < 4 := by simp at h1; omega
      rw [show lenR o s = (0, 3) by rw [lenR, if_pos ho, if_pos h1']]
      rcases hor with rfl | rfl
      · (refine Fsp.of (nx := 0) mixed Tryd.func18 rfl (by decide) (by first | exact Nat.le_refl _ | simp) (by simp [Tryd.f18]) ⟨by decide, by decide⟩ ?_; simp -implicitDefEqProofs only [push_cast, Tryd.f18, h1, Int.reduceBEq, Int.reduceBNe, Int.reduceEq, Int.reduceNe, Int.reducePow, Nat.reduceAdd, Nat.reduceMul, Nat.reduceSub, Nat.reduceLT, Nat.reduceLeDiff, Nat.reduceEqDiff, Nat.reduceBEq, Int.reduceLT, Int.reduceLE, Int.reduceAdd, Int.reduceSub, Int.reduceMul, Int.reduceToNat, Int.reduceNeg, reduceIte, reduceCtorEq, reduceBEq])
        all_goals simp [wkL, res2, res1, PV.weak, PV.el]
      · (refine Fsp.of (nx := 0) mixed Tryd.func18 rfl (by decide) (by first | exact Nat.le_refl _ | simp) (by simp [Tryd.f18]) ⟨by decide, by decide⟩ ?_; simp -implicitDefEqProofs only [push_cast, Tryd.f18, h1, Int.reduceBEq, Int.reduceBNe, Int.reduceEq, Int.reduceNe, Int.reducePow, Nat.reduceAdd, Nat.reduceMul, Nat.reduceSub, Nat.reduceLT, Nat.reduceLeDiff, Nat.reduceEqDiff, Nat.reduceBEq, Int.reduceLT, Int.reduceLE, Int.reduceAdd, Int.reduceSub, Int.reduceMul, Int.reduceToNat, Int.reduceNeg, reduceIte, reduceCtorEq, reduceBEq])
        all_goals simp [wkL, res2, res1, PV.weak, PV.el]

end Go.Proofs.Sh

/- Package pack: Get; PackGets. -/
set_option maxRecDepth 100000
set_option linter.unusedSimpArgs false
set_option linter.unusedVariables false
namespace Go.Proofs.Sh
open Go.Pv

def rq0 : Rq := ⟨0, [], [], []⟩
def getQ (o : Int) (s : List UInt8) (f : Fm) : Rq × Int :=
  if (lenR o s).2 = 0 then
    if (s.length : Int) = (lenR o s).1 then
      if s.getD 1 0 = 0 then
        if (getF o f (s.drop 4)).2 = 0 then (⟨((s.getD 0 0).toNat : Int), (getF o f (s.drop 4)).1.N, (getF o f (s.drop 4)).1.B, (getF o f (s.drop 4)).1.L⟩, 0)
        else (rq0, (getF o f (s.drop 4)).2)
      else (rq0, 2)
    else (rq0, 17)
  else (rq0, (lenR o s).2)
def getP (o : Int) (s : List UInt8) : Rq × Int :=
  if isOrd o = true then
    if s.length < 4 then (rq0, 3)
    else match formOf ((s.getD 0 0).toNat : Int) with
      | none => (rq0, 10)
      | some f => getQ o s f
  else (rq0, 8)
def getPR (o : Int) (s : List UInt8) : PV := .tup [(getP o s).1.pv, .int .i64 (getP o s).2]
theorem getP_none {o : Int} {s : List UInt8} (ho : isOrd o = true) (h : ¬ s.length < 4) (hf : formOf ((s.getD 0 0).toNat : Int) = none) : getP o s = (rq0, 10) := by
  rw [getP, if_pos ho, if_neg h, hf]
theorem getP_some {o : Int} {s : List UInt8} {f : Fm} (ho : isOrd o = true) (h : ¬ s.length < 4) (hf : formOf ((s.getD 0 0).toNat : Int) = some f) : getP o s = getQ o s f := by
  rw [getP, if_pos ho, if_neg h, hf]
set_option maxHeartbeats 8000000 in
theorem packGet_fs (o : Int) (s : List UInt8) (hs : s.length ≤ 1000000) : Fsp Tryd.prog 16 [] 0 [.int .i64 o, .str s] [] 0 (getPR o s) := by
  have hk := pknown_fs o
  have hp := packLen_fs o s
  rw [getPR]
  cases ho : isOrd o
  · rw [ho] at hk
    rw [show getP o s = (rq0, 8) by rw [getP, if_neg (by rw [ho]; simp)]]
    (refine Fsp.of (nx := 0) mixed Tryd.func16 rfl (by decide) (by first | exact Nat.le_refl _ | simp) (by simp [Tryd.f16]) ⟨by decide, by decide⟩ ?_; simp -implicitDefEqProofs only [push_cast, Tryd.f16, Int.reduceBEq, Int.reduceBNe, Int.reduceEq, Int.reduceNe, Int.reducePow, Nat.reduceAdd, Nat.reduceMul, Nat.reduceSub, Nat.reduceLT, Nat.reduceLeDiff, Nat.reduceEqDiff, Nat.reduceBEq, Int.reduceLT, Int.reduceLE, Int.reduceAdd, Int.reduceSub, Int.reduceMul, Int.reduceToNat, Int.reduceNeg, reduceIte, reduceCtorEq, reduceBEq])
    refine callE_pure hk (by rfl) (by rfl) (by rfl) (by decide) (by rfl) (fun _ => by rfl) (by first | rfl | simp [gdOk, newToks]) ?_
    simp -implicitDefEqProofs only [push_cast, Int.reduceBEq, Int.reduceBNe, Int.reduceEq, Int.reduceNe, Int.reducePow, Nat.reduceAdd, Nat.reduceMul, Nat.reduceSub, Nat.reduceLT, Nat.reduceLeDiff, Nat.reduceEqDiff, Nat.reduceBEq, Int.reduceLT, Int.reduceLE, Int.reduceAdd, Int.reduceSub, Int.reduceMul, Int.reduceToNat, Int.reduceNeg, reduceIte, reduceCtorEq, reduceBEq]
    exact ⟨_, rfl, by simp [wkL, res2, res1, PV.weak, PV.el, rq0, Rq.pv, ints]⟩
  · rw [ho] at hk
    have hor := isOrd_of ho
    cases h1 : decide ((s.length : Int) < 4)
    · have h1' : ¬ s.length < 4 := by simp at h1; omega
      have g0 : 0 < s.length := by omega
      have g1 : 1 < s.length := by omega
      have g4 : 4 ≤ s.length := by omega
      have hq := request_fs ((s.getD 0 0).toNat : Int)
      cases hf : formOf ((s.getD 0 0).toNat : Int) with
      | none =>
        rw [formR, hf] at hq
        simp only [form0] at hq
        rw [getP_none ho h1' hf]
        (refine Fsp.of (nx := 0) mixed Tryd.func16 rfl (by decide) (by first | exact Nat.le_refl _ | simp) (by simp [Tryd.f16]) ⟨by decide, by decide⟩ ?_; simp -implicitDefEqProofs only [push_cast, Tryd.f16, Int.reduceBEq, Int.reduceBNe, Int.reduceEq, Int.reduceNe, Int.reducePow, Nat.reduceAdd, Nat.reduceMul, Nat.reduceSub, Nat.reduceLT, Nat.reduceLeDiff, Nat.reduceEqDiff, Nat.reduceBEq, Int.reduceLT, Int.reduceLE, Int.reduceAdd, Int.reduceSub, Int.reduceMul, Int.reduceToNat, Int.reduceNeg, reduceIte, reduceCtorEq, reduceBEq])
        refine callE_pure hk (by rfl) (by rfl) (by rfl) (by decide) (by rfl) (fun _ => by rfl) (by first | rfl | simp [gdOk, newToks]) ?_
        simp -implicitDefEqProofs only [push_cast, h1, wb, Int.reduceBEq, Int.reduceBNe, Int.reduceEq, Int.reduceNe, Int.reducePow, Nat.reduceAdd, Nat.reduceMul, Nat.reduceSub, Nat.reduceLT, Nat.reduceLeDiff, Nat.reduceEqDiff, Nat.reduceBEq, Int.reduceLT, Int.reduceLE, Int.reduceAdd, Int.reduceSub, Int.reduceMul, Int.reduceToNat, Int.reduceNeg, reduceIte, reduceCtorEq, reduceBEq]
        (repeat (first | refine ⟨by omega, ?_⟩ | refine ⟨by (unfold drawOk; kernel_rfl), ?_⟩))
        refine callE_pure hq (by rfl) (by rfl) (by rfl) (by decide) (by rfl) (fun _ => by rfl) (by first | rfl | simp [gdOk, newToks]) ?_
        simp -implicitDefEqProofs only [push_cast, Int.reduceBEq, Int.reduceBNe, Int.reduceEq, Int.reduceNe, Int.reducePow, Nat.reduceAdd, Nat.reduceMul, Nat.reduceSub, Nat.reduceLT, Nat.reduceLeDiff, Nat.reduceEqDiff, Nat.reduceBEq, Int.reduceLT, Int.reduceLE, Int.reduceAdd, Int.reduceSub, Int.reduceMul, Int.reduceToNat, Int.reduceNeg, reduceIte, reduceCtorEq, reduceBEq]
        exact ⟨_, rfl, by simp [wkL, res2, res1, PV.weak, PV.el, rq0, Rq.pv, ints]⟩
      | some f =>
        rw [formR, hf] at hq
        simp only [formT, Fm.pv] at hq
        obtain ⟨hok, -, -⟩ := formOf_some hf
        have hg := formGet_fs hor f hok (s.drop 4) (by simp; omega)
        simp only [getR, Fm.pv] at hg
        have htk : List.take (s.length - 4) (List.drop 4 s) = List.drop 4 s := List.take_of_length_le (by simp)
        rw [getP_some ho h1' hf, getQ]
        generalize getF o f (s.drop 4) = x at *
        obtain ⟨x, xe⟩ := x
        simp only [Fd.pv] at hg
        generalize lenR o s = L at *
        obtain ⟨n, e⟩ := L
        simp only at hp
        simp only
        (refine Fsp.of (nx := 0) mixed Tryd.func16 rfl (by decide) (by first | exact Nat.le_refl _ | simp) (by simp [Tryd.f16]) ⟨by decide, by decide⟩ ?_; simp -implicitDefEqProofs only [push_cast, Tryd.f16, Int.reduceBEq, Int.reduceBNe, Int.reduceEq, Int.reduceNe, Int.reducePow, Nat.reduceAdd, Nat.reduceMul, Nat.reduceSub, Nat.reduceLT, Nat.reduceLeDiff, Nat.reduceEqDiff, Nat.reduceBEq, Int.reduceLT, Int.reduceLE, Int.reduceAdd, Int.reduceSub, Int.reduceMul, Int.reduceToNat, Int.reduceNeg, reduceIte, reduceCtorEq, reduceBEq])
        refine callE_pure hk (by rfl) (by rfl) (by rfl) (by decide) (by rfl) (fun _ => by rfl) (by first | rfl | simp [gdOk, newToks]) ?_
        simp -implicitDefEqProofs only [push_cast, h1, wb, Int.reduceBEq, Int.reduceBNe, Int.reduceEq, Int.reduceNe, Int.reducePow, Nat.reduceAdd, Nat.reduceMul, Nat.reduceSub, Nat.reduceLT, Nat.reduceLeDiff, Nat.reduceEqDiff, Nat.reduceBEq, Int.reduceLT, Int.reduceLE, Int.reduceAdd, Int.reduceSub, Int.reduceMul, Int.reduceToNat, Int.reduceNeg, reduceIte, reduceCtorEq, reduceBEq]
        (repeat (first | refine ⟨by omega, ?_⟩ | refine ⟨by (unfold drawOk; kernel_rfl), ?_⟩))
        refine callE_pure hq (by rfl) (by rfl) (by rfl) (by decide) (by rfl) (fun _ => by rfl) (by first | rfl | simp [gdOk, newToks]) ?_
        simp -implicitDefEqProofs only [push_cast, Int.reduceBEq, Int.reduceBNe, Int.reduceEq, Int.reduceNe, Int.reducePow, Nat.reduceAdd, Nat.reduceMul, Nat.reduceSub, Nat.reduceLT, Nat.reduceLeDiff, Nat.reduceEqDiff, Nat.reduceBEq, Int.reduceLT, Int.reduceLE, Int.reduceAdd, Int.reduceSub, Int.reduceMul, Int.reduceToNat, Int.reduceNeg, reduceIte, reduceCtorEq, reduceBEq]
        refine callE_pure hp (by rfl) (by rfl) (by rfl) (by decide) (by rfl) (fun _ => by rfl) (by first | rfl | simp [gdOk, newToks]) ?_
        cases h2 : (e != 0)
        · have h2' : e = 0 := by simpa using h2
          rw [if_pos h2']
          cases h3 : ((s.length : Int) != n)
          · have h3' : (s.length : Int) = n := by simpa using h3
            rw [if_pos h3']
            cases h4 : (((s.getD 1 0).toNat : Int) != 0)
            · have h4' : s.getD 1 0 = 0 := by
                simp at h4
                exact UInt8.toNat_inj.1 (by rw [List.getD_eq_getElem?_getD]; simpa using h4)
              rw [if_pos h4']
              cases h5 : (xe != 0)
              · have h5' : xe = 0 := by simpa using h5
                rw [if_pos h5']
                simp -implicitDefEqProofs only [push_cast, h2, h3, h4, htk, Int.reduceBEq, Int.reduceBNe, Int.reduceEq, Int.reduceNe, Int.reducePow, Nat.reduceAdd, Nat.reduceMul, Nat.reduceSub, Nat.reduceLT, Nat.reduceLeDiff, Nat.reduceEqDiff, Nat.reduceBEq, Int.reduceLT, Int.reduceLE, Int.reduceAdd, Int.reduceSub, Int.reduceMul, Int.reduceToNat, Int.reduceNeg, reduceIte, reduceCtorEq, reduceBEq]
                (repeat (first | refine ⟨by omega, ?_⟩ | refine ⟨by (unfold drawOk; kernel_rfl), ?_⟩))
                refine callE_pure hg (by rfl) (by rfl) (by rfl) (by decide) (by rfl) (fun _ => by rfl) (by first | rfl | simp [gdOk, newToks]) ?_
                simp -implicitDefEqProofs only [push_cast, h5, wb, Int.reduceBEq, Int.reduceBNe, Int.reduceEq, Int.reduceNe, Int.reducePow, Nat.reduceAdd, Nat.reduceMul, Nat.reduceSub, Nat.reduceLT, Nat.reduceLeDiff, Nat.reduceEqDiff, Nat.reduceBEq, Int.reduceLT, Int.reduceLE, Int.reduceAdd, Int.reduceSub, Int.reduceMul, Int.reduceToNat, Int.reduceNeg, reduceIte, reduceCtorEq, reduceBEq]
                (repeat (first | refine ⟨by omega, ?_⟩ | refine ⟨by (unfold drawOk; kernel_rfl), ?_⟩))
                exact ⟨_, rfl, by simp [wkL, res2, res1, PV.weak, PV.el, rq0, Rq.pv, ints]⟩
              · have h5' : ¬ xe = 0 := by simpa using h5
                rw [if_neg h5']
                simp -implicitDefEqProofs only [push_cast, h2, h3, h4, htk, Int.reduceBEq, Int.reduceBNe, Int.reduceEq, Int.reduceNe, Int.reducePow, Nat.reduceAdd, Nat.reduceMul, Nat.reduceSub, Nat.reduceLT, Nat.reduceLeDiff, Nat.reduceEqDiff, Nat.reduceBEq, Int.reduceLT, Int.reduceLE, Int.reduceAdd, Int.reduceSub, Int.reduceMul, Int.reduceToNat, Int.reduceNeg, reduceIte, reduceCtorEq, reduceBEq]
                (repeat (first | refine ⟨by omega, ?_⟩ | refine ⟨by (unfold drawOk; kernel_rfl), ?_⟩))
                refine callE_pure hg (by rfl) (by rfl) (by rfl) (by decide) (by rfl) (fun _ => by rfl) (by first | rfl | simp [gdOk, newToks]) ?_
                simp -implicitDefEqProofs only [push_cast, h5, Int.reduceBEq, Int.reduceBNe, Int.reduceEq, Int.reduceNe, Int.reducePow, Nat.reduceAdd, Nat.reduceMul, Nat.reduceSub, Nat.reduceLT, Nat.reduceLeDiff, Nat.reduceEqDiff, Nat.reduceBEq, Int.reduceLT, Int.reduceLE, Int.reduceAdd, Int.reduceSub, Int.reduceMul, Int.reduceToNat, Int.reduceNeg, reduceIte, reduceCtorEq, reduceBEq]
                (repeat (first | refine ⟨by omega, ?_⟩ | refine ⟨by (unfold drawOk; kernel_rfl), ?_⟩))
                exact ⟨_, rfl, by simp [wkL, res2, res1, PV.weak, PV.el, rq0, Rq.pv, ints]⟩
            · have h4' : ¬ s.getD 1 0 = 0 := by
                intro h
                rw [h] at h4; exact absurd h4 (by decide)
              rw [if_neg h4']
              simp -implicitDefEqProofs only [push_cast, h2, h3, h4, Int.reduceBEq, Int.reduceBNe, Int.reduceEq, Int.reduceNe, Int.reducePow, Nat.reduceAdd, Nat.reduceMul, Nat.reduceSub, Nat.reduceLT, Nat.reduceLeDiff, Nat.reduceEqDiff, Nat.reduceBEq, Int.reduceLT, Int.reduceLE, Int.reduceAdd, Int.reduceSub, Int.reduceMul, Int.reduceToNat, Int.reduceNeg, reduceIte, reduceCtorEq, reduceBEq]
              (repeat (first | refine ⟨by omega, ?_⟩ | refine ⟨by (unfold drawOk; kernel_rfl), ?_⟩))
              exact ⟨_, rfl, by simp [wkL, res2, res1, PV.weak, PV.el, rq0, Rq.pv, ints]⟩
          · have h3' : ¬ (s.length : Int) = n := by simpa using h3
            rw [if_neg h3']
            simp -implicitDefEqProofs only [push_cast, h2, h3, Int.reduceBEq, Int.reduceBNe, Int.reduceEq, Int.reduceNe, Int.reducePow, Nat.reduceAdd, Nat.reduceMul, Nat.reduceSub, Nat.reduceLT, Nat.reduceLeDiff, Nat.reduceEqDiff, Nat.reduceBEq, Int.reduceLT, Int.reduceLE, Int.reduceAdd, Int.reduceSub, Int.reduceMul, Int.reduceToNat, Int.reduceNeg, reduceIte, reduceCtorEq, reduceBEq]
            exact ⟨_, rfl, by simp [wkL, res2, res1, PV.weak, PV.el, rq0, Rq.pv, ints]⟩
        · have h2' : ¬ e = 0 := by simpa using h2
          rw [if_neg h2']
          simp -implicitDefEqProofs only [push_cast, h2, Int.reduceBEq, Int.reduceBNe, Int.reduceEq, Int.reduceNe, Int.reducePow, Nat.reduceAdd, Nat.reduceMul, Nat.reduceSub, Nat.reduceLT, Nat.reduceLeDiff, Nat.reduceEqDiff, Nat.reduceBEq, Int.reduceLT, Int.reduceLE, Int.reduceAdd, Int.reduceSub, Int.reduceMul, Int.reduceToNat, Int.reduceNeg, reduceIte, reduceCtorEq, reduceBEq]
          (repeat (first | refine ⟨by omega, ?_⟩ | refine ⟨by (unfold drawOk; kernel_rfl), ?_⟩))
          exact ⟨_, rfl, by simp [wkL, res2, res1, PV.weak, PV.el, rq0, Rq.pv, ints]⟩
    · have h1' : s.length < 4 := by simp at h1; omega
      rw [show getP o s = (rq0, 3) by rw [getP, if_pos ho, if_pos h1']]
      (refine Fsp.of (nx := 0) mixed Tryd.func16 rfl (by decide) (by first | exact Nat.le_refl _ | simp) (by simp [Tryd.f16]) ⟨by decide, by decide⟩ ?_; simp -implicitDefEqProofs only [push_cast, Tryd.f16, Int.reduceBEq, Int.reduceBNe, Int.reduceEq, Int.reduceNe, Int.reducePow, Nat.reduceAdd, Nat.reduceMul, Nat.reduceSub, Nat.reduceLT, Nat.reduceLeDiff, Nat.reduceEqDiff, Nat.reduceBEq, Int.reduceLT, Int.reduceLE, Int.reduceAdd, Int.reduceSub, Int.reduceMul, Int.reduceToNat, Int.reduceNeg, reduceIte, reduceCtorEq, reduceBEq])
      refine callE_pure hk (by rfl) (by rfl) (by rfl) (by decide) (by rfl) (fun _ => by rfl) (by first | rfl | simp [gdOk, newToks]) ?_
      simp -implicitDefEqProofs only [push_cast, h1, Int.reduceBEq, Int.reduceBNe, Int.reduceEq, Int.reduceNe, Int.reducePow, Nat.reduceAdd, Nat.reduceMul, Nat.reduceSub, Nat.reduceLT, Nat.reduceLeDiff, Nat.reduceEqDiff, Nat.reduceBEq, Int.reduceLT, Int.reduceLE, Int.reduceAdd, Int.reduceSub, Int.reduceMul, Int.reduceToNat, Int.reduceNeg, reduceIte, reduceCtorEq, reduceBEq]
      exact ⟨_, rfl, by simp [wkL, res2, res1, PV.weak, PV.el, rq0, Rq.pv, ints]⟩

set_option maxHeartbeats 8000000 in
theorem lawGet_fs (o : Int) (s : List UInt8) (hs : s.length ≤ 1000000) : Fsp Tryd.prog 19 [] 0 [.int .i64 o, .str s] [] 0 (getPR o s) := by
  have hp := refLen_fs o s
  rw [getPR]
  cases ho : isOrd o
  · rw [show lenR o s = (0, 8) by rw [lenR, if_neg (by rw [ho]; simp)]] at hp
    rw [show getP o s = (rq0, 8) by rw [getP, if_neg (by rw [ho]; simp)]]
    (refine Fsp.of (nx := 0) mixed Tryd.func19 rfl (by decide) (by first | exact Nat.le_refl _ | simp) (by simp [Tryd.f19]) ⟨by decide, by decide⟩ ?_; simp -implicitDefEqProofs only [push_cast, Tryd.f19, Int.reduceBEq, Int.reduceBNe, Int.reduceEq, Int.reduceNe, Int.reducePow, Nat.reduceAdd, Nat.reduceMul, Nat.reduceSub, Nat.reduceLT, Nat.reduceLeDiff, Nat.reduceEqDiff, Nat.reduceBEq, Int.reduceLT, Int.reduceLE, Int.reduceAdd, Int.reduceSub, Int.reduceMul, Int.reduceToNat, Int.reduceNeg, reduceIte, reduceCtorEq, reduceBEq])
    refine callE_pure hp (by rfl) (by rfl) (by rfl) (by decide) (by rfl) (fun _ => by rfl) (by first | rfl | simp [gdOk, newToks]) ?_
    simp -implicitDefEqProofs only [push_cast, Int.reduceBEq, Int.reduceBNe, Int.reduceEq, Int.reduceNe, Int.reducePow, Nat.reduceAdd, Nat.reduceMul, Nat.reduceSub, Nat.reduceLT, Nat.reduceLeDiff, Nat.reduceEqDiff, Nat.reduceBEq, Int.reduceLT, Int.reduceLE, Int.reduceAdd, Int.reduceSub, Int.reduceMul, Int.reduceToNat, Int.reduceNeg, reduceIte, reduceCtorEq, reduceBEq]
    (repeat (first | refine ⟨by omega, ?_⟩ | refine ⟨by (unfold drawOk; kernel_rfl), ?_⟩))
    exact ⟨_, rfl, by simp [wkL, res2, res1, PV.weak, PV.el, rq0, Rq.pv, ints]⟩
  · have hor := isOrd_of ho
    cases h1 : decide ((s.length : Int) < 4)
    · have h1' : ¬ s.length < 4 := by simp at h1; omega
      have g0 : 0 < s.length := by omega
      have he : ((lenR o s).2 == 8) = false ∧ ((lenR o s).2 == 3) = false := by
        rw [lenR, if_pos ho, if_neg h1']
        split
        · exact ⟨rfl, rfl⟩
        · split
          · exact ⟨rfl, rfl⟩
          · exact ⟨rfl, rfl⟩
      have g1 : 1 < s.length := by omega
      have g4 : 4 ≤ s.length := by omega
      have hq := request_fs ((s.getD 0 0).toNat : Int)
      cases hf : formOf ((s.getD 0 0).toNat : Int) with
      | none =>
        rw [formR, hf] at hq
        simp only [form0] at hq
        rw [getP_none ho h1' hf]
        generalize lenR o s = L at *
        obtain ⟨n, e⟩ := L
        simp only at hp he
        obtain ⟨he1, he2⟩ := he
        (refine Fsp.of (nx := 0) mixed Tryd.func19 rfl (by decide) (by first | exact Nat.le_refl _ | simp) (by simp [Tryd.f19]) ⟨by decide, by decide⟩ ?_; simp -implicitDefEqProofs only [push_cast, Tryd.f19, Int.reduceBEq, Int.reduceBNe, Int.reduceEq, Int.reduceNe, Int.reducePow, Nat.reduceAdd, Nat.reduceMul, Nat.reduceSub, Nat.reduceLT, Nat.reduceLeDiff, Nat.reduceEqDiff, Nat.reduceBEq, Int.reduceLT, Int.reduceLE, Int.reduceAdd, Int.reduceSub, Int.reduceMul, Int.reduceToNat, Int.reduceNeg, reduceIte, reduceCtorEq, reduceBEq])
        refine callE_pure hp (by rfl) (by rfl) (by rfl) (by decide) (by rfl) (fun _ => by rfl) (by first | rfl | simp [gdOk, newToks]) ?_
        simp -implicitDefEqProofs only [push_cast, he1, he2, wb, Int.reduceBEq, Int.reduceBNe, Int.reduceEq, Int.reduceNe, Int.reducePow, Nat.reduceAdd, Nat.reduceMul, Nat.reduceSub, Nat.reduceLT, Nat.reduceLeDiff, Nat.reduceEqDiff, Nat.reduceBEq, Int.reduceLT, Int.reduceLE, Int.reduceAdd, Int.reduceSub, Int.reduceMul, Int.reduceToNat, Int.reduceNeg, reduceIte, reduceCtorEq, reduceBEq]
        (repeat (first | refine ⟨by omega, ?_⟩ | refine ⟨by (unfold drawOk; kernel_rfl), ?_⟩))
        refine callE_pure hq (by rfl) (by rfl) (by rfl) (by decide) (by rfl) (fun _ => by rfl) (by first | rfl | simp [gdOk, newToks]) ?_
        simp -implicitDefEqProofs only [push_cast, Int.reduceBEq, Int.reduceBNe, Int.reduceEq, Int.reduceNe, Int.reducePow, Nat.reduceAdd, Nat.reduceMul, Nat.reduceSub, Nat.reduceLT, Nat.reduceLeDiff, Nat.reduceEqDiff, Nat.reduceBEq, Int.reduceLT, Int.reduceLE, Int.reduceAdd, Int.reduceSub, Int.reduceMul, Int.reduceToNat, Int.reduceNeg, reduceIte, reduceCtorEq, reduceBEq]
        exact ⟨_, rfl, by simp [wkL, res2, res1, PV.weak, PV.el, rq0, Rq.pv, ints]⟩
      | some f =>
        rw [formR, hf] at hq
        simp only [formT, Fm.pv] at hq
        obtain ⟨hok, -, -⟩ := formOf_some hf
        have hg := formGet_fs hor f hok (s.drop 4) (by simp; omega)
        simp only [getR, Fm.pv] at hg
        have htk : List.take (s.length - 4) (List.drop 4 s) = List.drop 4 s := List.take_of_length_le (by simp)
        rw [getP_some ho h1' hf, getQ]
        generalize getF o f (s.drop 4) = x at *
        obtain ⟨x, xe⟩ := x
        simp only [Fd.pv] at hg
        generalize lenR o s = L at *
        obtain ⟨n, e⟩ := L
        simp only at hp he
        obtain ⟨he1, he2⟩ := he
        simp only
        (refine Fsp.of (nx := 0) mixed Tryd.func19 rfl (by decide) (by first | exact Nat.le_refl _ | simp) (by simp [Tryd.f19]) ⟨by decide, by decide⟩ ?_; simp -implicitDefEqProofs only [push_cast, Tryd.f19, Int.reduceBEq, Int.reduceBNe, Int.reduceEq, Int.reduceNe, Int.reducePow, Nat.reduceAdd, Nat.reduceMul, Nat.reduceSub, Nat.reduceLT, Nat.reduceLeDiff, Nat.reduceEqDiff, Nat.reduceBEq, Int.reduceLT, Int.reduceLE, Int.reduceAdd, Int.reduceSub, Int.reduceMul, Int.reduceToNat, Int.reduceNeg, reduceIte, reduceCtorEq, reduceBEq])
        refine callE_pure hp (by rfl) (by rfl) (by rfl) (by decide) (by rfl) (fun _ => by rfl) (by first | rfl | simp [gdOk, newToks]) ?_
        simp -implicitDefEqProofs only [push_cast, he1, he2, wb, Int.reduceBEq, Int.reduceBNe, Int.reduceEq, Int.reduceNe, Int.reducePow, Nat.reduceAdd, Nat.reduceMul, Nat.reduceSub, Nat.reduceLT, Nat.reduceLeDiff, Nat.reduceEqDiff, Nat.reduceBEq, Int.reduceLT, Int.reduceLE, Int.reduceAdd, Int.reduceSub, Int.reduceMul, Int.reduceToNat, Int.reduceNeg, reduceIte, reduceCtorEq, reduceBEq]
        (repeat (first | refine ⟨by omega, ?_⟩ | refine ⟨by (unfold drawOk; kernel_rfl), ?_⟩))
        refine callE_pure hq (by rfl) (by rfl) (by rfl) (by decide) (by rfl) (fun _ => by rfl) (by first | rfl | simp [gdOk, newToks]) ?_
        simp -implicitDefEqProofs only [push_cast, Int.reduceBEq, Int.reduceBNe, Int.reduceEq, Int.reduceNe, Int.reducePow, Nat.reduceAdd, Nat.reduceMul, Nat.reduceSub, Nat.reduceLT, Nat.reduceLeDiff, Nat.reduceEqDiff, Nat.reduceBEq, Int.reduceLT, Int.reduceLE, Int.reduceAdd, Int.reduceSub, Int.reduceMul, Int.reduceToNat, Int.reduceNeg, reduceIte, reduceCtorEq, reduceBEq]
        cases h2 : (e != 0)
        · have h2' : e = 0 := by simpa using h2
          rw [if_pos h2']
          cases h3 : (n != (s.length : Int))
          · have h3' : (s.length : Int) = n := by simpa using (show n = (s.length : Int) by simpa using h3).symm
            rw [if_pos h3']
            cases h4 : (((s.getD 1 0).toNat : Int) != 0)
            · have h4' : s.getD 1 0 = 0 := by
                simp at h4
                exact UInt8.toNat_inj.1 (by rw [List.getD_eq_getElem?_getD]; simpa using h4)
              rw [if_pos h4']
              cases h5 : (xe != 0)
              · have h5' : xe = 0 := by simpa using h5
                rw [if_pos h5']
                simp -implicitDefEqProofs only [push_cast, h2, h3, h4, htk, Int.reduceBEq, Int.reduceBNe, Int.reduceEq, Int.reduceNe, Int.reducePow, Nat.reduceAdd, Nat.reduceMul, Nat.reduceSub, Nat.reduceLT, Nat.reduceLeDiff, Nat.reduceEqDiff, Nat.reduceBEq, Int.reduceLT, Int.reduceLE, Int.reduceAdd, Int.reduceSub, Int.reduceMul, Int.reduceToNat, Int.reduceNeg, reduceIte, reduceCtorEq, reduceBEq]
                (repeat (first | refine ⟨by omega, ?_⟩ | refine ⟨by (unfold drawOk; kernel_rfl), ?_⟩))
                refine callE_pure hg (by rfl) (by rfl) (by rfl) (by decide) (by rfl) (fun _ => by rfl) (by first | rfl | simp [gdOk, newToks]) ?_
                simp -implicitDefEqProofs only [push_cast, h5, wb, Int.reduceBEq, Int.reduceBNe, Int.reduceEq, Int.reduceNe, Int.reducePow, Nat.reduceAdd, Nat.reduceMul, Nat.reduceSub, Nat.reduceLT, Nat.reduceLeDiff, Nat.reduceEqDiff, Nat.reduceBEq, Int.reduceLT, Int.reduceLE, Int.reduceAdd, Int.reduceSub, Int.reduceMul, Int.reduceToNat, Int.reduceNeg, reduceIte, reduceCtorEq, reduceBEq]
                (repeat (first | refine ⟨by omega, ?_⟩ | refine ⟨by (unfold drawOk; kernel_rfl), ?_⟩))
                exact ⟨_, rfl, by simp [wkL, res2, res1, PV.weak, PV.el, rq0, Rq.pv, ints]⟩
              · have h5' : ¬ xe = 0 := by simpa using h5
                rw [if_neg h5']
                simp -implicitDefEqProofs only [push_cast, h2, h3, h4, htk, Int.reduceBEq, Int.reduceBNe, Int.reduceEq, Int.reduceNe, Int.reducePow, Nat.reduceAdd, Nat.reduceMul, Nat.reduceSub, Nat.reduceLT, Nat.reduceLeDiff, Nat.reduceEqDiff, Nat.reduceBEq, Int.reduceLT, Int.reduceLE, Int.reduceAdd, Int.reduceSub, Int.reduceMul, Int.reduceToNat, Int.reduceNeg, reduceIte, reduceCtorEq, reduceBEq]
                (repeat (first | refine ⟨by omega, ?_⟩ | refine ⟨by (unfold drawOk; kernel_rfl), ?_⟩))
                refine callE_pure hg (by rfl) (by rfl) (by rfl) (by decide) (by rfl) (fun _ => by rfl) (by first | rfl | simp [gdOk, newToks]) ?_
                simp -implicitDefEqProofs only [push_cast, h5, Int.reduceBEq, Int.reduceBNe, Int.reduceEq, Int.reduceNe, Int.reducePow, Nat.reduceAdd, Nat.reduceMul, Nat.reduceSub, Nat.reduceLT, Nat.reduceLeDiff, Nat.reduceEqDiff, Nat.reduceBEq, Int.reduceLT, Int.reduceLE, Int.reduceAdd, Int.reduceSub, Int.reduceMul, Int.reduceToNat, Int.reduceNeg, reduceIte, reduceCtorEq, reduceBEq]
                (repeat (first | refine ⟨by omega, ?_⟩ | refine ⟨by (unfold drawOk; kernel_rfl), ?_⟩))
                exact ⟨_, rfl, by simp [wkL, res2, res1, PV.weak, PV.el, rq0, Rq.pv, ints]⟩
            · have h4' : ¬ s.getD 1 0 = 0 := by
                intro h
                rw [h] at h4; exact absurd h4 (by decide)
              rw [if_neg h4']
              simp -implicitDefEqProofs only [push_cast, h2, h3, h4, Int.reduceBEq, Int.reduceBNe, Int.reduceEq, Int.reduceNe, Int.reducePow, Nat.reduceAdd, Nat.reduceMul, Nat.reduceSub, Nat.reduceLT, Nat.reduceLeDiff, Nat.reduceEqDiff, Nat.reduceBEq, Int.reduceLT, Int.reduceLE, Int.reduceAdd, Int.reduceSub, Int.reduceMul, Int.reduceToNat, Int.reduceNeg, reduceIte, reduceCtorEq, reduceBEq]
              (repeat (first | refine ⟨by omega, ?_⟩ | refine ⟨by (unfold drawOk; kernel_rfl), ?_⟩))
              exact ⟨_, rfl, by simp [wkL, res2, res1, PV.weak, PV.el, rq0, Rq.pv, ints]⟩
          · have h3' : ¬ (s.length : Int) = n := fun h => by rw [h] at h3; simp at h3
            rw [if_neg h3']
            simp -implicitDefEqProofs only [push_cast, h2, h3, Int.reduceBEq, Int.reduceBNe, Int.reduceEq, Int.reduceNe, Int.reducePow, Nat.reduceAdd, Nat.reduceMul, Nat.reduceSub, Nat.reduceLT, Nat.reduceLeDiff, Nat.reduceEqDiff, Nat.reduceBEq, Int.reduceLT, Int.reduceLE, Int.reduceAdd, Int.reduceSub, Int.reduceMul, Int.reduceToNat, Int.reduceNeg, reduceIte, reduceCtorEq, reduceBEq]
            exact ⟨_, rfl, by simp [wkL, res2, res1, PV.weak, PV.el, rq0, Rq.pv, ints]⟩
        · have h2' : ¬ e = 0 := by simpa using h2
          rw [if_neg h2']
          simp -implicitDefEqProofs only [push_cast, h2, Int.reduceBEq, Int.reduceBNe, Int.reduceEq, Int.reduceNe, Int.reducePow, Nat.reduceAdd, Nat.reduceMul, Nat.reduceSub, Nat.reduceLT, Nat.reduceLeDiff, Nat.reduceEqDiff, Nat.reduceBEq, Int.reduceLT, Int.reduceLE, Int.reduceAdd, Int.reduceSub, Int.reduceMul, Int.reduceToNat, Int.reduceNeg, reduceIte, reduceCtorEq, reduceBEq]
          (repeat (first | refine ⟨by omega, ?_⟩ | refine ⟨by (unfold drawOk; kernel_rfl), ?_⟩))
          exact ⟨_, rfl, by simp [wkL, res2, res1, PV.weak, PV.el, rq0, Rq.pv, ints]⟩
    · have h1' : s.length < 4 := by simp at h1; omega
      rw [show getP o s = (rq0, 3) by rw [getP, if_pos ho, if_pos h1']]
      rw [show lenR o s = (0, 3) by rw [lenR, if_pos ho, if_pos h1']] at hp
      (refine Fsp.of (nx := 0) mixed Tryd.func19 rfl (by decide) (by first | exact Nat.le_refl _ | simp) (by simp [Tryd.f19]) ⟨by decide, by decide⟩ ?_; simp -implicitDefEqProofs only [push_cast, Tryd.f19, Int.reduceBEq, Int.reduceBNe, Int.reduceEq, Int.reduceNe, Int.reducePow, Nat.reduceAdd, Nat.reduceMul, Nat.reduceSub, Nat.reduceLT, Nat.reduceLeDiff, Nat.reduceEqDiff, Nat.reduceBEq, Int.reduceLT, Int.reduceLE, Int.reduceAdd, Int.reduceSub, Int.reduceMul, Int.reduceToNat, Int.reduceNeg, reduceIte, reduceCtorEq, reduceBEq])
      refine callE_pure hp (by rfl) (by rfl) (by rfl) (by decide) (by rfl) (fun _ => by rfl) (by first | rfl | simp [gdOk, newToks]) ?_
      simp -implicitDefEqProofs only [push_cast, Int.reduceBEq, Int.reduceBNe, Int.reduceEq, Int.reduceNe, Int.reducePow, Nat.reduceAdd, Nat.reduceMul, Nat.reduceSub, Nat.reduceLT, Nat.reduceLeDiff, Nat.reduceEqDiff, Nat.reduceBEq, Int.reduceLT, Int.reduceLE, Int.reduceAdd, Int.reduceSub, Int.reduceMul, Int.reduceToNat, Int.reduceNeg, reduceIte, reduceCtorEq, reduceBEq]
      (repeat (first | refine ⟨by omega, ?_⟩ | refine ⟨by (unfold drawOk; kernel_rfl), ?_⟩))
      exact ⟨_, rfl, by simp [wkL, res2, res1, PV.weak, PV.el, rq0, Rq.pv, ints]⟩

theorem stB_len (o : Int) (s : List UInt8) (b : Bool) (c : Cu) : (stB o s b c).2.1.length ≤ s.length := by
  unfold stB
  split
  · split
    · split
      · simp
      · simp only [List.length_take, List.length_drop]; omega
    · simp
  · simp
theorem stL_len {o : Int} (ho : isOrder o) {s : List UInt8} (hs : s.length ≤ 1000000) {z : Int} (hz : z = 0 ∨ isSize z) (c : Cu) : (stL o s z c).1.length ≤ 1000000 := by
  unfold stL
  split
  · simp
  · rename_i h0
    have hw := wid_pos (hz.resolve_left h0)
    split
    · split
      · simp
      · rename_i h2
        have hn := num4 (o := o) (s := s) ho c
        generalize num o s 4 c = q at *
        obtain ⟨q1, q2⟩ := q
        simp only at hn h2
        obtain ⟨n, rfl⟩ := Int.eq_ofNat_of_zero_le hn.1
        simp only [nums_length, List.length_replicate, Int.toNat_natCast]
        have h3 : (n : Int) * (wid z : Int) = ((n * wid z : Nat) : Int) := by rw [Int.natCast_mul]
        rw [h3] at h2
        have h4 : n * 1 ≤ n * wid z := Nat.mul_le_mul_left _ hw.1
        omega
    · simp
theorem getF_few {o : Int} (ho : isOrder o) {f : Fm} (h : f.Ok) {s : List UInt8} (hs : s.length ≤ 1000000) : (getF o f s).1.N.length ≤ 1000000 ∧ (getF o f s).1.B.length ≤ 1000000 ∧ (getF o f s).1.L.length ≤ 1000000 := by
  have hb : (body o s f ⟨0, 0⟩).1.N.length ≤ 1000000 ∧ (body o s f ⟨0, 0⟩).1.B.length ≤ 1000000 ∧ (body o s f ⟨0, 0⟩).1.L.length ≤ 1000000 := by
    have hn := h.n
    unfold body
    split
    · refine ⟨?_, ?_, ?_⟩
      · simp only [nums_length]; omega
      · exact Nat.le_trans (stB_len o s _ _) hs
      · exact stL_len ho hs h.l _
    · refine ⟨?_, ?_, ?_⟩
      · simp only [nums_length]; omega
      · simp
      · simp
  unfold getF
  split
  · simp [fd0]
  · split
    · exact hb
    · simp [fd0]
theorem getP_few {o : Int} {s : List UInt8} (hs : s.length ≤ 1000000) : (getP o s).1.Few := by
  have h0 : rq0.Few := ⟨by simp [rq0], by simp [rq0], by simp [rq0]⟩
  unfold getP
  split
  · rename_i ho
    split
    · exact h0
    · split
      · exact h0
      · rename_i f hf
        obtain ⟨hok, -, -⟩ := formOf_some hf
        have hb := getF_few (isOrd_of ho) hok (s := s.drop 4) (by simp; omega)
        unfold getQ
        split
        · split
          · split
            · split
              · exact ⟨hb.1, hb.2.1, hb.2.2⟩
              · exact h0
            · exact h0
          · exact h0
        · exact h0
  · exact h0
set_option maxHeartbeats 4000000 in
theorem packGets_fs (o : Int) (s : List UInt8) : Fsp Tryd.prog 7 [] 0 [.int .i64 o, .str s] [] 0 (.bool true) := by
  cases h1 : decide ((900 : Int) < (s.length : Int))
  · have h1' : s.length ≤ 1000000 := by simp at h1; omega
    have hg := packGet_fs o s h1'
    have hl := lawGet_fs o s h1'
    have hp := packLen_fs o s
    have hr := refLen_fs o s
    have hfew := getP_few (o := o) h1'
    have hsame := packSame_fs (getP o s).1 (getP o s).1 hfew hfew
    rw [sameR_refl] at hsame
    simp only [getPR] at hg hl
    generalize getP o s = G at *
    obtain ⟨⟨c, N, B, L⟩, e⟩ := G
    generalize lenR o s = M at *
    obtain ⟨n, b⟩ := M
    simp only [Rq.pv] at hg hl hsame hp hr
    have hnn : (n != n) = false := by simp
    have hbb : (b != b) = false := by simp
    (refine Fsp.of (nx := 0) mixed Tryd.func7 rfl (by decide) (by first | exact Nat.le_refl _ | simp) (by simp [Tryd.f7]) ⟨by decide, by decide⟩ ?_; simp -implicitDefEqProofs only [push_cast, Tryd.f7, h1, Int.reduceBEq, Int.reduceBNe, Int.reduceEq, Int.reduceNe, Int.reducePow, Nat.reduceAdd, Nat.reduceMul, Nat.reduceSub, Nat.reduceLT, Nat.reduceLeDiff, Nat.reduceEqDiff, Nat.reduceBEq, Int.reduceLT, Int.reduceLE, Int.reduceAdd, Int.reduceSub, Int.reduceMul, Int.reduceToNat, Int.reduceNeg, reduceIte, reduceCtorEq, reduceBEq])
    refine callE_pure hg (by rfl) (by rfl) (by rfl) (by decide) (by rfl) (fun _ => by rfl) (by first | rfl | simp [gdOk, newToks]) ?_
    simp -implicitDefEqProofs only [push_cast, Int.reduceBEq, Int.reduceBNe, Int.reduceEq, Int.reduceNe, Int.reducePow, Nat.reduceAdd, Nat.reduceMul, Nat.reduceSub, Nat.reduceLT, Nat.reduceLeDiff, Nat.reduceEqDiff, Nat.reduceBEq, Int.reduceLT, Int.reduceLE, Int.reduceAdd, Int.reduceSub, Int.reduceMul, Int.reduceToNat, Int.reduceNeg, reduceIte, reduceCtorEq, reduceBEq]
    refine callE_pure hp (by rfl) (by rfl) (by rfl) (by decide) (by rfl) (fun _ => by rfl) (by first | rfl | simp [gdOk, newToks]) ?_
    simp -implicitDefEqProofs only [push_cast, Int.reduceBEq, Int.reduceBNe, Int.reduceEq, Int.reduceNe, Int.reducePow, Nat.reduceAdd, Nat.reduceMul, Nat.reduceSub, Nat.reduceLT, Nat.reduceLeDiff, Nat.reduceEqDiff, Nat.reduceBEq, Int.reduceLT, Int.reduceLE, Int.reduceAdd, Int.reduceSub, Int.reduceMul, Int.reduceToNat, Int.reduceNeg, reduceIte, reduceCtorEq, reduceBEq]
    refine callE_pure hr (by rfl) (by rfl) (by rfl) (by decide) (by rfl) (fun _ => by rfl) (by first | rfl | simp [gdOk, newToks]) ?_
    simp -implicitDefEqProofs only [push_cast, hnn, hbb, Int.reduceBEq, Int.reduceBNe, Int.reduceEq, Int.reduceNe, Int.reducePow, Nat.reduceAdd, Nat.reduceMul, Nat.reduceSub, Nat.reduceLT, Nat.reduceLeDiff, Nat.reduceEqDiff, Nat.reduceBEq, Int.reduceLT, Int.reduceLE, Int.reduceAdd, Int.reduceSub, Int.reduceMul, Int.reduceToNat, Int.reduceNeg, reduceIte, reduceCtorEq, reduceBEq]
    refine callE_pure hl (by rfl) (by rfl) (by rfl) (by decide) (by rfl) (fun _ => by rfl) (by first | rfl | simp [gdOk, newToks]) ?_
    simp -implicitDefEqProofs only [push_cast, Int.reduceBEq, Int.reduceBNe, Int.reduceEq, Int.reduceNe, Int.reducePow, Nat.reduceAdd, Nat.reduceMul, Nat.reduceSub, Nat.reduceLT, Nat.reduceLeDiff, Nat.reduceEqDiff, Nat.reduceBEq, Int.reduceLT, Int.reduceLE, Int.reduceAdd, Int.reduceSub, Int.reduceMul, Int.reduceToNat, Int.reduceNeg, reduceIte, reduceCtorEq, reduceBEq]
    refine callE_pure hsame (by rfl) (by rfl) (by rfl) (by decide) (by rfl) (fun _ => by rfl) (by first | rfl | simp [gdOk, newToks]) ?_
    simp -implicitDefEqProofs only [push_cast, Int.reduceBEq, Int.reduceBNe, Int.reduceEq, Int.reduceNe, Int.reducePow, Nat.reduceAdd, Nat.reduceMul, Nat.reduceSub, Nat.reduceLT, Nat.reduceLeDiff, Nat.reduceEqDiff, Nat.reduceBEq, Int.reduceLT, Int.reduceLE, Int.reduceAdd, Int.reduceSub, Int.reduceMul, Int.reduceToNat, Int.reduceNeg, reduceIte, reduceCtorEq, reduceBEq]
    refine callE_pure awake_fs (by rfl) (by rfl) (by rfl) (by decide) (by rfl) (fun _ => by rfl) (by first | rfl | simp [gdOk, newToks]) ?_
    simp -implicitDefEqProofs only [push_cast, Int.reduceBEq, Int.reduceBNe, Int.reduceEq, Int.reduceNe, Int.reducePow, Nat.reduceAdd, Nat.reduceMul, Nat.reduceSub, Nat.reduceLT, Nat.reduceLeDiff, Nat.reduceEqDiff, Nat.reduceBEq, Int.reduceLT, Int.reduceLE, Int.reduceAdd, Int.reduceSub, Int.reduceMul, Int.reduceToNat, Int.reduceNeg, reduceIte, reduceCtorEq, reduceBEq]
  · (refine Fsp.of (nx := 0) mixed Tryd.func7 rfl (by decide) (by first | exact Nat.le_refl _ | simp) (by simp [Tryd.f7]) ⟨by decide, by decide⟩ ?_; simp -implicitDefEqProofs only [push_cast, Tryd.f7, h1, Int.reduceBEq, Int.reduceBNe, Int.reduceEq, Int.reduceNe, Int.reducePow, Nat.reduceAdd, Nat.reduceMul, Nat.reduceSub, Nat.reduceLT, Nat.reduceLeDiff, Nat.reduceEqDiff, Nat.reduceBEq, Int.reduceLT, Int.reduceLE, Int.reduceAdd, Int.reduceSub, Int.reduceMul, Int.reduceToNat, Int.reduceNeg, reduceIte, reduceCtorEq, reduceBEq])
    refine callE_pure awake_fs (by rfl) (by rfl) (by rfl) (by decide) (by rfl) (fun _ => by rfl) (by first | rfl | simp [gdOk, newToks]) ?_
    simp -implicitDefEqProofs only [push_cast, Int.reduceBEq, Int.reduceBNe, Int.reduceEq, Int.reduceNe, Int.reducePow, Nat.reduceAdd, Nat.reduceMul, Nat.reduceSub, Nat.reduceLT, Nat.reduceLeDiff, Nat.reduceEqDiff, Nat.reduceBEq, Int.reduceLT, Int.reduceLE, Int.reduceAdd, Int.reduceSub, Int.reduceMul, Int.reduceToNat, Int.reduceNeg, reduceIte, reduceCtorEq, reduceBEq]

end Go.Proofs.Sh
