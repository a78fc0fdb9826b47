/- The document's layer 2: Bytes, Fits, Num. -/
import Derived.Test.YtafleenajffpkaaDoorPkOrder
import Derived.Test.YtafleenajffpkaaDoorPvXg
import Derived.Test.YtafleenajffpkaaDoorPkPut
import Derived.Test.YtafleenajffpkaaDoorTlCode
import Derived.Test.YtafleenajffpkaaDoorTlTrip
set_option maxRecDepth 100000
set_option linter.unusedSimpArgs false
set_option linter.unusedVariables false
namespace Go.Proofs.Sh
open Go.Pv

theorem rby1 : Fsp Tryd.prog 50 [] 0 [.int .i64 (1)] [] 0 (.int .i64 1) := run0_fs (by kernel_rfl)
theorem rby2 : Fsp Tryd.prog 50 [] 0 [.int .i64 (2)] [] 0 (.int .i64 2) := run0_fs (by kernel_rfl)
theorem rby4 : Fsp Tryd.prog 50 [] 0 [.int .i64 (4)] [] 0 (.int .i64 4) := run0_fs (by kernel_rfl)
theorem rbym1 : Fsp Tryd.prog 50 [] 0 [.int .i64 (-1)] [] 0 (.int .i64 1) := run0_fs (by kernel_rfl)
theorem rbym2 : Fsp Tryd.prog 50 [] 0 [.int .i64 (-2)] [] 0 (.int .i64 2) := run0_fs (by kernel_rfl)
theorem rbym4 : Fsp Tryd.prog 50 [] 0 [.int .i64 (-4)] [] 0 (.int .i64 4) := run0_fs (by kernel_rfl)
set_option maxHeartbeats 4000000 in
theorem rfi1 (v : Int) : Fsp Tryd.prog 55 [] 0 [.int .i64 (1), .int .i64 v] [] 0 (.bool (fitsN (1) v)) := by
  (refine Fsp.of (nx := 0) mixed Tryd.func55 rfl (by decide) (by first | exact Nat.le_refl _ | simp) (by simp [Tryd.f55]) ⟨by decide, by decide⟩ ?_; simp -implicitDefEqProofs only [push_cast, Tryd.f55, Int.reduceBEq, Int.reduceBNe, Int.reduceEq, Int.reduceNe, Int.reducePow, Nat.reduceAdd, Nat.reduceMul, Nat.reduceSub, Nat.reduceLT, Nat.reduceLeDiff, Nat.reduceEqDiff, Nat.reduceBEq, Int.reduceLT, Int.reduceLE, Int.reduceAdd, Int.reduceSub, Int.reduceMul, Int.reduceToNat, Int.reduceNeg, reduceIte, reduceCtorEq, reduceBEq])
  refine loopC_un 2 ?_
  try simp -implicitDefEqProofs only [push_cast, Int.reduceBEq, Int.reduceBNe, Int.reduceEq, Int.reduceNe, Int.reducePow, Nat.reduceAdd, Nat.reduceMul, Nat.reduceSub, Nat.reduceLT, Nat.reduceLeDiff, Nat.reduceEqDiff, Nat.reduceBEq, Int.reduceLT, Int.reduceLE, Int.reduceAdd, Int.reduceSub, Int.reduceMul, Int.reduceToNat, Int.reduceNeg, reduceIte, reduceCtorEq, reduceBEq]
  refine callE_pure rby1 (by rfl) (by rfl) (by rfl) (by decide) (by rfl) (fun _ => by rfl) (by first | rfl | simp [gdOk, newToks]) ?_
  simp -implicitDefEqProofs only [push_cast, Int.reduceBEq, Int.reduceBNe, Int.reduceEq, Int.reduceNe, Int.reducePow, Nat.reduceAdd, Nat.reduceMul, Nat.reduceSub, Nat.reduceLT, Nat.reduceLeDiff, Nat.reduceEqDiff, Nat.reduceBEq, Int.reduceLT, Int.reduceLE, Int.reduceAdd, Int.reduceSub, Int.reduceMul, Int.reduceToNat, Int.reduceNeg, reduceIte, reduceCtorEq, reduceBEq]
  refine callE_pure rby1 (by rfl) (by rfl) (by rfl) (by decide) (by rfl) (fun _ => by rfl) (by first | rfl | simp [gdOk, newToks]) ?_
  simp -implicitDefEqProofs only [push_cast, Int.reduceBEq, Int.reduceBNe, Int.reduceEq, Int.reduceNe, Int.reducePow, Nat.reduceAdd, Nat.reduceMul, Nat.reduceSub, Nat.reduceLT, Nat.reduceLeDiff, Nat.reduceEqDiff, Nat.reduceBEq, Int.reduceLT, Int.reduceLE, Int.reduceAdd, Int.reduceSub, Int.reduceMul, Int.reduceToNat, Int.reduceNeg, reduceIte, reduceCtorEq, reduceBEq]
  have e : fitsN (1) v = (decide ((0 : Int) ≤ v) && decide (v < 256)) := by
    unfold fitsN
    rw [show low (1) = 0 by decide, show high (1) = 255 by decide]
    congr 1
    rw [decide_eq_decide]
    omega
  rw [e]
set_option maxHeartbeats 4000000 in
theorem rfi2 (v : Int) : Fsp Tryd.prog 55 [] 0 [.int .i64 (2), .int .i64 v] [] 0 (.bool (fitsN (2) v)) := by
  (refine Fsp.of (nx := 0) mixed Tryd.func55 rfl (by decide) (by first | exact Nat.le_refl _ | simp) (by simp [Tryd.f55]) ⟨by decide, by decide⟩ ?_; simp -implicitDefEqProofs only [push_cast, Tryd.f55, Int.reduceBEq, Int.reduceBNe, Int.reduceEq, Int.reduceNe, Int.reducePow, Nat.reduceAdd, Nat.reduceMul, Nat.reduceSub, Nat.reduceLT, Nat.reduceLeDiff, Nat.reduceEqDiff, Nat.reduceBEq, Int.reduceLT, Int.reduceLE, Int.reduceAdd, Int.reduceSub, Int.reduceMul, Int.reduceToNat, Int.reduceNeg, reduceIte, reduceCtorEq, reduceBEq])
  refine loopC_un 3 ?_
  try simp -implicitDefEqProofs only [push_cast, Int.reduceBEq, Int.reduceBNe, Int.reduceEq, Int.reduceNe, Int.reducePow, Nat.reduceAdd, Nat.reduceMul, Nat.reduceSub, Nat.reduceLT, Nat.reduceLeDiff, Nat.reduceEqDiff, Nat.reduceBEq, Int.reduceLT, Int.reduceLE, Int.reduceAdd, Int.reduceSub, Int.reduceMul, Int.reduceToNat, Int.reduceNeg, reduceIte, reduceCtorEq, reduceBEq]
  refine callE_pure rby2 (by rfl) (by rfl) (by rfl) (by decide) (by rfl) (fun _ => by rfl) (by first | rfl | simp [gdOk, newToks]) ?_
  simp -implicitDefEqProofs only [push_cast, Int.reduceBEq, Int.reduceBNe, Int.reduceEq, Int.reduceNe, Int.reducePow, Nat.reduceAdd, Nat.reduceMul, Nat.reduceSub, Nat.reduceLT, Nat.reduceLeDiff, Nat.reduceEqDiff, Nat.reduceBEq, Int.reduceLT, Int.reduceLE, Int.reduceAdd, Int.reduceSub, Int.reduceMul, Int.reduceToNat, Int.reduceNeg, reduceIte, reduceCtorEq, reduceBEq]
  refine callE_pure rby2 (by rfl) (by rfl) (by rfl) (by decide) (by rfl) (fun _ => by rfl) (by first | rfl | simp [gdOk, newToks]) ?_
  simp -implicitDefEqProofs only [push_cast, Int.reduceBEq, Int.reduceBNe, Int.reduceEq, Int.reduceNe, Int.reducePow, Nat.reduceAdd, Nat.reduceMul, Nat.reduceSub, Nat.reduceLT, Nat.reduceLeDiff, Nat.reduceEqDiff, Nat.reduceBEq, Int.reduceLT, Int.reduceLE, Int.reduceAdd, Int.reduceSub, Int.reduceMul, Int.reduceToNat, Int.reduceNeg, reduceIte, reduceCtorEq, reduceBEq]
  refine callE_pure rby2 (by rfl) (by rfl) (by rfl) (by decide) (by rfl) (fun _ => by rfl) (by first | rfl | simp [gdOk, newToks]) ?_
  simp -implicitDefEqProofs only [push_cast, Int.reduceBEq, Int.reduceBNe, Int.reduceEq, Int.reduceNe, Int.reducePow, Nat.reduceAdd, Nat.reduceMul, Nat.reduceSub, Nat.reduceLT, Nat.reduceLeDiff, Nat.reduceEqDiff, Nat.reduceBEq, Int.reduceLT, Int.reduceLE, Int.reduceAdd, Int.reduceSub, Int.reduceMul, Int.reduceToNat, Int.reduceNeg, reduceIte, reduceCtorEq, reduceBEq]
  have e : fitsN (2) v = (decide ((0 : Int) ≤ v) && decide (v < 65536)) := by
    unfold fitsN
    rw [show low (2) = 0 by decide, show high (2) = 65535 by decide]
    congr 1
    rw [decide_eq_decide]
    omega
  rw [e]
set_option maxHeartbeats 4000000 in
theorem rfi4 (v : Int) : Fsp Tryd.prog 55 [] 0 [.int .i64 (4), .int .i64 v] [] 0 (.bool (fitsN (4) v)) := by
  (refine Fsp.of (nx := 0) mixed Tryd.func55 rfl (by decide) (by first | exact Nat.le_refl _ | simp) (by simp [Tryd.f55]) ⟨by decide, by decide⟩ ?_; simp -implicitDefEqProofs only [push_cast, Tryd.f55, Int.reduceBEq, Int.reduceBNe, Int.reduceEq, Int.reduceNe, Int.reducePow, Nat.reduceAdd, Nat.reduceMul, Nat.reduceSub, Nat.reduceLT, Nat.reduceLeDiff, Nat.reduceEqDiff, Nat.reduceBEq, Int.reduceLT, Int.reduceLE, Int.reduceAdd, Int.reduceSub, Int.reduceMul, Int.reduceToNat, Int.reduceNeg, reduceIte, reduceCtorEq, reduceBEq])
  refine loopC_un 5 ?_
  try simp -implicitDefEqProofs only [push_cast, Int.reduceBEq, Int.reduceBNe, Int.reduceEq, Int.reduceNe, Int.reducePow, Nat.reduceAdd, Nat.reduceMul, Nat.reduceSub, Nat.reduceLT, Nat.reduceLeDiff, Nat.reduceEqDiff, Nat.reduceBEq, Int.reduceLT, Int.reduceLE, Int.reduceAdd, Int.reduceSub, Int.reduceMul, Int.reduceToNat, Int.reduceNeg, reduceIte, reduceCtorEq, reduceBEq]
  refine callE_pure rby4 (by rfl) (by rfl) (by rfl) (by decide) (by rfl) (fun _ => by rfl) (by first | rfl | simp [gdOk, newToks]) ?_
  simp -implicitDefEqProofs only [push_cast, Int.reduceBEq, Int.reduceBNe, Int.reduceEq, Int.reduceNe, Int.reducePow, Nat.reduceAdd, Nat.reduceMul, Nat.reduceSub, Nat.reduceLT, Nat.reduceLeDiff, Nat.reduceEqDiff, Nat.reduceBEq, Int.reduceLT, Int.reduceLE, Int.reduceAdd, Int.reduceSub, Int.reduceMul, Int.reduceToNat, Int.reduceNeg, reduceIte, reduceCtorEq, reduceBEq]
  refine callE_pure rby4 (by rfl) (by rfl) (by rfl) (by decide) (by rfl) (fun _ => by rfl) (by first | rfl | simp [gdOk, newToks]) ?_
  simp -implicitDefEqProofs only [push_cast, Int.reduceBEq, Int.reduceBNe, Int.reduceEq, Int.reduceNe, Int.reducePow, Nat.reduceAdd, Nat.reduceMul, Nat.reduceSub, Nat.reduceLT, Nat.reduceLeDiff, Nat.reduceEqDiff, Nat.reduceBEq, Int.reduceLT, Int.reduceLE, Int.reduceAdd, Int.reduceSub, Int.reduceMul, Int.reduceToNat, Int.reduceNeg, reduceIte, reduceCtorEq, reduceBEq]
  refine callE_pure rby4 (by rfl) (by rfl) (by rfl) (by decide) (by rfl) (fun _ => by rfl) (by first | rfl | simp [gdOk, newToks]) ?_
  simp -implicitDefEqProofs only [push_cast, Int.reduceBEq, Int.reduceBNe, Int.reduceEq, Int.reduceNe, Int.reducePow, Nat.reduceAdd, Nat.reduceMul, Nat.reduceSub, Nat.reduceLT, Nat.reduceLeDiff, Nat.reduceEqDiff, Nat.reduceBEq, Int.reduceLT, Int.reduceLE, Int.reduceAdd, Int.reduceSub, Int.reduceMul, Int.reduceToNat, Int.reduceNeg, reduceIte, reduceCtorEq, reduceBEq]
  refine callE_pure rby4 (by rfl) (by rfl) (by rfl) (by decide) (by rfl) (fun _ => by rfl) (by first | rfl | simp [gdOk, newToks]) ?_
  simp -implicitDefEqProofs only [push_cast, Int.reduceBEq, Int.reduceBNe, Int.reduceEq, Int.reduceNe, Int.reducePow, Nat.reduceAdd, Nat.reduceMul, Nat.reduceSub, Nat.reduceLT, Nat.reduceLeDiff, Nat.reduceEqDiff, Nat.reduceBEq, Int.reduceLT, Int.reduceLE, Int.reduceAdd, Int.reduceSub, Int.reduceMul, Int.reduceToNat, Int.reduceNeg, reduceIte, reduceCtorEq, reduceBEq]
  refine callE_pure rby4 (by rfl) (by rfl) (by rfl) (by decide) (by rfl) (fun _ => by rfl) (by first | rfl | simp [gdOk, newToks]) ?_
  simp -implicitDefEqProofs only [push_cast, Int.reduceBEq, Int.reduceBNe, Int.reduceEq, Int.reduceNe, Int.reducePow, Nat.reduceAdd, Nat.reduceMul, Nat.reduceSub, Nat.reduceLT, Nat.reduceLeDiff, Nat.reduceEqDiff, Nat.reduceBEq, Int.reduceLT, Int.reduceLE, Int.reduceAdd, Int.reduceSub, Int.reduceMul, Int.reduceToNat, Int.reduceNeg, reduceIte, reduceCtorEq, reduceBEq]
  have e : fitsN (4) v = (decide ((0 : Int) ≤ v) && decide (v < 4294967296)) := by
    unfold fitsN
    rw [show low (4) = 0 by decide, show high (4) = 4294967295 by decide]
    congr 1
    rw [decide_eq_decide]
    omega
  rw [e]
set_option maxHeartbeats 4000000 in
theorem rfim1 (v : Int) : Fsp Tryd.prog 55 [] 0 [.int .i64 (-1), .int .i64 v] [] 0 (.bool (fitsN (-1) v)) := by
  (refine Fsp.of (nx := 0) mixed Tryd.func55 rfl (by decide) (by first | exact Nat.le_refl _ | simp) (by simp [Tryd.f55]) ⟨by decide, by decide⟩ ?_; simp -implicitDefEqProofs only [push_cast, Tryd.f55, Int.reduceBEq, Int.reduceBNe, Int.reduceEq, Int.reduceNe, Int.reducePow, Nat.reduceAdd, Nat.reduceMul, Nat.reduceSub, Nat.reduceLT, Nat.reduceLeDiff, Nat.reduceEqDiff, Nat.reduceBEq, Int.reduceLT, Int.reduceLE, Int.reduceAdd, Int.reduceSub, Int.reduceMul, Int.reduceToNat, Int.reduceNeg, reduceIte, reduceCtorEq, reduceBEq])
  refine loopC_un 2 ?_
  try simp -implicitDefEqProofs only [push_cast, Int.reduceBEq, Int.reduceBNe, Int.reduceEq, Int.reduceNe, Int.reducePow, Nat.reduceAdd, Nat.reduceMul, Nat.reduceSub, Nat.reduceLT, Nat.reduceLeDiff, Nat.reduceEqDiff, Nat.reduceBEq, Int.reduceLT, Int.reduceLE, Int.reduceAdd, Int.reduceSub, Int.reduceMul, Int.reduceToNat, Int.reduceNeg, reduceIte, reduceCtorEq, reduceBEq]
  refine callE_pure rbym1 (by rfl) (by rfl) (by rfl) (by decide) (by rfl) (fun _ => by rfl) (by first | rfl | simp [gdOk, newToks]) ?_
  simp -implicitDefEqProofs only [push_cast, Int.reduceBEq, Int.reduceBNe, Int.reduceEq, Int.reduceNe, Int.reducePow, Nat.reduceAdd, Nat.reduceMul, Nat.reduceSub, Nat.reduceLT, Nat.reduceLeDiff, Nat.reduceEqDiff, Nat.reduceBEq, Int.reduceLT, Int.reduceLE, Int.reduceAdd, Int.reduceSub, Int.reduceMul, Int.reduceToNat, Int.reduceNeg, reduceIte, reduceCtorEq, reduceBEq]
  refine callE_pure rbym1 (by rfl) (by rfl) (by rfl) (by decide) (by rfl) (fun _ => by rfl) (by first | rfl | simp [gdOk, newToks]) ?_
  simp -implicitDefEqProofs only [push_cast, Int.reduceBEq, Int.reduceBNe, Int.reduceEq, Int.reduceNe, Int.reducePow, Nat.reduceAdd, Nat.reduceMul, Nat.reduceSub, Nat.reduceLT, Nat.reduceLeDiff, Nat.reduceEqDiff, Nat.reduceBEq, Int.reduceLT, Int.reduceLE, Int.reduceAdd, Int.reduceSub, Int.reduceMul, Int.reduceToNat, Int.reduceNeg, reduceIte, reduceCtorEq, reduceBEq]
  have e : fitsN (-1) v = (decide ((-128 : Int) ≤ v) && decide (v < 128)) := by
    unfold fitsN
    rw [show low (-1) = -128 by decide, show high (-1) = 127 by decide]
    congr 1
    rw [decide_eq_decide]
    omega
  rw [e]
  rw [show IntKind.i64.wrap ((-256 : Int).tdiv 2) = -128 by decide, show IntKind.i64.wrap (Int.tdiv 256 2) = 128 by decide]
set_option maxHeartbeats 4000000 in
theorem rfim2 (v : Int) : Fsp Tryd.prog 55 [] 0 [.int .i64 (-2), .int .i64 v] [] 0 (.bool (fitsN (-2) v)) := by
  (refine Fsp.of (nx := 0) mixed Tryd.func55 rfl (by decide) (by first | exact Nat.le_refl _ | simp) (by simp [Tryd.f55]) ⟨by decide, by decide⟩ ?_; simp -implicitDefEqProofs only [push_cast, Tryd.f55, Int.reduceBEq, Int.reduceBNe, Int.reduceEq, Int.reduceNe, Int.reducePow, Nat.reduceAdd, Nat.reduceMul, Nat.reduceSub, Nat.reduceLT, Nat.reduceLeDiff, Nat.reduceEqDiff, Nat.reduceBEq, Int.reduceLT, Int.reduceLE, Int.reduceAdd, Int.reduceSub, Int.reduceMul, Int.reduceToNat, Int.reduceNeg, reduceIte, reduceCtorEq, reduceBEq])
  refine loopC_un 3 ?_
  try simp -implicitDefEqProofs only [push_cast, Int.reduceBEq, Int.reduceBNe, Int.reduceEq, Int.reduceNe, Int.reducePow, Nat.reduceAdd, Nat.reduceMul, Nat.reduceSub, Nat.reduceLT, Nat.reduceLeDiff, Nat.reduceEqDiff, Nat.reduceBEq, Int.reduceLT, Int.reduceLE, Int.reduceAdd, Int.reduceSub, Int.reduceMul, Int.reduceToNat, Int.reduceNeg, reduceIte, reduceCtorEq, reduceBEq]
  refine callE_pure rbym2 (by rfl) (by rfl) (by rfl) (by decide) (by rfl) (fun _ => by rfl) (by first | rfl | simp [gdOk, newToks]) ?_
  simp -implicitDefEqProofs only [push_cast, Int.reduceBEq, Int.reduceBNe, Int.reduceEq, Int.reduceNe, Int.reducePow, Nat.reduceAdd, Nat.reduceMul, Nat.reduceSub, Nat.reduceLT, Nat.reduceLeDiff, Nat.reduceEqDiff, Nat.reduceBEq, Int.reduceLT, Int.reduceLE, Int.reduceAdd, Int.reduceSub, Int.reduceMul, Int.reduceToNat, Int.reduceNeg, reduceIte, reduceCtorEq, reduceBEq]
  refine callE_pure rbym2 (by rfl) (by rfl) (by rfl) (by decide) (by rfl) (fun _ => by rfl) (by first | rfl | simp [gdOk, newToks]) ?_
  simp -implicitDefEqProofs only [push_cast, Int.reduceBEq, Int.reduceBNe, Int.reduceEq, Int.reduceNe, Int.reducePow, Nat.reduceAdd, Nat.reduceMul, Nat.reduceSub, Nat.reduceLT, Nat.reduceLeDiff, Nat.reduceEqDiff, Nat.reduceBEq, Int.reduceLT, Int.reduceLE, Int.reduceAdd, Int.reduceSub, Int.reduceMul, Int.reduceToNat, Int.reduceNeg, reduceIte, reduceCtorEq, reduceBEq]
  refine callE_pure rbym2 (by rfl) (by rfl) (by rfl) (by decide) (by rfl) (fun _ => by rfl) (by first | rfl | simp [gdOk, newToks]) ?_
  simp -implicitDefEqProofs only [push_cast, Int.reduceBEq, Int.reduceBNe, Int.reduceEq, Int.reduceNe, Int.reducePow, Nat.reduceAdd, Nat.reduceMul, Nat.reduceSub, Nat.reduceLT, Nat.reduceLeDiff, Nat.reduceEqDiff, Nat.reduceBEq, Int.reduceLT, Int.reduceLE, Int.reduceAdd, Int.reduceSub, Int.reduceMul, Int.reduceToNat, Int.reduceNeg, reduceIte, reduceCtorEq, reduceBEq]
  have e : fitsN (-2) v = (decide ((-32768 : Int) ≤ v) && decide (v < 32768)) := by
    unfold fitsN
    rw [show low (-2) = -32768 by decide, show high (-2) = 32767 by decide]
    congr 1
    rw [decide_eq_decide]
    omega
  rw [e]
  rw [show IntKind.i64.wrap ((-65536 : Int).tdiv 2) = -32768 by decide, show IntKind.i64.wrap (Int.tdiv 65536 2) = 32768 by decide]
set_option maxHeartbeats 4000000 in
theorem rfim4 (v : Int) : Fsp Tryd.prog 55 [] 0 [.int .i64 (-4), .int .i64 v] [] 0 (.bool (fitsN (-4) v)) := by
  (refine Fsp.of (nx := 0) mixed Tryd.func55 rfl (by decide) (by first | exact Nat.le_refl _ | simp) (by simp [Tryd.f55]) ⟨by decide, by decide⟩ ?_; simp -implicitDefEqProofs only [push_cast, Tryd.f55, Int.reduceBEq, Int.reduceBNe, Int.reduceEq, Int.reduceNe, Int.reducePow, Nat.reduceAdd, Nat.reduceMul, Nat.reduceSub, Nat.reduceLT, Nat.reduceLeDiff, Nat.reduceEqDiff, Nat.reduceBEq, Int.reduceLT, Int.reduceLE, Int.reduceAdd, Int.reduceSub, Int.reduceMul, Int.reduceToNat, Int.reduceNeg, reduceIte, reduceCtorEq, reduceBEq])
  refine loopC_un 5 ?_
  try simp -implicitDefEqProofs only [push_cast, Int.reduceBEq, Int.reduceBNe, Int.reduceEq, Int.reduceNe, Int.reducePow, Nat.reduceAdd, Nat.reduceMul, Nat.reduceSub, Nat.reduceLT, Nat.reduceLeDiff, Nat.reduceEqDiff, Nat.reduceBEq, Int.reduceLT, Int.reduceLE, Int.reduceAdd, Int.reduceSub, Int.reduceMul, Int.reduceToNat, Int.reduceNeg, reduceIte, reduceCtorEq, reduceBEq]
  refine callE_pure rbym4 (by rfl) (by rfl) (by rfl) (by decide) (by rfl) (fun _ => by rfl) (by first | rfl | simp [gdOk, newToks]) ?_
  simp -implicitDefEqProofs only [push_cast, Int.reduceBEq, Int.reduceBNe, Int.reduceEq, Int.reduceNe, Int.reducePow, Nat.reduceAdd, Nat.reduceMul, Nat.reduceSub, Nat.reduceLT, Nat.reduceLeDiff, Nat.reduceEqDiff, Nat.reduceBEq, Int.reduceLT, Int.reduceLE, Int.reduceAdd, Int.reduceSub, Int.reduceMul, Int.reduceToNat, Int.reduceNeg, reduceIte, reduceCtorEq, reduceBEq]
  refine callE_pure rbym4 (by rfl) (by rfl) (by rfl) (by decide) (by rfl) (fun _ => by rfl) (by first | rfl | simp [gdOk, newToks]) ?_
  simp -implicitDefEqProofs only [push_cast, Int.reduceBEq, Int.reduceBNe, Int.reduceEq, Int.reduceNe, Int.reducePow, Nat.reduceAdd, Nat.reduceMul, Nat.reduceSub, Nat.reduceLT, Nat.reduceLeDiff, Nat.reduceEqDiff, Nat.reduceBEq, Int.reduceLT, Int.reduceLE, Int.reduceAdd, Int.reduceSub, Int.reduceMul, Int.reduceToNat, Int.reduceNeg, reduceIte, reduceCtorEq, reduceBEq]
  refine callE_pure rbym4 (by rfl) (by rfl) (by rfl) (by decide) (by rfl) (fun _ => by rfl) (by first | rfl | simp [gdOk, newToks]) ?_
  simp -implicitDefEqProofs only [push_cast, Int.reduceBEq, Int.reduceBNe, Int.reduceEq, Int.reduceNe, Int.reducePow, Nat.reduceAdd, Nat.reduceMul, Nat.reduceSub, Nat.reduceLT, Nat.reduceLeDiff, Nat.reduceEqDiff, Nat.reduceBEq, Int.reduceLT, Int.reduceLE, Int.reduceAdd, Int.reduceSub, Int.reduceMul, Int.reduceToNat, Int.reduceNeg, reduceIte, reduceCtorEq, reduceBEq]
  refine callE_pure rbym4 (by rfl) (by rfl) (by rfl) (by decide) (by rfl) (fun _ => by rfl) (by first | rfl | simp [gdOk, newToks]) ?_
  simp -implicitDefEqProofs only [push_cast, Int.reduceBEq, Int.reduceBNe, Int.reduceEq, Int.reduceNe, Int.reducePow, Nat.reduceAdd, Nat.reduceMul, Nat.reduceSub, Nat.reduceLT, Nat.reduceLeDiff, Nat.reduceEqDiff, Nat.reduceBEq, Int.reduceLT, Int.reduceLE, Int.reduceAdd, Int.reduceSub, Int.reduceMul, Int.reduceToNat, Int.reduceNeg, reduceIte, reduceCtorEq, reduceBEq]
  refine callE_pure rbym4 (by rfl) (by rfl) (by rfl) (by decide) (by rfl) (fun _ => by rfl) (by first | rfl | simp [gdOk, newToks]) ?_
  simp -implicitDefEqProofs only [push_cast, Int.reduceBEq, Int.reduceBNe, Int.reduceEq, Int.reduceNe, Int.reducePow, Nat.reduceAdd, Nat.reduceMul, Nat.reduceSub, Nat.reduceLT, Nat.reduceLeDiff, Nat.reduceEqDiff, Nat.reduceBEq, Int.reduceLT, Int.reduceLE, Int.reduceAdd, Int.reduceSub, Int.reduceMul, Int.reduceToNat, Int.reduceNeg, reduceIte, reduceCtorEq, reduceBEq]
  have e : fitsN (-4) v = (decide ((-2147483648 : Int) ≤ v) && decide (v < 2147483648)) := by
    unfold fitsN
    rw [show low (-4) = -2147483648 by decide, show high (-4) = 2147483647 by decide]
    congr 1
    rw [decide_eq_decide]
    omega
  rw [e]
  rw [show IntKind.i64.wrap ((-4294967296 : Int).tdiv 2) = -2147483648 by decide, show IntKind.i64.wrap (Int.tdiv 4294967296 2) = 2147483648 by decide]
theorem rfits_fs {s : Int} (hs : isSize s) (v : Int) : Fsp Tryd.prog 55 [] 0 [.int .i64 s, .int .i64 v] [] 0 (.bool (fitsN s v)) := by
  rcases hs with rfl | rfl | rfl | rfl | rfl | rfl
  · exact rfi1 v
  · exact rfi2 v
  · exact rfi4 v
  · exact rfim1 v
  · exact rfim2 v
  · exact rfim4 v
theorem nb8 {x v : Int} (k : Nat) (hx : 0 ≤ x) (h : x % 256 = (v / 256 ^ k) % 256) : UInt8.ofNat (IntKind.u8.wrap (x.tmod 256)).toNat = byteAt v k := by
  rw [Int.tmod_eq_emod_of_nonneg hx, wrap_u8]
  unfold byteAt
  rw [← h]
  congr 2
  omega
theorem dv8 (x : Int) (h0 : 0 ≤ x) (h1 : x ≤ 100000000000) : IntKind.i64.wrap (x.tdiv 256) = x / 256 := by
  rw [Int.tdiv_eq_ediv_of_nonneg h0, wrap_i64_id (by omega) (by omega)]
set_option maxHeartbeats 8000000 in
theorem rnu1_0 (v : Int) (h : fitsN (1) v = true) : Fsp Tryd.prog 33 [] 0 [.int .i64 0, .int .i64 (1), .int .i64 v] [] 0 (.str (encB 0 1 v)) := by
  have hv : 0 ≤ v ∧ v < 256 := by
    unfold fitsN at h
    rw [show low (1) = 0 by decide, show high (1) = 255 by decide] at h
    simp at h
    omega
  (refine Fsp.of (nx := 0) mixed Tryd.func33 rfl (by decide) (by first | exact Nat.le_refl _ | simp) (by simp [Tryd.f33]) ⟨by decide, by decide⟩ ?_; simp -implicitDefEqProofs only [push_cast, Tryd.f33, Int.reduceBEq, Int.reduceBNe, Int.reduceEq, Int.reduceNe, Int.reducePow, Nat.reduceAdd, Nat.reduceMul, Nat.reduceSub, Nat.reduceLT, Nat.reduceLeDiff, Nat.reduceEqDiff, Nat.reduceBEq, Int.reduceLT, Int.reduceLE, Int.reduceAdd, Int.reduceSub, Int.reduceMul, Int.reduceToNat, Int.reduceNeg, reduceIte, reduceCtorEq, reduceBEq])
  refine callE_pure rby1 (by rfl) (by rfl) (by rfl) (by decide) (by rfl) (fun _ => by rfl) (by first | rfl | simp [gdOk, newToks]) ?_
  simp -implicitDefEqProofs only [push_cast, Int.reduceBEq, Int.reduceBNe, Int.reduceEq, Int.reduceNe, Int.reducePow, Nat.reduceAdd, Nat.reduceMul, Nat.reduceSub, Nat.reduceLT, Nat.reduceLeDiff, Nat.reduceEqDiff, Nat.reduceBEq, Int.reduceLT, Int.reduceLE, Int.reduceAdd, Int.reduceSub, Int.reduceMul, Int.reduceToNat, Int.reduceNeg, reduceIte, reduceCtorEq, reduceBEq]
  refine condC_split (fun h2 => ?_) (fun h2 => ?_)
  · exact absurd (of_decide_eq_true h2) (by omega)
  · simp -implicitDefEqProofs only [push_cast, Int.reduceBEq, Int.reduceBNe, Int.reduceEq, Int.reduceNe, Int.reducePow, Nat.reduceAdd, Nat.reduceMul, Nat.reduceSub, Nat.reduceLT, Nat.reduceLeDiff, Nat.reduceEqDiff, Nat.reduceBEq, Int.reduceLT, Int.reduceLE, Int.reduceAdd, Int.reduceSub, Int.reduceMul, Int.reduceToNat, Int.reduceNeg, reduceIte, reduceCtorEq, reduceBEq]
    refine callE_mk rfl (by rfl) (by rfl) tk_74 (sz := 1) tsz_5 (by decide) zc_5 rfl (by decide) (by decide) (by rw [show tby Tryd.prog 5 = 1 by kernel_rfl]; decide) (by decide) (by rfl) ?_
    simp -implicitDefEqProofs only [push_cast, Int.reduceBEq, Int.reduceBNe, Int.reduceEq, Int.reduceNe, Int.reducePow, Nat.reduceAdd, Nat.reduceMul, Nat.reduceSub, Nat.reduceLT, Nat.reduceLeDiff, Nat.reduceEqDiff, Nat.reduceBEq, Int.reduceLT, Int.reduceLE, Int.reduceAdd, Int.reduceSub, Int.reduceMul, Int.reduceToNat, Int.reduceNeg, reduceIte, reduceCtorEq, reduceBEq]
    refine loopC_un 2 ?_
    simp -implicitDefEqProofs only [push_cast, Int.reduceBEq, Int.reduceBNe, Int.reduceEq, Int.reduceNe, Int.reducePow, Nat.reduceAdd, Nat.reduceMul, Nat.reduceSub, Nat.reduceLT, Nat.reduceLeDiff, Nat.reduceEqDiff, Nat.reduceBEq, Int.reduceLT, Int.reduceLE, Int.reduceAdd, Int.reduceSub, Int.reduceMul, Int.reduceToNat, Int.reduceNeg, reduceIte, reduceCtorEq, reduceBEq]
    (repeat (refine ⟨by simp [isByte], ?_⟩))
    have hs : 0 ≤ v := by have := of_decide_eq_false h2; omega
    show _ = [byteAt v 0]
    skip
    rw [nb8 (x := (v)) (v := v) 0 (by omega) (by omega)]
set_option maxHeartbeats 8000000 in
theorem rnu1_1 (v : Int) (h : fitsN (1) v = true) : Fsp Tryd.prog 33 [] 0 [.int .i64 1, .int .i64 (1), .int .i64 v] [] 0 (.str (encB 1 1 v)) := by
  have hv : 0 ≤ v ∧ v < 256 := by
    unfold fitsN at h
    rw [show low (1) = 0 by decide, show high (1) = 255 by decide] at h
    simp at h
    omega
  (refine Fsp.of (nx := 0) mixed Tryd.func33 rfl (by decide) (by first | exact Nat.le_refl _ | simp) (by simp [Tryd.f33]) ⟨by decide, by decide⟩ ?_; simp -implicitDefEqProofs only [push_cast, Tryd.f33, Int.reduceBEq, Int.reduceBNe, Int.reduceEq, Int.reduceNe, Int.reducePow, Nat.reduceAdd, Nat.reduceMul, Nat.reduceSub, Nat.reduceLT, Nat.reduceLeDiff, Nat.reduceEqDiff, Nat.reduceBEq, Int.reduceLT, Int.reduceLE, Int.reduceAdd, Int.reduceSub, Int.reduceMul, Int.reduceToNat, Int.reduceNeg, reduceIte, reduceCtorEq, reduceBEq])
  refine callE_pure rby1 (by rfl) (by rfl) (by rfl) (by decide) (by rfl) (fun _ => by rfl) (by first | rfl | simp [gdOk, newToks]) ?_
  simp -implicitDefEqProofs only [push_cast, Int.reduceBEq, Int.reduceBNe, Int.reduceEq, Int.reduceNe, Int.reducePow, Nat.reduceAdd, Nat.reduceMul, Nat.reduceSub, Nat.reduceLT, Nat.reduceLeDiff, Nat.reduceEqDiff, Nat.reduceBEq, Int.reduceLT, Int.reduceLE, Int.reduceAdd, Int.reduceSub, Int.reduceMul, Int.reduceToNat, Int.reduceNeg, reduceIte, reduceCtorEq, reduceBEq]
  refine condC_split (fun h2 => ?_) (fun h2 => ?_)
  · exact absurd (of_decide_eq_true h2) (by omega)
  · simp -implicitDefEqProofs only [push_cast, Int.reduceBEq, Int.reduceBNe, Int.reduceEq, Int.reduceNe, Int.reducePow, Nat.reduceAdd, Nat.reduceMul, Nat.reduceSub, Nat.reduceLT, Nat.reduceLeDiff, Nat.reduceEqDiff, Nat.reduceBEq, Int.reduceLT, Int.reduceLE, Int.reduceAdd, Int.reduceSub, Int.reduceMul, Int.reduceToNat, Int.reduceNeg, reduceIte, reduceCtorEq, reduceBEq]
    refine callE_mk rfl (by rfl) (by rfl) tk_74 (sz := 1) tsz_5 (by decide) zc_5 rfl (by decide) (by decide) (by rw [show tby Tryd.prog 5 = 1 by kernel_rfl]; decide) (by decide) (by rfl) ?_
    simp -implicitDefEqProofs only [push_cast, Int.reduceBEq, Int.reduceBNe, Int.reduceEq, Int.reduceNe, Int.reducePow, Nat.reduceAdd, Nat.reduceMul, Nat.reduceSub, Nat.reduceLT, Nat.reduceLeDiff, Nat.reduceEqDiff, Nat.reduceBEq, Int.reduceLT, Int.reduceLE, Int.reduceAdd, Int.reduceSub, Int.reduceMul, Int.reduceToNat, Int.reduceNeg, reduceIte, reduceCtorEq, reduceBEq]
    refine loopC_un 2 ?_
    simp -implicitDefEqProofs only [push_cast, Int.reduceBEq, Int.reduceBNe, Int.reduceEq, Int.reduceNe, Int.reducePow, Nat.reduceAdd, Nat.reduceMul, Nat.reduceSub, Nat.reduceLT, Nat.reduceLeDiff, Nat.reduceEqDiff, Nat.reduceBEq, Int.reduceLT, Int.reduceLE, Int.reduceAdd, Int.reduceSub, Int.reduceMul, Int.reduceToNat, Int.reduceNeg, reduceIte, reduceCtorEq, reduceBEq]
    (repeat (refine ⟨by simp [isByte], ?_⟩))
    have hs : 0 ≤ v := by have := of_decide_eq_false h2; omega
    show _ = [byteAt v 0]
    try simp only [List.replicate, List.flatten_cons, List.flatten_nil, List.nil_append, List.cons_append, List.append_nil, List.take_succ_cons, List.take_zero, List.drop_succ_cons, List.drop_zero, List.map_cons, List.map_nil, Pv.byteOf]
    rw [nb8 (x := (v)) (v := v) 0 (by omega) (by omega)]
set_option maxHeartbeats 8000000 in
theorem rnu2_0 (v : Int) (h : fitsN (2) v = true) : Fsp Tryd.prog 33 [] 0 [.int .i64 0, .int .i64 (2), .int .i64 v] [] 0 (.str (encB 0 2 v)) := by
  have hv : 0 ≤ v ∧ v < 65536 := by
    unfold fitsN at h
    rw [show low (2) = 0 by decide, show high (2) = 65535 by decide] at h
    simp at h
    omega
  (refine Fsp.of (nx := 0) mixed Tryd.func33 rfl (by decide) (by first | exact Nat.le_refl _ | simp) (by simp [Tryd.f33]) ⟨by decide, by decide⟩ ?_; simp -implicitDefEqProofs only [push_cast, Tryd.f33, Int.reduceBEq, Int.reduceBNe, Int.reduceEq, Int.reduceNe, Int.reducePow, Nat.reduceAdd, Nat.reduceMul, Nat.reduceSub, Nat.reduceLT, Nat.reduceLeDiff, Nat.reduceEqDiff, Nat.reduceBEq, Int.reduceLT, Int.reduceLE, Int.reduceAdd, Int.reduceSub, Int.reduceMul, Int.reduceToNat, Int.reduceNeg, reduceIte, reduceCtorEq, reduceBEq])
  refine callE_pure rby2 (by rfl) (by rfl) (by rfl) (by decide) (by rfl) (fun _ => by rfl) (by first | rfl | simp [gdOk, newToks]) ?_
  simp -implicitDefEqProofs only [push_cast, Int.reduceBEq, Int.reduceBNe, Int.reduceEq, Int.reduceNe, Int.reducePow, Nat.reduceAdd, Nat.reduceMul, Nat.reduceSub, Nat.reduceLT, Nat.reduceLeDiff, Nat.reduceEqDiff, Nat.reduceBEq, Int.reduceLT, Int.reduceLE, Int.reduceAdd, Int.reduceSub, Int.reduceMul, Int.reduceToNat, Int.reduceNeg, reduceIte, reduceCtorEq, reduceBEq]
  refine condC_split (fun h2 => ?_) (fun h2 => ?_)
  · exact absurd (of_decide_eq_true h2) (by omega)
  · simp -implicitDefEqProofs only [push_cast, Int.reduceBEq, Int.reduceBNe, Int.reduceEq, Int.reduceNe, Int.reducePow, Nat.reduceAdd, Nat.reduceMul, Nat.reduceSub, Nat.reduceLT, Nat.reduceLeDiff, Nat.reduceEqDiff, Nat.reduceBEq, Int.reduceLT, Int.reduceLE, Int.reduceAdd, Int.reduceSub, Int.reduceMul, Int.reduceToNat, Int.reduceNeg, reduceIte, reduceCtorEq, reduceBEq]
    refine callE_mk rfl (by rfl) (by rfl) tk_74 (sz := 1) tsz_5 (by decide) zc_5 rfl (by decide) (by decide) (by rw [show tby Tryd.prog 5 = 1 by kernel_rfl]; decide) (by decide) (by rfl) ?_
    simp -implicitDefEqProofs only [push_cast, Int.reduceBEq, Int.reduceBNe, Int.reduceEq, Int.reduceNe, Int.reducePow, Nat.reduceAdd, Nat.reduceMul, Nat.reduceSub, Nat.reduceLT, Nat.reduceLeDiff, Nat.reduceEqDiff, Nat.reduceBEq, Int.reduceLT, Int.reduceLE, Int.reduceAdd, Int.reduceSub, Int.reduceMul, Int.reduceToNat, Int.reduceNeg, reduceIte, reduceCtorEq, reduceBEq]
    refine loopC_un 3 ?_
    simp -implicitDefEqProofs only [push_cast, Int.reduceBEq, Int.reduceBNe, Int.reduceEq, Int.reduceNe, Int.reducePow, Nat.reduceAdd, Nat.reduceMul, Nat.reduceSub, Nat.reduceLT, Nat.reduceLeDiff, Nat.reduceEqDiff, Nat.reduceBEq, Int.reduceLT, Int.reduceLE, Int.reduceAdd, Int.reduceSub, Int.reduceMul, Int.reduceToNat, Int.reduceNeg, reduceIte, reduceCtorEq, reduceBEq]
    (repeat (refine ⟨by simp [isByte], ?_⟩))
    have hs : 0 ≤ v := by have := of_decide_eq_false h2; omega
    rw [dv8 ((v)) (by omega) (by omega)]
    show _ = [byteAt v 0, byteAt v 1]
    skip
    rw [nb8 (x := (v)) (v := v) 0 (by omega) (by omega), nb8 (x := (v) / 256) (v := v) 1 (by omega) (by omega)]
set_option maxHeartbeats 8000000 in
theorem rnu2_1 (v : Int) (h : fitsN (2) v = true) : Fsp Tryd.prog 33 [] 0 [.int .i64 1, .int .i64 (2), .int .i64 v] [] 0 (.str (encB 1 2 v)) := by
  have hv : 0 ≤ v ∧ v < 65536 := by
    unfold fitsN at h
    rw [show low (2) = 0 by decide, show high (2) = 65535 by decide] at h
    simp at h
    omega
  (refine Fsp.of (nx := 0) mixed Tryd.func33 rfl (by decide) (by first | exact Nat.le_refl _ | simp) (by simp [Tryd.f33]) ⟨by decide, by decide⟩ ?_; simp -implicitDefEqProofs only [push_cast, Tryd.f33, Int.reduceBEq, Int.reduceBNe, Int.reduceEq, Int.reduceNe, Int.reducePow, Nat.reduceAdd, Nat.reduceMul, Nat.reduceSub, Nat.reduceLT, Nat.reduceLeDiff, Nat.reduceEqDiff, Nat.reduceBEq, Int.reduceLT, Int.reduceLE, Int.reduceAdd, Int.reduceSub, Int.reduceMul, Int.reduceToNat, Int.reduceNeg, reduceIte, reduceCtorEq, reduceBEq])
  refine callE_pure rby2 (by rfl) (by rfl) (by rfl) (by decide) (by rfl) (fun _ => by rfl) (by first | rfl | simp [gdOk, newToks]) ?_
  simp -implicitDefEqProofs only [push_cast, Int.reduceBEq, Int.reduceBNe, Int.reduceEq, Int.reduceNe, Int.reducePow, Nat.reduceAdd, Nat.reduceMul, Nat.reduceSub, Nat.reduceLT, Nat.reduceLeDiff, Nat.reduceEqDiff, Nat.reduceBEq, Int.reduceLT, Int.reduceLE, Int.reduceAdd, Int.reduceSub, Int.reduceMul, Int.reduceToNat, Int.reduceNeg, reduceIte, reduceCtorEq, reduceBEq]
  refine condC_split (fun h2 => ?_) (fun h2 => ?_)
  · exact absurd (of_decide_eq_true h2) (by omega)
  · simp -implicitDefEqProofs only [push_cast, Int.reduceBEq, Int.reduceBNe, Int.reduceEq, Int.reduceNe, Int.reducePow, Nat.reduceAdd, Nat.reduceMul, Nat.reduceSub, Nat.reduceLT, Nat.reduceLeDiff, Nat.reduceEqDiff, Nat.reduceBEq, Int.reduceLT, Int.reduceLE, Int.reduceAdd, Int.reduceSub, Int.reduceMul, Int.reduceToNat, Int.reduceNeg, reduceIte, reduceCtorEq, reduceBEq]
    refine callE_mk rfl (by rfl) (by rfl) tk_74 (sz := 1) tsz_5 (by decide) zc_5 rfl (by decide) (by decide) (by rw [show tby Tryd.prog 5 = 1 by kernel_rfl]; decide) (by decide) (by rfl) ?_
    simp -implicitDefEqProofs only [push_cast, Int.reduceBEq, Int.reduceBNe, Int.reduceEq, Int.reduceNe, Int.reducePow, Nat.reduceAdd, Nat.reduceMul, Nat.reduceSub, Nat.reduceLT, Nat.reduceLeDiff, Nat.reduceEqDiff, Nat.reduceBEq, Int.reduceLT, Int.reduceLE, Int.reduceAdd, Int.reduceSub, Int.reduceMul, Int.reduceToNat, Int.reduceNeg, reduceIte, reduceCtorEq, reduceBEq]
    refine loopC_un 3 ?_
    simp -implicitDefEqProofs only [push_cast, Int.reduceBEq, Int.reduceBNe, Int.reduceEq, Int.reduceNe, Int.reducePow, Nat.reduceAdd, Nat.reduceMul, Nat.reduceSub, Nat.reduceLT, Nat.reduceLeDiff, Nat.reduceEqDiff, Nat.reduceBEq, Int.reduceLT, Int.reduceLE, Int.reduceAdd, Int.reduceSub, Int.reduceMul, Int.reduceToNat, Int.reduceNeg, reduceIte, reduceCtorEq, reduceBEq]
    (repeat (refine ⟨by simp [isByte], ?_⟩))
    have hs : 0 ≤ v := by have := of_decide_eq_false h2; omega
    rw [dv8 ((v)) (by omega) (by omega)]
    show _ = [byteAt v 1, byteAt v 0]
    try simp only [List.replicate, List.flatten_cons, List.flatten_nil, List.nil_append, List.cons_append, List.append_nil, List.take_succ_cons, List.take_zero, List.drop_succ_cons, List.drop_zero, List.map_cons, List.map_nil, Pv.byteOf]
    rw [nb8 (x := (v)) (v := v) 0 (by omega) (by omega), nb8 (x := (v) / 256) (v := v) 1 (by omega) (by omega)]
set_option maxHeartbeats 8000000 in
theorem rnu4_0 (v : Int) (h : fitsN (4) v = true) : Fsp Tryd.prog 33 [] 0 [.int .i64 0, .int .i64 (4), .int .i64 v] [] 0 (.str (encB 0 4 v)) := by
  have hv : 0 ≤ v ∧ v < 4294967296 := by
    unfold fitsN at h
    rw [show low (4) = 0 by decide, show high (4) = 4294967295 by decide] at h
    simp at h
    omega
  (refine Fsp.of (nx := 0) mixed Tryd.func33 rfl (by decide) (by first | exact Nat.le_refl _ | simp) (by simp [Tryd.f33]) ⟨by decide, by decide⟩ ?_; simp -implicitDefEqProofs only [push_cast, Tryd.f33, Int.reduceBEq, Int.reduceBNe, Int.reduceEq, Int.reduceNe, Int.reducePow, Nat.reduceAdd, Nat.reduceMul, Nat.reduceSub, Nat.reduceLT, Nat.reduceLeDiff, Nat.reduceEqDiff, Nat.reduceBEq, Int.reduceLT, Int.reduceLE, Int.reduceAdd, Int.reduceSub, Int.reduceMul, Int.reduceToNat, Int.reduceNeg, reduceIte, reduceCtorEq, reduceBEq])
  refine callE_pure rby4 (by rfl) (by rfl) (by rfl) (by decide) (by rfl) (fun _ => by rfl) (by first | rfl | simp [gdOk, newToks]) ?_
  simp -implicitDefEqProofs only [push_cast, Int.reduceBEq, Int.reduceBNe, Int.reduceEq, Int.reduceNe, Int.reducePow, Nat.reduceAdd, Nat.reduceMul, Nat.reduceSub, Nat.reduceLT, Nat.reduceLeDiff, Nat.reduceEqDiff, Nat.reduceBEq, Int.reduceLT, Int.reduceLE, Int.reduceAdd, Int.reduceSub, Int.reduceMul, Int.reduceToNat, Int.reduceNeg, reduceIte, reduceCtorEq, reduceBEq]
  refine condC_split (fun h2 => ?_) (fun h2 => ?_)
  · exact absurd (of_decide_eq_true h2) (by omega)
  · simp -implicitDefEqProofs only [push_cast, Int.reduceBEq, Int.reduceBNe, Int.reduceEq, Int.reduceNe, Int.reducePow, Nat.reduceAdd, Nat.reduceMul, Nat.reduceSub, Nat.reduceLT, Nat.reduceLeDiff, Nat.reduceEqDiff, Nat.reduceBEq, Int.reduceLT, Int.reduceLE, Int.reduceAdd, Int.reduceSub, Int.reduceMul, Int.reduceToNat, Int.reduceNeg, reduceIte, reduceCtorEq, reduceBEq]
    refine callE_mk rfl (by rfl) (by rfl) tk_74 (sz := 1) tsz_5 (by decide) zc_5 rfl (by decide) (by decide) (by rw [show tby Tryd.prog 5 = 1 by kernel_rfl]; decide) (by decide) (by rfl) ?_
    simp -implicitDefEqProofs only [push_cast, Int.reduceBEq, Int.reduceBNe, Int.reduceEq, Int.reduceNe, Int.reducePow, Nat.reduceAdd, Nat.reduceMul, Nat.reduceSub, Nat.reduceLT, Nat.reduceLeDiff, Nat.reduceEqDiff, Nat.reduceBEq, Int.reduceLT, Int.reduceLE, Int.reduceAdd, Int.reduceSub, Int.reduceMul, Int.reduceToNat, Int.reduceNeg, reduceIte, reduceCtorEq, reduceBEq]
    refine loopC_un 5 ?_
    simp -implicitDefEqProofs only [push_cast, Int.reduceBEq, Int.reduceBNe, Int.reduceEq, Int.reduceNe, Int.reducePow, Nat.reduceAdd, Nat.reduceMul, Nat.reduceSub, Nat.reduceLT, Nat.reduceLeDiff, Nat.reduceEqDiff, Nat.reduceBEq, Int.reduceLT, Int.reduceLE, Int.reduceAdd, Int.reduceSub, Int.reduceMul, Int.reduceToNat, Int.reduceNeg, reduceIte, reduceCtorEq, reduceBEq]
    (repeat (refine ⟨by simp [isByte], ?_⟩))
    have hs : 0 ≤ v := by have := of_decide_eq_false h2; omega
    rw [dv8 ((v)) (by omega) (by omega), dv8 ((v) / 256) (by omega) (by omega), dv8 ((v) / 256 / 256) (by omega) (by omega)]
    show _ = [byteAt v 0, byteAt v 1, byteAt v 2, byteAt v 3]
    skip
    rw [nb8 (x := (v)) (v := v) 0 (by omega) (by omega), nb8 (x := (v) / 256) (v := v) 1 (by omega) (by omega), nb8 (x := (v) / 256 / 256) (v := v) 2 (by omega) (by omega), nb8 (x := (v) / 256 / 256 / 256) (v := v) 3 (by omega) (by omega)]
set_option maxHeartbeats 8000000 in
theorem rnu4_1 (v : Int) (h : fitsN (4) v = true) : Fsp Tryd.prog 33 [] 0 [.int .i64 1, .int .i64 (4), .int .i64 v] [] 0 (.str (encB 1 4 v)) := by
  have hv : 0 ≤ v ∧ v < 4294967296 := by
    unfold fitsN at h
    rw [show low (4) = 0 by decide, show high (4) = 4294967295 by decide] at h
    simp at h
    omega
  (refine Fsp.of (nx := 0) mixed Tryd.func33 rfl (by decide) (by first | exact Nat.le_refl _ | simp) (by simp [Tryd.f33]) ⟨by decide, by decide⟩ ?_; simp -implicitDefEqProofs only [push_cast, Tryd.f33, Int.reduceBEq, Int.reduceBNe, Int.reduceEq, Int.reduceNe, Int.reducePow, Nat.reduceAdd, Nat.reduceMul, Nat.reduceSub, Nat.reduceLT, Nat.reduceLeDiff, Nat.reduceEqDiff, Nat.reduceBEq, Int.reduceLT, Int.reduceLE, Int.reduceAdd, Int.reduceSub, Int.reduceMul, Int.reduceToNat, Int.reduceNeg, reduceIte, reduceCtorEq, reduceBEq])
  refine callE_pure rby4 (by rfl) (by rfl) (by rfl) (by decide) (by rfl) (fun _ => by rfl) (by first | rfl | simp [gdOk, newToks]) ?_
  simp -implicitDefEqProofs only [push_cast, Int.reduceBEq, Int.reduceBNe, Int.reduceEq, Int.reduceNe, Int.reducePow, Nat.reduceAdd, Nat.reduceMul, Nat.reduceSub, Nat.reduceLT, Nat.reduceLeDiff, Nat.reduceEqDiff, Nat.reduceBEq, Int.reduceLT, Int.reduceLE, Int.reduceAdd, Int.reduceSub, Int.reduceMul, Int.reduceToNat, Int.reduceNeg, reduceIte, reduceCtorEq, reduceBEq]
  refine condC_split (fun h2 => ?_) (fun h2 => ?_)
  · exact absurd (of_decide_eq_true h2) (by omega)
  · simp -implicitDefEqProofs only [push_cast, Int.reduceBEq, Int.reduceBNe, Int.reduceEq, Int.reduceNe, Int.reducePow, Nat.reduceAdd, Nat.reduceMul, Nat.reduceSub, Nat.reduceLT, Nat.reduceLeDiff, Nat.reduceEqDiff, Nat.reduceBEq, Int.reduceLT, Int.reduceLE, Int.reduceAdd, Int.reduceSub, Int.reduceMul, Int.reduceToNat, Int.reduceNeg, reduceIte, reduceCtorEq, reduceBEq]
    refine callE_mk rfl (by rfl) (by rfl) tk_74 (sz := 1) tsz_5 (by decide) zc_5 rfl (by decide) (by decide) (by rw [show tby Tryd.prog 5 = 1 by kernel_rfl]; decide) (by decide) (by rfl) ?_
    simp -implicitDefEqProofs only [push_cast, Int.reduceBEq, Int.reduceBNe, Int.reduceEq, Int.reduceNe, Int.reducePow, Nat.reduceAdd, Nat.reduceMul, Nat.reduceSub, Nat.reduceLT, Nat.reduceLeDiff, Nat.reduceEqDiff, Nat.reduceBEq, Int.reduceLT, Int.reduceLE, Int.reduceAdd, Int.reduceSub, Int.reduceMul, Int.reduceToNat, Int.reduceNeg, reduceIte, reduceCtorEq, reduceBEq]
    refine loopC_un 5 ?_
    simp -implicitDefEqProofs only [push_cast, Int.reduceBEq, Int.reduceBNe, Int.reduceEq, Int.reduceNe, Int.reducePow, Nat.reduceAdd, Nat.reduceMul, Nat.reduceSub, Nat.reduceLT, Nat.reduceLeDiff, Nat.reduceEqDiff, Nat.reduceBEq, Int.reduceLT, Int.reduceLE, Int.reduceAdd, Int.reduceSub, Int.reduceMul, Int.reduceToNat, Int.reduceNeg, reduceIte, reduceCtorEq, reduceBEq]
    (repeat (refine ⟨by simp [isByte], ?_⟩))
    have hs : 0 ≤ v := by have := of_decide_eq_false h2; omega
    rw [dv8 ((v)) (by omega) (by omega), dv8 ((v) / 256) (by omega) (by omega), dv8 ((v) / 256 / 256) (by omega) (by omega)]
    show _ = [byteAt v 3, byteAt v 2, byteAt v 1, byteAt v 0]
    try simp only [List.replicate, List.flatten_cons, List.flatten_nil, List.nil_append, List.cons_append, List.append_nil, List.take_succ_cons, List.take_zero, List.drop_succ_cons, List.drop_zero, List.map_cons, List.map_nil, Pv.byteOf]
    rw [nb8 (x := (v)) (v := v) 0 (by omega) (by omega), nb8 (x := (v) / 256) (v := v) 1 (by omega) (by omega), nb8 (x := (v) / 256 / 256) (v := v) 2 (by omega) (by omega), nb8 (x := (v) / 256 / 256 / 256) (v := v) 3 (by omega) (by omega)]
set_option maxHeartbeats 8000000 in
theorem rnum1_0 (v : Int) (h : fitsN (-1) v = true) : Fsp Tryd.prog 33 [] 0 [.int .i64 0, .int .i64 (-1), .int .i64 v] [] 0 (.str (encB 0 1 v)) := by
  have hv : -128 ≤ v ∧ v < 128 := by
    unfold fitsN at h
    rw [show low (-1) = -128 by decide, show high (-1) = 127 by decide] at h
    simp at h
    omega
  (refine Fsp.of (nx := 0) mixed Tryd.func33 rfl (by decide) (by first | exact Nat.le_refl _ | simp) (by simp [Tryd.f33]) ⟨by decide, by decide⟩ ?_; simp -implicitDefEqProofs only [push_cast, Tryd.f33, Int.reduceBEq, Int.reduceBNe, Int.reduceEq, Int.reduceNe, Int.reducePow, Nat.reduceAdd, Nat.reduceMul, Nat.reduceSub, Nat.reduceLT, Nat.reduceLeDiff, Nat.reduceEqDiff, Nat.reduceBEq, Int.reduceLT, Int.reduceLE, Int.reduceAdd, Int.reduceSub, Int.reduceMul, Int.reduceToNat, Int.reduceNeg, reduceIte, reduceCtorEq, reduceBEq])
  refine callE_pure rbym1 (by rfl) (by rfl) (by rfl) (by decide) (by rfl) (fun _ => by rfl) (by first | rfl | simp [gdOk, newToks]) ?_
  simp -implicitDefEqProofs only [push_cast, Int.reduceBEq, Int.reduceBNe, Int.reduceEq, Int.reduceNe, Int.reducePow, Nat.reduceAdd, Nat.reduceMul, Nat.reduceSub, Nat.reduceLT, Nat.reduceLeDiff, Nat.reduceEqDiff, Nat.reduceBEq, Int.reduceLT, Int.reduceLE, Int.reduceAdd, Int.reduceSub, Int.reduceMul, Int.reduceToNat, Int.reduceNeg, reduceIte, reduceCtorEq, reduceBEq]
  refine condC_split (fun h2 => ?_) (fun h2 => ?_)
  · simp -implicitDefEqProofs only [push_cast, Int.reduceBEq, Int.reduceBNe, Int.reduceEq, Int.reduceNe, Int.reducePow, Nat.reduceAdd, Nat.reduceMul, Nat.reduceSub, Nat.reduceLT, Nat.reduceLeDiff, Nat.reduceEqDiff, Nat.reduceBEq, Int.reduceLT, Int.reduceLE, Int.reduceAdd, Int.reduceSub, Int.reduceMul, Int.reduceToNat, Int.reduceNeg, reduceIte, reduceCtorEq, reduceBEq]
    refine loopC_un 3 ?_
    simp -implicitDefEqProofs only [push_cast, Int.reduceBEq, Int.reduceBNe, Int.reduceEq, Int.reduceNe, Int.reducePow, Nat.reduceAdd, Nat.reduceMul, Nat.reduceSub, Nat.reduceLT, Nat.reduceLeDiff, Nat.reduceEqDiff, Nat.reduceBEq, Int.reduceLT, Int.reduceLE, Int.reduceAdd, Int.reduceSub, Int.reduceMul, Int.reduceToNat, Int.reduceNeg, reduceIte, reduceCtorEq, reduceBEq]
    refine callE_mk rfl (by rfl) (by rfl) tk_74 (sz := 1) tsz_5 (by decide) zc_5 rfl (by decide) (by decide) (by rw [show tby Tryd.prog 5 = 1 by kernel_rfl]; decide) (by decide) (by rfl) ?_
    simp -implicitDefEqProofs only [push_cast, Int.reduceBEq, Int.reduceBNe, Int.reduceEq, Int.reduceNe, Int.reducePow, Nat.reduceAdd, Nat.reduceMul, Nat.reduceSub, Nat.reduceLT, Nat.reduceLeDiff, Nat.reduceEqDiff, Nat.reduceBEq, Int.reduceLT, Int.reduceLE, Int.reduceAdd, Int.reduceSub, Int.reduceMul, Int.reduceToNat, Int.reduceNeg, reduceIte, reduceCtorEq, reduceBEq]
    refine loopC_un 2 ?_
    simp -implicitDefEqProofs only [push_cast, Int.reduceBEq, Int.reduceBNe, Int.reduceEq, Int.reduceNe, Int.reducePow, Nat.reduceAdd, Nat.reduceMul, Nat.reduceSub, Nat.reduceLT, Nat.reduceLeDiff, Nat.reduceEqDiff, Nat.reduceBEq, Int.reduceLT, Int.reduceLE, Int.reduceAdd, Int.reduceSub, Int.reduceMul, Int.reduceToNat, Int.reduceNeg, reduceIte, reduceCtorEq, reduceBEq]
    (repeat (refine ⟨by simp [isByte], ?_⟩))
    have hs : v < 0 := of_decide_eq_true h2
    rw [wrap_i64_id (n := v + 256) (by omega) (by omega)]
    show _ = [byteAt v 0]
    skip
    rw [nb8 (x := (v + 256)) (v := v) 0 (by omega) (by omega)]
  · simp -implicitDefEqProofs only [push_cast, Int.reduceBEq, Int.reduceBNe, Int.reduceEq, Int.reduceNe, Int.reducePow, Nat.reduceAdd, Nat.reduceMul, Nat.reduceSub, Nat.reduceLT, Nat.reduceLeDiff, Nat.reduceEqDiff, Nat.reduceBEq, Int.reduceLT, Int.reduceLE, Int.reduceAdd, Int.reduceSub, Int.reduceMul, Int.reduceToNat, Int.reduceNeg, reduceIte, reduceCtorEq, reduceBEq]
    refine callE_mk rfl (by rfl) (by rfl) tk_74 (sz := 1) tsz_5 (by decide) zc_5 rfl (by decide) (by decide) (by rw [show tby Tryd.prog 5 = 1 by kernel_rfl]; decide) (by decide) (by rfl) ?_
    simp -implicitDefEqProofs only [push_cast, Int.reduceBEq, Int.reduceBNe, Int.reduceEq, Int.reduceNe, Int.reducePow, Nat.reduceAdd, Nat.reduceMul, Nat.reduceSub, Nat.reduceLT, Nat.reduceLeDiff, Nat.reduceEqDiff, Nat.reduceBEq, Int.reduceLT, Int.reduceLE, Int.reduceAdd, Int.reduceSub, Int.reduceMul, Int.reduceToNat, Int.reduceNeg, reduceIte, reduceCtorEq, reduceBEq]
    refine loopC_un 2 ?_
    simp -implicitDefEqProofs only [push_cast, Int.reduceBEq, Int.reduceBNe, Int.reduceEq, Int.reduceNe, Int.reducePow, Nat.reduceAdd, Nat.reduceMul, Nat.reduceSub, Nat.reduceLT, Nat.reduceLeDiff, Nat.reduceEqDiff, Nat.reduceBEq, Int.reduceLT, Int.reduceLE, Int.reduceAdd, Int.reduceSub, Int.reduceMul, Int.reduceToNat, Int.reduceNeg, reduceIte, reduceCtorEq, reduceBEq]
    (repeat (refine ⟨by simp [isByte], ?_⟩))
    have hs : 0 ≤ v := by have := of_decide_eq_false h2; omega
    show _ = [byteAt v 0]
    skip
    rw [nb8 (x := (v)) (v := v) 0 (by omega) (by omega)]
set_option maxHeartbeats 8000000 in
theorem rnum1_1 (v : Int) (h : fitsN (-1) v = true) : Fsp Tryd.prog 33 [] 0 [.int .i64 1, .int .i64 (-1), .int .i64 v] [] 0 (.str (encB 1 1 v)) := by
  have hv : -128 ≤ v ∧ v < 128 := by
    unfold fitsN at h
    rw [show low (-1) = -128 by decide, show high (-1) = 127 by decide] at h
    simp at h
    omega
  (refine Fsp.of (nx := 0) mixed Tryd.func33 rfl (by decide) (by first | exact Nat.le_refl _ | simp) (by simp [Tryd.f33]) ⟨by decide, by decide⟩ ?_; simp -implicitDefEqProofs only [push_cast, Tryd.f33, Int.reduceBEq, Int.reduceBNe, Int.reduceEq, Int.reduceNe, Int.reducePow, Nat.reduceAdd, Nat.reduceMul, Nat.reduceSub, Nat.reduceLT, Nat.reduceLeDiff, Nat.reduceEqDiff, Nat.reduceBEq, Int.reduceLT, Int.reduceLE, Int.reduceAdd, Int.reduceSub, Int.reduceMul, Int.reduceToNat, Int.reduceNeg, reduceIte, reduceCtorEq, reduceBEq])
  refine callE_pure rbym1 (by rfl) (by rfl) (by rfl) (by decide) (by rfl) (fun _ => by rfl) (by first | rfl | simp [gdOk, newToks]) ?_
  simp -implicitDefEqProofs only [push_cast, Int.reduceBEq, Int.reduceBNe, Int.reduceEq, Int.reduceNe, Int.reducePow, Nat.reduceAdd, Nat.reduceMul, Nat.reduceSub, Nat.reduceLT, Nat.reduceLeDiff, Nat.reduceEqDiff, Nat.reduceBEq, Int.reduceLT, Int.reduceLE, Int.reduceAdd, Int.reduceSub, Int.reduceMul, Int.reduceToNat, Int.reduceNeg, reduceIte, reduceCtorEq, reduceBEq]
  refine condC_split (fun h2 => ?_) (fun h2 => ?_)
  · simp -implicitDefEqProofs only [push_cast, Int.reduceBEq, Int.reduceBNe, Int.reduceEq, Int.reduceNe, Int.reducePow, Nat.reduceAdd, Nat.reduceMul, Nat.reduceSub, Nat.reduceLT, Nat.reduceLeDiff, Nat.reduceEqDiff, Nat.reduceBEq, Int.reduceLT, Int.reduceLE, Int.reduceAdd, Int.reduceSub, Int.reduceMul, Int.reduceToNat, Int.reduceNeg, reduceIte, reduceCtorEq, reduceBEq]
    refine loopC_un 3 ?_
    simp -implicitDefEqProofs only [push_cast, Int.reduceBEq, Int.reduceBNe, Int.reduceEq, Int.reduceNe, Int.reducePow, Nat.reduceAdd, Nat.reduceMul, Nat.reduceSub, Nat.reduceLT, Nat.reduceLeDiff, Nat.reduceEqDiff, Nat.reduceBEq, Int.reduceLT, Int.reduceLE, Int.reduceAdd, Int.reduceSub, Int.reduceMul, Int.reduceToNat, Int.reduceNeg, reduceIte, reduceCtorEq, reduceBEq]
    refine callE_mk rfl (by rfl) (by rfl) tk_74 (sz := 1) tsz_5 (by decide) zc_5 rfl (by decide) (by decide) (by rw [show tby Tryd.prog 5 = 1 by kernel_rfl]; decide) (by decide) (by rfl) ?_
    simp -implicitDefEqProofs only [push_cast, Int.reduceBEq, Int.reduceBNe, Int.reduceEq, Int.reduceNe, Int.reducePow, Nat.reduceAdd, Nat.reduceMul, Nat.reduceSub, Nat.reduceLT, Nat.reduceLeDiff, Nat.reduceEqDiff, Nat.reduceBEq, Int.reduceLT, Int.reduceLE, Int.reduceAdd, Int.reduceSub, Int.reduceMul, Int.reduceToNat, Int.reduceNeg, reduceIte, reduceCtorEq, reduceBEq]
    refine loopC_un 2 ?_
    simp -implicitDefEqProofs only [push_cast, Int.reduceBEq, Int.reduceBNe, Int.reduceEq, Int.reduceNe, Int.reducePow, Nat.reduceAdd, Nat.reduceMul, Nat.reduceSub, Nat.reduceLT, Nat.reduceLeDiff, Nat.reduceEqDiff, Nat.reduceBEq, Int.reduceLT, Int.reduceLE, Int.reduceAdd, Int.reduceSub, Int.reduceMul, Int.reduceToNat, Int.reduceNeg, reduceIte, reduceCtorEq, reduceBEq]
    (repeat (refine ⟨by simp [isByte], ?_⟩))
    have hs : v < 0 := of_decide_eq_true h2
    rw [wrap_i64_id (n := v + 256) (by omega) (by omega)]
    show _ = [byteAt v 0]
    try simp only [List.replicate, List.flatten_cons, List.flatten_nil, List.nil_append, List.cons_append, List.append_nil, List.take_succ_cons, List.take_zero, List.drop_succ_cons, List.drop_zero, List.map_cons, List.map_nil, Pv.byteOf]
    rw [nb8 (x := (v + 256)) (v := v) 0 (by omega) (by omega)]
  · simp -implicitDefEqProofs only [push_cast, Int.reduceBEq, Int.reduceBNe, Int.reduceEq, Int.reduceNe, Int.reducePow, Nat.reduceAdd, Nat.reduceMul, Nat.reduceSub, Nat.reduceLT, Nat.reduceLeDiff, Nat.reduceEqDiff, Nat.reduceBEq, Int.reduceLT, Int.reduceLE, Int.reduceAdd, Int.reduceSub, Int.reduceMul, Int.reduceToNat, Int.reduceNeg, reduceIte, reduceCtorEq, reduceBEq]
    refine callE_mk rfl (by rfl) (by rfl) tk_74 (sz := 1) tsz_5 (by decide) zc_5 rfl (by decide) (by decide) (by rw [show tby Tryd.prog 5 = 1 by kernel_rfl]; decide) (by decide) (by rfl) ?_
    simp -implicitDefEqProofs only [push_cast, Int.reduceBEq, Int.reduceBNe, Int.reduceEq, Int.reduceNe, Int.reducePow, Nat.reduceAdd, Nat.reduceMul, Nat.reduceSub, Nat.reduceLT, Nat.reduceLeDiff, Nat.reduceEqDiff, Nat.reduceBEq, Int.reduceLT, Int.reduceLE, Int.reduceAdd, Int.reduceSub, Int.reduceMul, Int.reduceToNat, Int.reduceNeg, reduceIte, reduceCtorEq, reduceBEq]
    refine loopC_un 2 ?_
    simp -implicitDefEqProofs only [push_cast, Int.reduceBEq, Int.reduceBNe, Int.reduceEq, Int.reduceNe, Int.reducePow, Nat.reduceAdd, Nat.reduceMul, Nat.reduceSub, Nat.reduceLT, Nat.reduceLeDiff, Nat.reduceEqDiff, Nat.reduceBEq, Int.reduceLT, Int.reduceLE, Int.reduceAdd, Int.reduceSub, Int.reduceMul, Int.reduceToNat, Int.reduceNeg, reduceIte, reduceCtorEq, reduceBEq]
    (repeat (refine ⟨by simp [isByte], ?_⟩))
    have hs : 0 ≤ v := by have := of_decide_eq_false h2; omega
    show _ = [byteAt v 0]
    try simp only [List.replicate, List.flatten_cons, List.flatten_nil, List.nil_append, List.cons_append, List.append_nil, List.take_succ_cons, List.take_zero, List.drop_succ_cons, List.drop_zero, List.map_cons, List.map_nil, Pv.byteOf]
    rw [nb8 (x := (v)) (v := v) 0 (by omega) (by omega)]
set_option maxHeartbeats 8000000 in
theorem rnum2_0 (v : Int) (h : fitsN (-2) v = true) : Fsp Tryd.prog 33 [] 0 [.int .i64 0, .int .i64 (-2), .int .i64 v] [] 0 (.str (encB 0 2 v)) := by
  have hv : -32768 ≤ v ∧ v < 32768 := by
    unfold fitsN at h
    rw [show low (-2) = -32768 by decide, show high (-2) = 32767 by decide] at h
    simp at h
    omega
  (refine Fsp.of (nx := 0) mixed Tryd.func33 rfl (by decide) (by first | exact Nat.le_refl _ | simp) (by simp [Tryd.f33]) ⟨by decide, by decide⟩ ?_; simp -implicitDefEqProofs only [push_cast, Tryd.f33, Int.reduceBEq, Int.reduceBNe, Int.reduceEq, Int.reduceNe, Int.reducePow, Nat.reduceAdd, Nat.reduceMul, Nat.reduceSub, Nat.reduceLT, Nat.reduceLeDiff, Nat.reduceEqDiff, Nat.reduceBEq, Int.reduceLT, Int.reduceLE, Int.reduceAdd, Int.reduceSub, Int.reduceMul, Int.reduceToNat, Int.reduceNeg, reduceIte, reduceCtorEq, reduceBEq])
  refine callE_pure rbym2 (by rfl) (by rfl) (by rfl) (by decide) (by rfl) (fun _ => by rfl) (by first | rfl | simp [gdOk, newToks]) ?_
  simp -implicitDefEqProofs only [push_cast, Int.reduceBEq, Int.reduceBNe, Int.reduceEq, Int.reduceNe, Int.reducePow, Nat.reduceAdd, Nat.reduceMul, Nat.reduceSub, Nat.reduceLT, Nat.reduceLeDiff, Nat.reduceEqDiff, Nat.reduceBEq, Int.reduceLT, Int.reduceLE, Int.reduceAdd, Int.reduceSub, Int.reduceMul, Int.reduceToNat, Int.reduceNeg, reduceIte, reduceCtorEq, reduceBEq]
  refine condC_split (fun h2 => ?_) (fun h2 => ?_)
  · simp -implicitDefEqProofs only [push_cast, Int.reduceBEq, Int.reduceBNe, Int.reduceEq, Int.reduceNe, Int.reducePow, Nat.reduceAdd, Nat.reduceMul, Nat.reduceSub, Nat.reduceLT, Nat.reduceLeDiff, Nat.reduceEqDiff, Nat.reduceBEq, Int.reduceLT, Int.reduceLE, Int.reduceAdd, Int.reduceSub, Int.reduceMul, Int.reduceToNat, Int.reduceNeg, reduceIte, reduceCtorEq, reduceBEq]
    refine loopC_un 4 ?_
    simp -implicitDefEqProofs only [push_cast, Int.reduceBEq, Int.reduceBNe, Int.reduceEq, Int.reduceNe, Int.reducePow, Nat.reduceAdd, Nat.reduceMul, Nat.reduceSub, Nat.reduceLT, Nat.reduceLeDiff, Nat.reduceEqDiff, Nat.reduceBEq, Int.reduceLT, Int.reduceLE, Int.reduceAdd, Int.reduceSub, Int.reduceMul, Int.reduceToNat, Int.reduceNeg, reduceIte, reduceCtorEq, reduceBEq]
    refine callE_mk rfl (by rfl) (by rfl) tk_74 (sz := 1) tsz_5 (by decide) zc_5 rfl (by decide) (by decide) (by rw [show tby Tryd.prog 5 = 1 by kernel_rfl]; decide) (by decide) (by rfl) ?_
    simp -implicitDefEqProofs only [push_cast, Int.reduceBEq, Int.reduceBNe, Int.reduceEq, Int.reduceNe, Int.reducePow, Nat.reduceAdd, Nat.reduceMul, Nat.reduceSub, Nat.reduceLT, Nat.reduceLeDiff, Nat.reduceEqDiff, Nat.reduceBEq, Int.reduceLT, Int.reduceLE, Int.reduceAdd, Int.reduceSub, Int.reduceMul, Int.reduceToNat, Int.reduceNeg, reduceIte, reduceCtorEq, reduceBEq]
    refine loopC_un 3 ?_
    simp -implicitDefEqProofs only [push_cast, Int.reduceBEq, Int.reduceBNe, Int.reduceEq, Int.reduceNe, Int.reducePow, Nat.reduceAdd, Nat.reduceMul, Nat.reduceSub, Nat.reduceLT, Nat.reduceLeDiff, Nat.reduceEqDiff, Nat.reduceBEq, Int.reduceLT, Int.reduceLE, Int.reduceAdd, Int.reduceSub, Int.reduceMul, Int.reduceToNat, Int.reduceNeg, reduceIte, reduceCtorEq, reduceBEq]
    (repeat (refine ⟨by simp [isByte], ?_⟩))
    have hs : v < 0 := of_decide_eq_true h2
    rw [wrap_i64_id (n := v + 65536) (by omega) (by omega)]
    rw [dv8 ((v + 65536)) (by omega) (by omega)]
    show _ = [byteAt v 0, byteAt v 1]
    skip
    rw [nb8 (x := (v + 65536)) (v := v) 0 (by omega) (by omega), nb8 (x := (v + 65536) / 256) (v := v) 1 (by omega) (by omega)]
  · simp -implicitDefEqProofs only [push_cast, Int.reduceBEq, Int.reduceBNe, Int.reduceEq, Int.reduceNe, Int.reducePow, Nat.reduceAdd, Nat.reduceMul, Nat.reduceSub, Nat.reduceLT, Nat.reduceLeDiff, Nat.reduceEqDiff, Nat.reduceBEq, Int.reduceLT, Int.reduceLE, Int.reduceAdd, Int.reduceSub, Int.reduceMul, Int.reduceToNat, Int.reduceNeg, reduceIte, reduceCtorEq, reduceBEq]
    refine callE_mk rfl (by rfl) (by rfl) tk_74 (sz := 1) tsz_5 (by decide) zc_5 rfl (by decide) (by decide) (by rw [show tby Tryd.prog 5 = 1 by kernel_rfl]; decide) (by decide) (by rfl) ?_
    simp -implicitDefEqProofs only [push_cast, Int.reduceBEq, Int.reduceBNe, Int.reduceEq, Int.reduceNe, Int.reducePow, Nat.reduceAdd, Nat.reduceMul, Nat.reduceSub, Nat.reduceLT, Nat.reduceLeDiff, Nat.reduceEqDiff, Nat.reduceBEq, Int.reduceLT, Int.reduceLE, Int.reduceAdd, Int.reduceSub, Int.reduceMul, Int.reduceToNat, Int.reduceNeg, reduceIte, reduceCtorEq, reduceBEq]
    refine loopC_un 3 ?_
    simp -implicitDefEqProofs only [push_cast, Int.reduceBEq, Int.reduceBNe, Int.reduceEq, Int.reduceNe, Int.reducePow, Nat.reduceAdd, Nat.reduceMul, Nat.reduceSub, Nat.reduceLT, Nat.reduceLeDiff, Nat.reduceEqDiff, Nat.reduceBEq, Int.reduceLT, Int.reduceLE, Int.reduceAdd, Int.reduceSub, Int.reduceMul, Int.reduceToNat, Int.reduceNeg, reduceIte, reduceCtorEq, reduceBEq]
    (repeat (refine ⟨by simp [isByte], ?_⟩))
    have hs : 0 ≤ v := by have := of_decide_eq_false h2; omega
    rw [dv8 ((v)) (by omega) (by omega)]
    show _ = [byteAt v 0, byteAt v 1]
    skip
    rw [nb8 (x := (v)) (v := v) 0 (by omega) (by omega), nb8 (x := (v) / 256) (v := v) 1 (by omega) (by omega)]
set_option maxHeartbeats 8000000 in
theorem rnum2_1 (v : Int) (h : fitsN (-2) v = true) : Fsp Tryd.prog 33 [] 0 [.int .i64 1, .int .i64 (-2), .int .i64 v] [] 0 (.str (encB 1 2 v)) := by
  have hv : -32768 ≤ v ∧ v < 32768 := by
    unfold fitsN at h
    rw [show low (-2) = -32768 by decide, show high (-2) = 32767 by decide] at h
    simp at h
    omega
  (refine Fsp.of (nx := 0) mixed Tryd.func33 rfl (by decide) (by first | exact Nat.le_refl _ | simp) (by simp [Tryd.f33]) ⟨by decide, by decide⟩ ?_; simp -implicitDefEqProofs only [push_cast, Tryd.f33, Int.reduceBEq, Int.reduceBNe, Int.reduceEq, Int.reduceNe, Int.reducePow, Nat.reduceAdd, Nat.reduceMul, Nat.reduceSub, Nat.reduceLT, Nat.reduceLeDiff, Nat.reduceEqDiff, Nat.reduceBEq, Int.reduceLT, Int.reduceLE, Int.reduceAdd, Int.reduceSub, Int.reduceMul, Int.reduceToNat, Int.reduceNeg, reduceIte, reduceCtorEq, reduceBEq])
  refine callE_pure rbym2 (by rfl) (by rfl) (by rfl) (by decide) (by rfl) (fun _ => by rfl) (by first | rfl | simp [gdOk, newToks]) ?_
  simp -implicitDefEqProofs only [push_cast, Int.reduceBEq, Int.reduceBNe, Int.reduceEq, Int.reduceNe, Int.reducePow, Nat.reduceAdd, Nat.reduceMul, Nat.reduceSub, Nat.reduceLT, Nat.reduceLeDiff, Nat.reduceEqDiff, Nat.reduceBEq, Int.reduceLT, Int.reduceLE, Int.reduceAdd, Int.reduceSub, Int.reduceMul, Int.reduceToNat, Int.reduceNeg, reduceIte, reduceCtorEq, reduceBEq]
  refine condC_split (fun h2 => ?_) (fun h2 => ?_)
  · simp -implicitDefEqProofs only [push_cast, Int.reduceBEq, Int.reduceBNe, Int.reduceEq, Int.reduceNe, Int.reducePow, Nat.reduceAdd, Nat.reduceMul, Nat.reduceSub, Nat.reduceLT, Nat.reduceLeDiff, Nat.reduceEqDiff, Nat.reduceBEq, Int.reduceLT, Int.reduceLE, Int.reduceAdd, Int.reduceSub, Int.reduceMul, Int.reduceToNat, Int.reduceNeg, reduceIte, reduceCtorEq, reduceBEq]
    refine loopC_un 4 ?_
    simp -implicitDefEqProofs only [push_cast, Int.reduceBEq, Int.reduceBNe, Int.reduceEq, Int.reduceNe, Int.reducePow, Nat.reduceAdd, Nat.reduceMul, Nat.reduceSub, Nat.reduceLT, Nat.reduceLeDiff, Nat.reduceEqDiff, Nat.reduceBEq, Int.reduceLT, Int.reduceLE, Int.reduceAdd, Int.reduceSub, Int.reduceMul, Int.reduceToNat, Int.reduceNeg, reduceIte, reduceCtorEq, reduceBEq]
    refine callE_mk rfl (by rfl) (by rfl) tk_74 (sz := 1) tsz_5 (by decide) zc_5 rfl (by decide) (by decide) (by rw [show tby Tryd.prog 5 = 1 by kernel_rfl]; decide) (by decide) (by rfl) ?_
    simp -implicitDefEqProofs only [push_cast, Int.reduceBEq, Int.reduceBNe, Int.reduceEq, Int.reduceNe, Int.reducePow, Nat.reduceAdd, Nat.reduceMul, Nat.reduceSub, Nat.reduceLT, Nat.reduceLeDiff, Nat.reduceEqDiff, Nat.reduceBEq, Int.reduceLT, Int.reduceLE, Int.reduceAdd, Int.reduceSub, Int.reduceMul, Int.reduceToNat, Int.reduceNeg, reduceIte, reduceCtorEq, reduceBEq]
    refine loopC_un 3 ?_
    simp -implicitDefEqProofs only [push_cast, Int.reduceBEq, Int.reduceBNe, Int.reduceEq, Int.reduceNe, Int.reducePow, Nat.reduceAdd, Nat.reduceMul, Nat.reduceSub, Nat.reduceLT, Nat.reduceLeDiff, Nat.reduceEqDiff, Nat.reduceBEq, Int.reduceLT, Int.reduceLE, Int.reduceAdd, Int.reduceSub, Int.reduceMul, Int.reduceToNat, Int.reduceNeg, reduceIte, reduceCtorEq, reduceBEq]
    (repeat (refine ⟨by simp [isByte], ?_⟩))
    have hs : v < 0 := of_decide_eq_true h2
    rw [wrap_i64_id (n := v + 65536) (by omega) (by omega)]
    rw [dv8 ((v + 65536)) (by omega) (by omega)]
    show _ = [byteAt v 1, byteAt v 0]
    try simp only [List.replicate, List.flatten_cons, List.flatten_nil, List.nil_append, List.cons_append, List.append_nil, List.take_succ_cons, List.take_zero, List.drop_succ_cons, List.drop_zero, List.map_cons, List.map_nil, Pv.byteOf]
    rw [nb8 (x := (v + 65536)) (v := v) 0 (by omega) (by omega), nb8 (x := (v + 65536) / 256) (v := v) 1 (by omega) (by omega)]
  · simp -implicitDefEqProofs only [push_cast, Int.reduceBEq, Int.reduceBNe, Int.reduceEq, Int.reduceNe, Int.reducePow, Nat.reduceAdd, Nat.reduceMul, Nat.reduceSub, Nat.reduceLT, Nat.reduceLeDiff, Nat.reduceEqDiff, Nat.reduceBEq, Int.reduceLT, Int.reduceLE, Int.reduceAdd, Int.reduceSub, Int.reduceMul, Int.reduceToNat, Int.reduceNeg, reduceIte, reduceCtorEq, reduceBEq]
    refine callE_mk rfl (by rfl) (by rfl) tk_74 (sz := 1) tsz_5 (by decide) zc_5 rfl (by decide) (by decide) (by rw [show tby Tryd.prog 5 = 1 by kernel_rfl]; decide) (by decide) (by rfl) ?_
    simp -implicitDefEqProofs only [push_cast, Int.reduceBEq, Int.reduceBNe, Int.reduceEq, Int.reduceNe, Int.reducePow, Nat.reduceAdd, Nat.reduceMul, Nat.reduceSub, Nat.reduceLT, Nat.reduceLeDiff, Nat.reduceEqDiff, Nat.reduceBEq, Int.reduceLT, Int.reduceLE, Int.reduceAdd, Int.reduceSub, Int.reduceMul, Int.reduceToNat, Int.reduceNeg, reduceIte, reduceCtorEq, reduceBEq]
    refine loopC_un 3 ?_
    simp -implicitDefEqProofs only [push_cast, Int.reduceBEq, Int.reduceBNe, Int.reduceEq, Int.reduceNe, Int.reducePow, Nat.reduceAdd, Nat.reduceMul, Nat.reduceSub, Nat.reduceLT, Nat.reduceLeDiff, Nat.reduceEqDiff, Nat.reduceBEq, Int.reduceLT, Int.reduceLE, Int.reduceAdd, Int.reduceSub, Int.reduceMul, Int.reduceToNat, Int.reduceNeg, reduceIte, reduceCtorEq, reduceBEq]
    (repeat (refine ⟨by simp [isByte], ?_⟩))
    have hs : 0 ≤ v := by have := of_decide_eq_false h2; omega
    rw [dv8 ((v)) (by omega) (by omega)]
    show _ = [byteAt v 1, byteAt v 0]
    try simp only [List.replicate, List.flatten_cons, List.flatten_nil, List.nil_append, List.cons_append, List.append_nil, List.take_succ_cons, List.take_zero, List.drop_succ_cons, List.drop_zero, List.map_cons, List.map_nil, Pv.byteOf]
    rw [nb8 (x := (v)) (v := v) 0 (by omega) (by omega), nb8 (x := (v) / 256) (v := v) 1 (by omega) (by omega)]
set_option maxHeartbeats 8000000 in
theorem rnum4_0 (v : Int) (h : fitsN (-4) v = true) : Fsp Tryd.prog 33 [] 0 [.int .i64 0, .int .i64 (-4), .int .i64 v] [] 0 (.str (encB 0 4 v)) := by
  have hv : -2147483648 ≤ v ∧ v < 2147483648 := by
    unfold fitsN at h
    rw [show low (-4) = -2147483648 by decide, show high (-4) = 2147483647 by decide] at h
    simp at h
    omega
  (refine Fsp.of (nx := 0) mixed Tryd.func33 rfl (by decide) (by first | exact Nat.le_refl _ | simp) (by simp [Tryd.f33]) ⟨by decide, by decide⟩ ?_; simp -implicitDefEqProofs only [push_cast, Tryd.f33, Int.reduceBEq, Int.reduceBNe, Int.reduceEq, Int.reduceNe, Int.reducePow, Nat.reduceAdd, Nat.reduceMul, Nat.reduceSub, Nat.reduceLT, Nat.reduceLeDiff, Nat.reduceEqDiff, Nat.reduceBEq, Int.reduceLT, Int.reduceLE, Int.reduceAdd, Int.reduceSub, Int.reduceMul, Int.reduceToNat, Int.reduceNeg, reduceIte, reduceCtorEq, reduceBEq])
  refine callE_pure rbym4 (by rfl) (by rfl) (by rfl) (by decide) (by rfl) (fun _ => by rfl) (by first | rfl | simp [gdOk, newToks]) ?_
  simp -implicitDefEqProofs only [push_cast, Int.reduceBEq, Int.reduceBNe, Int.reduceEq, Int.reduceNe, Int.reducePow, Nat.reduceAdd, Nat.reduceMul, Nat.reduceSub, Nat.reduceLT, Nat.reduceLeDiff, Nat.reduceEqDiff, Nat.reduceBEq, Int.reduceLT, Int.reduceLE, Int.reduceAdd, Int.reduceSub, Int.reduceMul, Int.reduceToNat, Int.reduceNeg, reduceIte, reduceCtorEq, reduceBEq]
  refine condC_split (fun h2 => ?_) (fun h2 => ?_)
  · simp -implicitDefEqProofs only [push_cast, Int.reduceBEq, Int.reduceBNe, Int.reduceEq, Int.reduceNe, Int.reducePow, Nat.reduceAdd, Nat.reduceMul, Nat.reduceSub, Nat.reduceLT, Nat.reduceLeDiff, Nat.reduceEqDiff, Nat.reduceBEq, Int.reduceLT, Int.reduceLE, Int.reduceAdd, Int.reduceSub, Int.reduceMul, Int.reduceToNat, Int.reduceNeg, reduceIte, reduceCtorEq, reduceBEq]
    refine loopC_un 6 ?_
    simp -implicitDefEqProofs only [push_cast, Int.reduceBEq, Int.reduceBNe, Int.reduceEq, Int.reduceNe, Int.reducePow, Nat.reduceAdd, Nat.reduceMul, Nat.reduceSub, Nat.reduceLT, Nat.reduceLeDiff, Nat.reduceEqDiff, Nat.reduceBEq, Int.reduceLT, Int.reduceLE, Int.reduceAdd, Int.reduceSub, Int.reduceMul, Int.reduceToNat, Int.reduceNeg, reduceIte, reduceCtorEq, reduceBEq]
    refine callE_mk rfl (by rfl) (by rfl) tk_74 (sz := 1) tsz_5 (by decide) zc_5 rfl (by decide) (by decide) (by rw [show tby Tryd.prog 5 = 1 by kernel_rfl]; decide) (by decide) (by rfl) ?_
    simp -implicitDefEqProofs only [push_cast, Int.reduceBEq, Int.reduceBNe, Int.reduceEq, Int.reduceNe, Int.reducePow, Nat.reduceAdd, Nat.reduceMul, Nat.reduceSub, Nat.reduceLT, Nat.reduceLeDiff, Nat.reduceEqDiff, Nat.reduceBEq, Int.reduceLT, Int.reduceLE, Int.reduceAdd, Int.reduceSub, Int.reduceMul, Int.reduceToNat, Int.reduceNeg, reduceIte, reduceCtorEq, reduceBEq]
    refine loopC_un 5 ?_
    simp -implicitDefEqProofs only [push_cast, Int.reduceBEq, Int.reduceBNe, Int.reduceEq, Int.reduceNe, Int.reducePow, Nat.reduceAdd, Nat.reduceMul, Nat.reduceSub, Nat.reduceLT, Nat.reduceLeDiff, Nat.reduceEqDiff, Nat.reduceBEq, Int.reduceLT, Int.reduceLE, Int.reduceAdd, Int.reduceSub, Int.reduceMul, Int.reduceToNat, Int.reduceNeg, reduceIte, reduceCtorEq, reduceBEq]
    (repeat (refine ⟨by simp [isByte], ?_⟩))
    have hs : v < 0 := of_decide_eq_true h2
    rw [wrap_i64_id (n := v + 4294967296) (by omega) (by omega)]
    rw [dv8 ((v + 4294967296)) (by omega) (by omega), dv8 ((v + 4294967296) / 256) (by omega) (by omega), dv8 ((v + 4294967296) / 256 / 256) (by omega) (by omega)]
    show _ = [byteAt v 0, byteAt v 1, byteAt v 2, byteAt v 3]
    skip
    rw [nb8 (x := (v + 4294967296)) (v := v) 0 (by omega) (by omega), nb8 (x := (v + 4294967296) / 256) (v := v) 1 (by omega) (by omega), nb8 (x := (v + 4294967296) / 256 / 256) (v := v) 2 (by omega) (by omega), nb8 (x := (v + 4294967296) / 256 / 256 / 256) (v := v) 3 (by omega) (by omega)]
  · simp -implicitDefEqProofs only [push_cast, Int.reduceBEq, Int.reduceBNe, Int.reduceEq, Int.reduceNe, Int.reducePow, Nat.reduceAdd, Nat.reduceMul, Nat.reduceSub, Nat.reduceLT, Nat.reduceLeDiff, Nat.reduceEqDiff, Nat.reduceBEq, Int.reduceLT, Int.reduceLE, Int.reduceAdd, Int.reduceSub, Int.reduceMul, Int.reduceToNat, Int.reduceNeg, reduceIte, reduceCtorEq, reduceBEq]
    refine callE_mk rfl (by rfl) (by rfl) tk_74 (sz := 1) tsz_5 (by decide) zc_5 rfl (by decide) (by decide) (by rw [show tby Tryd.prog 5 = 1 by kernel_rfl]; decide) (by decide) (by rfl) ?_
    simp -implicitDefEqProofs only [push_cast, Int.reduceBEq, Int.reduceBNe, Int.reduceEq, Int.reduceNe, Int.reducePow, Nat.reduceAdd, Nat.reduceMul, Nat.reduceSub, Nat.reduceLT, Nat.reduceLeDiff, Nat.reduceEqDiff, Nat.reduceBEq, Int.reduceLT, Int.reduceLE, Int.reduceAdd, Int.reduceSub, Int.reduceMul, Int.reduceToNat, Int.reduceNeg, reduceIte, reduceCtorEq, reduceBEq]
    refine loopC_un 5 ?_
    simp -implicitDefEqProofs only [push_cast, Int.reduceBEq, Int.reduceBNe, Int.reduceEq, Int.reduceNe, Int.reducePow, Nat.reduceAdd, Nat.reduceMul, Nat.reduceSub, Nat.reduceLT, Nat.reduceLeDiff, Nat.reduceEqDiff, Nat.reduceBEq, Int.reduceLT, Int.reduceLE, Int.reduceAdd, Int.reduceSub, Int.reduceMul, Int.reduceToNat, Int.reduceNeg, reduceIte, reduceCtorEq, reduceBEq]
    (repeat (refine ⟨by simp [isByte], ?_⟩))
    have hs : 0 ≤ v := by have := of_decide_eq_false h2; omega
    rw [dv8 ((v)) (by omega) (by omega), dv8 ((v) / 256) (by omega) (by omega), dv8 ((v) / 256 / 256) (by omega) (by omega)]
    show _ = [byteAt v 0, byteAt v 1, byteAt v 2, byteAt v 3]
    skip
    rw [nb8 (x := (v)) (v := v) 0 (by omega) (by omega), nb8 (x := (v) / 256) (v := v) 1 (by omega) (by omega), nb8 (x := (v) / 256 / 256) (v := v) 2 (by omega) (by omega), nb8 (x := (v) / 256 / 256 / 256) (v := v) 3 (by omega) (by omega)]
set_option maxHeartbeats 8000000 in
theorem rnum4_1 (v : Int) (h : fitsN (-4) v = true) : Fsp Tryd.prog 33 [] 0 [.int .i64 1, .int .i64 (-4), .int .i64 v] [] 0 (.str (encB 1 4 v)) := by
  have hv : -2147483648 ≤ v ∧ v < 2147483648 := by
    unfold fitsN at h
    rw [show low (-4) = -2147483648 by decide, show high (-4) = 2147483647 by decide] at h
    simp at h
    omega
  (refine Fsp.of (nx := 0) mixed Tryd.func33 rfl (by decide) (by first | exact Nat.le_refl _ | simp) (by simp [Tryd.f33]) ⟨by decide, by decide⟩ ?_; simp -implicitDefEqProofs only [push_cast, Tryd.f33, Int.reduceBEq, Int.reduceBNe, Int.reduceEq, Int.reduceNe, Int.reducePow, Nat.reduceAdd, Nat.reduceMul, Nat.reduceSub, Nat.reduceLT, Nat.reduceLeDiff, Nat.reduceEqDiff, Nat.reduceBEq, Int.reduceLT, Int.reduceLE, Int.reduceAdd, Int.reduceSub, Int.reduceMul, Int.reduceToNat, Int.reduceNeg, reduceIte, reduceCtorEq, reduceBEq])
  refine callE_pure rbym4 (by rfl) (by rfl) (by rfl) (by decide) (by rfl) (fun _ => by rfl) (by first | rfl | simp [gdOk, newToks]) ?_
  simp -implicitDefEqProofs only [push_cast, Int.reduceBEq, Int.reduceBNe, Int.reduceEq, Int.reduceNe, Int.reducePow, Nat.reduceAdd, Nat.reduceMul, Nat.reduceSub, Nat.reduceLT, Nat.reduceLeDiff, Nat.reduceEqDiff, Nat.reduceBEq, Int.reduceLT, Int.reduceLE, Int.reduceAdd, Int.reduceSub, Int.reduceMul, Int.reduceToNat, Int.reduceNeg, reduceIte, reduceCtorEq, reduceBEq]
  refine condC_split (fun h2 => ?_) (fun h2 => ?_)
  · simp -implicitDefEqProofs only [push_cast, Int.reduceBEq, Int.reduceBNe, Int.reduceEq, Int.reduceNe, Int.reducePow, Nat.reduceAdd, Nat.reduceMul, Nat.reduceSub, Nat.reduceLT, Nat.reduceLeDiff, Nat.reduceEqDiff, Nat.reduceBEq, Int.reduceLT, Int.reduceLE, Int.reduceAdd, Int.reduceSub, Int.reduceMul, Int.reduceToNat, Int.reduceNeg, reduceIte, reduceCtorEq, reduceBEq]
    refine loopC_un 6 ?_
    simp -implicitDefEqProofs only [push_cast, Int.reduceBEq, Int.reduceBNe, Int.reduceEq, Int.reduceNe, Int.reducePow, Nat.reduceAdd, Nat.reduceMul, Nat.reduceSub, Nat.reduceLT, Nat.reduceLeDiff, Nat.reduceEqDiff, Nat.reduceBEq, Int.reduceLT, Int.reduceLE, Int.reduceAdd, Int.reduceSub, Int.reduceMul, Int.reduceToNat, Int.reduceNeg, reduceIte, reduceCtorEq, reduceBEq]
    refine callE_mk rfl (by rfl) (by rfl) tk_74 (sz := 1) tsz_5 (by decide) zc_5 rfl (by decide) (by decide) (by rw [show tby Tryd.prog 5 = 1 by kernel_rfl]; decide) (by decide) (by rfl) ?_
    simp -implicitDefEqProofs only [push_cast, Int.reduceBEq, Int.reduceBNe, Int.reduceEq, Int.reduceNe, Int.reducePow, Nat.reduceAdd, Nat.reduceMul, Nat.reduceSub, Nat.reduceLT, Nat.reduceLeDiff, Nat.reduceEqDiff, Nat.reduceBEq, Int.reduceLT, Int.reduceLE, Int.reduceAdd, Int.reduceSub, Int.reduceMul, Int.reduceToNat, Int.reduceNeg, reduceIte, reduceCtorEq, reduceBEq]
    refine loopC_un 5 ?_
    simp -implicitDefEqProofs only [push_cast, Int.reduceBEq, Int.reduceBNe, Int.reduceEq, Int.reduceNe, Int.reducePow, Nat.reduceAdd, Nat.reduceMul, Nat.reduceSub, Nat.reduceLT, Nat.reduceLeDiff, Nat.reduceEqDiff, Nat.reduceBEq, Int.reduceLT, Int.reduceLE, Int.reduceAdd, Int.reduceSub, Int.reduceMul, Int.reduceToNat, Int.reduceNeg, reduceIte, reduceCtorEq, reduceBEq]
    (repeat (refine ⟨by simp [isByte], ?_⟩))
    have hs : v < 0 := of_decide_eq_true h2
    rw [wrap_i64_id (n := v + 4294967296) (by omega) (by omega)]
    rw [dv8 ((v + 4294967296)) (by omega) (by omega), dv8 ((v + 4294967296) / 256) (by omega) (by omega), dv8 ((v + 4294967296) / 256 / 256) (by omega) (by omega)]
    show _ = [byteAt v 3, byteAt v 2, byteAt v 1, byteAt v 0]
    try simp only [List.replicate, List.flatten_cons, List.flatten_nil, List.nil_append, List.cons_append, List.append_nil, List.take_succ_cons, List.take_zero, List.drop_succ_cons, List.drop_zero, List.map_cons, List.map_nil, Pv.byteOf]
    rw [nb8 (x := (v + 4294967296)) (v := v) 0 (by omega) (by omega), nb8 (x := (v + 4294967296) / 256) (v := v) 1 (by omega) (by omega), nb8 (x := (v + 4294967296) / 256 / 256) (v := v) 2 (by omega) (by omega), nb8 (x := (v + 4294967296) / 256 / 256 / 256) (v := v) 3 (by omega) (by omega)]
  · simp -implicitDefEqProofs only [push_cast, Int.reduceBEq, Int.reduceBNe, Int.reduceEq, Int.reduceNe, Int.reducePow, Nat.reduceAdd, Nat.reduceMul, Nat.reduceSub, Nat.reduceLT, Nat.reduceLeDiff, Nat.reduceEqDiff, Nat.reduceBEq, Int.reduceLT, Int.reduceLE, Int.reduceAdd, Int.reduceSub, Int.reduceMul, Int.reduceToNat, Int.reduceNeg, reduceIte, reduceCtorEq, reduceBEq]
    refine callE_mk rfl (by rfl) (by rfl) tk_74 (sz := 1) tsz_5 (by decide) zc_5 rfl (by decide) (by decide) (by rw [show tby Tryd.prog 5 = 1 by kernel_rfl]; decide) (by decide) (by rfl) ?_
    simp -implicitDefEqProofs only [push_cast, Int.reduceBEq, Int.reduceBNe, Int.reduceEq, Int.reduceNe, Int.reducePow, Nat.reduceAdd, Nat.reduceMul, Nat.reduceSub, Nat.reduceLT, Nat.reduceLeDiff, Nat.reduceEqDiff, Nat.reduceBEq, Int.reduceLT, Int.reduceLE, Int.reduceAdd, Int.reduceSub, Int.reduceMul, Int.reduceToNat, Int.reduceNeg, reduceIte, reduceCtorEq, reduceBEq]
    refine loopC_un 5 ?_
    simp -implicitDefEqProofs only [push_cast, Int.reduceBEq, Int.reduceBNe, Int.reduceEq, Int.reduceNe, Int.reducePow, Nat.reduceAdd, Nat.reduceMul, Nat.reduceSub, Nat.reduceLT, Nat.reduceLeDiff, Nat.reduceEqDiff, Nat.reduceBEq, Int.reduceLT, Int.reduceLE, Int.reduceAdd, Int.reduceSub, Int.reduceMul, Int.reduceToNat, Int.reduceNeg, reduceIte, reduceCtorEq, reduceBEq]
    (repeat (refine ⟨by simp [isByte], ?_⟩))
    have hs : 0 ≤ v := by have := of_decide_eq_false h2; omega
    rw [dv8 ((v)) (by omega) (by omega), dv8 ((v) / 256) (by omega) (by omega), dv8 ((v) / 256 / 256) (by omega) (by omega)]
    show _ = [byteAt v 3, byteAt v 2, byteAt v 1, byteAt v 0]
    try simp only [List.replicate, List.flatten_cons, List.flatten_nil, List.nil_append, List.cons_append, List.append_nil, List.take_succ_cons, List.take_zero, List.drop_succ_cons, List.drop_zero, List.map_cons, List.map_nil, Pv.byteOf]
    rw [nb8 (x := (v)) (v := v) 0 (by omega) (by omega), nb8 (x := (v) / 256) (v := v) 1 (by omega) (by omega), nb8 (x := (v) / 256 / 256) (v := v) 2 (by omega) (by omega), nb8 (x := (v) / 256 / 256 / 256) (v := v) 3 (by omega) (by omega)]
theorem rnum_fs {o s : Int} (ho : isOrder o) (hs : isSize s) (v : Int) (h : fitsN s v = true) : Fsp Tryd.prog 33 [] 0 [.int .i64 o, .int .i64 s, .int .i64 v] [] 0 (.str (encB o (wid s) v)) := by
  rcases ho with rfl | rfl <;> rcases hs with rfl | rfl | rfl | rfl | rfl | rfl
  · exact rnu1_0 v h
  · exact rnu2_0 v h
  · exact rnu4_0 v h
  · exact rnum1_0 v h
  · exact rnum2_0 v h
  · exact rnum4_0 v h
  · exact rnu1_1 v h
  · exact rnu2_1 v h
  · exact rnu4_1 v h
  · exact rnum1_1 v h
  · exact rnum2_1 v h
  · exact rnum4_1 v h
end Go.Proofs.Sh

/- The document's layer 2: Check, Fill, row. -/
set_option maxRecDepth 100000
set_option linter.unusedSimpArgs false
set_option linter.unusedVariables false
namespace Go.Proofs.Sh
open Go.Pv

theorem rsize_fs {s : Int} (hs : isSize s) : Fsp Tryd.prog 66 [] 0 [.int .i64 s] [] 0 (.bool true) := by
  rcases hs with rfl | rfl | rfl | rfl | rfl | rfl <;> exact run0_fs (by kernel_rfl)
theorem rbytes_fs {s : Int} (hs : isSize s) : Fsp Tryd.prog 50 [] 0 [.int .i64 s] [] 0 (.int .i64 (wid s : Nat)) := by
  rcases hs with rfl | rfl | rfl | rfl | rfl | rfl <;> exact run0_fs (by kernel_rfl)
structure RckS (f : Fm) where
  i : Nat
  hi : i ≤ f.F.length
def RckS.st {f : Fm} (a : RckS f) : PS := { n := 31, env := [(3, .int .i64 a.i), (2, .int .i64 0), (1, .box 0 0)], objs := [(0, some [.sl 1 (ints f.F), .bool f.B, .int .i64 f.L])], live := [], nxt := 60 }
theorem rcheck_fs (f : Fm) (h : f.Ok) : Fsp Tryd.prog 48 [] 0 [f.pv] [] 0 (.int .i64 0) := by
  have hn := h.n
  (refine Fsp.of (nx := 0) mixed Tryd.func48 rfl (by decide) (by first | exact Nat.le_refl _ | simp) (by simp [Tryd.f48]) ⟨by decide, by decide⟩ ?_; simp -implicitDefEqProofs only [push_cast, Tryd.f48, Fm.pv, ints_length, Int.reduceBEq, Int.reduceBNe, Int.reduceEq, Int.reduceNe, Int.reducePow, Nat.reduceAdd, Nat.reduceMul, Nat.reduceSub, Nat.reduceLT, Nat.reduceLeDiff, Nat.reduceEqDiff, Nat.reduceBEq, Int.reduceLT, Int.reduceLE, Int.reduceAdd, Int.reduceSub, Int.reduceMul, Int.reduceToNat, Int.reduceNeg, reduceIte, reduceCtorEq, reduceBEq])
  refine condC_split (fun h2 => ?_) (fun h2 => ?_)
  · simp at h2; omega
  simp -implicitDefEqProofs only [push_cast, ints_length, Int.reduceBEq, Int.reduceBNe, Int.reduceEq, Int.reduceNe, Int.reducePow, Nat.reduceAdd, Nat.reduceMul, Nat.reduceSub, Nat.reduceLT, Nat.reduceLeDiff, Nat.reduceEqDiff, Nat.reduceBEq, Int.reduceLT, Int.reduceLE, Int.reduceAdd, Int.reduceSub, Int.reduceMul, Int.reduceToNat, Int.reduceNeg, reduceIte, reduceCtorEq, reduceBEq]
  refine loopC_of (α := RckS f) RckS.st (fun a => f.F.length - a.i) ⟨0, by omega⟩ ?_ ?_
  · (simp only [RckS.st]; exact Wk.by _ _ _ [(0, 0)] [] [] (by simp) (by simp [wkV, PV.el, PV.weak, PS.get, PS.obj, PS.lv, lkp_hit, lkp_miss, lkp_nil, lko]) (by simp [PS.get, PS.obj, PS.lv, lkp_hit, lkp_miss, lkp_nil, lko, wkL, wkC, PV.weak]) (by simp [PS.get, PS.obj, PS.lv, lkp_hit, lkp_miss, lkp_nil, lko]) (by rfl) (by rfl) (by simp [lko]) (by simp) (by simp) (by simp) (fun i hi => absurd hi (Nat.not_lt_zero i)))
  · rintro ⟨i, hi⟩
    simp -implicitDefEqProofs only [push_cast, RckS.st, Int.reduceBEq, Int.reduceBNe, Int.reduceEq, Int.reduceNe, Int.reducePow, Nat.reduceAdd, Nat.reduceMul, Nat.reduceSub, Nat.reduceLT, Nat.reduceLeDiff, Nat.reduceEqDiff, Nat.reduceBEq, Int.reduceLT, Int.reduceLE, Int.reduceAdd, Int.reduceSub, Int.reduceMul, Int.reduceToNat, Int.reduceNeg, reduceIte, reduceCtorEq, reduceBEq]
    refine condC_split (fun h3 => ?_) (fun h3 => ?_)
    · have hlt : i < f.F.length := by simp [ints_length] at h3; omega
      have hg := ints_at hlt
      have hsz : isSize (f.F.getD i 0) := by
        rw [List.getD_eq_getElem?_getD, List.getElem?_eq_getElem hlt, Option.getD_some]
        exact h.s _ (List.getElem_mem hlt)
      have hs := rsize_fs hsz
      have hwr : IntKind.i64.wrap ((i : Int) + 1) = ((i + 1 : Nat) : Int) := by (rw [wrap_i64_id (by omega) (by omega)]; rfl)
      simp -implicitDefEqProofs only [push_cast, hg, ints_length, Int.reduceBEq, Int.reduceBNe, Int.reduceEq, Int.reduceNe, Int.reducePow, Nat.reduceAdd, Nat.reduceMul, Nat.reduceSub, Nat.reduceLT, Nat.reduceLeDiff, Nat.reduceEqDiff, Nat.reduceBEq, Int.reduceLT, Int.reduceLE, Int.reduceAdd, Int.reduceSub, Int.reduceMul, Int.reduceToNat, Int.reduceNeg, reduceIte, reduceCtorEq, reduceBEq]
      refine ⟨by omega, ?_⟩
      refine callE_pure hs (by rfl) (by rfl) (by rfl) (by decide) (by rfl) (fun _ => by rfl) (by first | rfl | simp [gdOk, newToks]) ?_
      simp -implicitDefEqProofs only [push_cast, hg, ints_length, Int.reduceBEq, Int.reduceBNe, Int.reduceEq, Int.reduceNe, Int.reducePow, Nat.reduceAdd, Nat.reduceMul, Nat.reduceSub, Nat.reduceLT, Nat.reduceLeDiff, Nat.reduceEqDiff, Nat.reduceBEq, Int.reduceLT, Int.reduceLE, Int.reduceAdd, Int.reduceSub, Int.reduceMul, Int.reduceToNat, Int.reduceNeg, reduceIte, reduceCtorEq, reduceBEq]
      rw [hwr]
      refine ⟨⟨i + 1, by omega⟩, by simp only; omega, ?_⟩
      (simp only [RckS.st]; exact Wk.by _ _ _ [(0, 0)] [] [] (by simp) (by simp [wkV, PV.el, PV.weak, PS.get, PS.obj, PS.lv, lkp_hit, lkp_miss, lkp_nil, lko]) (by simp [PS.get, PS.obj, PS.lv, lkp_hit, lkp_miss, lkp_nil, lko, wkL, wkC, PV.weak]) (by simp [PS.get, PS.obj, PS.lv, lkp_hit, lkp_miss, lkp_nil, lko]) (by rfl) (by rfl) (by simp [lko]) (by simp) (by simp) (by simp) (fun i hi => absurd hi (Nat.not_lt_zero i)))
    · rcases h.l with hL | hL
      · have hL0 : (f.L != 0) = false := by simp [hL]
        simp -implicitDefEqProofs only [push_cast, hL0, Int.reduceBEq, Int.reduceBNe, Int.reduceEq, Int.reduceNe, Int.reducePow, Nat.reduceAdd, Nat.reduceMul, Nat.reduceSub, Nat.reduceLT, Nat.reduceLeDiff, Nat.reduceEqDiff, Nat.reduceBEq, Int.reduceLT, Int.reduceLE, Int.reduceAdd, Int.reduceSub, Int.reduceMul, Int.reduceToNat, Int.reduceNeg, reduceIte, reduceCtorEq, reduceBEq]
        refine callE_no ?_
        simp -implicitDefEqProofs only [push_cast, hL0, Int.reduceBEq, Int.reduceBNe, Int.reduceEq, Int.reduceNe, Int.reducePow, Nat.reduceAdd, Nat.reduceMul, Nat.reduceSub, Nat.reduceLT, Nat.reduceLeDiff, Nat.reduceEqDiff, Nat.reduceBEq, Int.reduceLT, Int.reduceLE, Int.reduceAdd, Int.reduceSub, Int.reduceMul, Int.reduceToNat, Int.reduceNeg, reduceIte, reduceCtorEq, reduceBEq]
      · have hL0 : (f.L != 0) = true := by rcases hL with e | e | e | e | e | e <;> rw [e] <;> rfl
        have hs := rsize_fs hL
        simp -implicitDefEqProofs only [push_cast, hL0, Int.reduceBEq, Int.reduceBNe, Int.reduceEq, Int.reduceNe, Int.reducePow, Nat.reduceAdd, Nat.reduceMul, Nat.reduceSub, Nat.reduceLT, Nat.reduceLeDiff, Nat.reduceEqDiff, Nat.reduceBEq, Int.reduceLT, Int.reduceLE, Int.reduceAdd, Int.reduceSub, Int.reduceMul, Int.reduceToNat, Int.reduceNeg, reduceIte, reduceCtorEq, reduceBEq]
        refine callE_pure hs (by rfl) (by rfl) (by rfl) (by decide) (by rfl) (fun _ => by rfl) (by first | rfl | simp [gdOk, newToks]) ?_
        simp -implicitDefEqProofs only [push_cast, hL0, Int.reduceBEq, Int.reduceBNe, Int.reduceEq, Int.reduceNe, Int.reducePow, Nat.reduceAdd, Nat.reduceMul, Nat.reduceSub, Nat.reduceLT, Nat.reduceLeDiff, Nat.reduceEqDiff, Nat.reduceBEq, Int.reduceLT, Int.reduceLE, Int.reduceAdd, Int.reduceSub, Int.reduceMul, Int.reduceToNat, Int.reduceNeg, reduceIte, reduceCtorEq, reduceBEq]

structure RfiS (s : List UInt8) where
  j : Nat
  hj : j ≤ padN s.length
def RfiS.st {s : List UInt8} (a : RfiS s) : PS := { n := 10, env := [(0, .str (s ++ zeros a.j))], objs := [], live := [], nxt := 60 }
theorem rfill_fs (s : List UInt8) (h : s.length ≤ 1000000000) : Fsp Tryd.prog 56 [] 0 [.str s] [] 0 (.str (p1 s)) := by
  (refine Fsp.of (nx := 0) mixed Tryd.func56 rfl (by decide) (by first | exact Nat.le_refl _ | simp) (by simp [Tryd.f56]) ⟨by decide, by decide⟩ ?_; simp -implicitDefEqProofs only [push_cast, Tryd.f56, Int.reduceBEq, Int.reduceBNe, Int.reduceEq, Int.reduceNe, Int.reducePow, Nat.reduceAdd, Nat.reduceMul, Nat.reduceSub, Nat.reduceLT, Nat.reduceLeDiff, Nat.reduceEqDiff, Nat.reduceBEq, Int.reduceLT, Int.reduceLE, Int.reduceAdd, Int.reduceSub, Int.reduceMul, Int.reduceToNat, Int.reduceNeg, reduceIte, reduceCtorEq, reduceBEq])
  refine loopC_of (α := RfiS s) RfiS.st (fun a => padN s.length - a.j) ⟨0, Nat.zero_le _⟩ ?_ ?_
  · (simp only [RfiS.st]; exact Wk.by _ _ _ [] [] [] (by simp) (by simp [wkV, PV.el, PV.weak, PS.get, PS.obj, PS.lv, lkp_hit, lkp_miss, lkp_nil, lko, zeros]) (by simp [PS.get, PS.obj, PS.lv, lkp_hit, lkp_miss, lkp_nil, lko, wkL, wkC, PV.weak, zeros]) (by simp [PS.get, PS.obj, PS.lv, lkp_hit, lkp_miss, lkp_nil, lko]) (by rfl) (by rfl) (by simp [lko]) (by simp) (by simp) (by simp) (fun i hi => absurd hi (Nat.not_lt_zero i)))
  · rintro ⟨j, hj⟩
    have hp : padN s.length = (4 - s.length % 4) % 4 := rfl
    have hz : (zeros j).length = j := by simp [zeros]
    obtain ⟨m, hm⟩ : ∃ m, m = (s ++ zeros j).length := ⟨_, rfl⟩
    have hm2 : m = s.length + j := by rw [hm, List.length_append, hz]
    have ht : (((m : Nat) : Int)).tmod 4 = ((m % 4 : Nat) : Int) := by rw [Int.tmod_eq_emod_of_nonneg (by omega)]; rfl
    obtain ⟨r, hr⟩ : ∃ r, r = m % 4 := ⟨_, rfl⟩
    rw [← hr] at ht
    have hwr : IntKind.i64.wrap (r : Int) = (r : Int) := by rw [wrap_i64_id (by omega) (by omega)]
    simp only [RfiS.st]
    simp -implicitDefEqProofs only [push_cast, ← hm, ht, hwr, Int.reduceBEq, Int.reduceBNe, Int.reduceEq, Int.reduceNe, Int.reducePow, Nat.reduceAdd, Nat.reduceMul, Nat.reduceSub, Nat.reduceLT, Nat.reduceLeDiff, Nat.reduceEqDiff, Nat.reduceBEq, Int.reduceLT, Int.reduceLE, Int.reduceAdd, Int.reduceSub, Int.reduceMul, Int.reduceToNat, Int.reduceNeg, reduceIte, reduceCtorEq, reduceBEq]

    refine condC_split (fun h3 => ?_) (fun h3 => ?_)
    · have hlt : j < padN s.length := by simp at h3; omega
      simp -implicitDefEqProofs only [push_cast, ← hm, Int.reduceBEq, Int.reduceBNe, Int.reduceEq, Int.reduceNe, Int.reducePow, Nat.reduceAdd, Nat.reduceMul, Nat.reduceSub, Nat.reduceLT, Nat.reduceLeDiff, Nat.reduceEqDiff, Nat.reduceBEq, Int.reduceLT, Int.reduceLE, Int.reduceAdd, Int.reduceSub, Int.reduceMul, Int.reduceToNat, Int.reduceNeg, reduceIte, reduceCtorEq, reduceBEq]
      skip
      (repeat (first | refine ⟨by (unfold drawOk; kernel_rfl), ?_⟩ | refine ⟨by omega, ?_⟩))
      refine ⟨⟨j + 1, by omega⟩, by simp only; omega, ?_⟩
      rw [← List.append_assoc, zeros_succ]
      (simp only [RfiS.st]; exact Wk.by _ _ _ [] [] [] (by simp) (by simp [wkV, PV.el, PV.weak, PS.get, PS.obj, PS.lv, lkp_hit, lkp_miss, lkp_nil, lko]) (by simp [PS.get, PS.obj, PS.lv, lkp_hit, lkp_miss, lkp_nil, lko, wkL, wkC, PV.weak]) (by simp [PS.get, PS.obj, PS.lv, lkp_hit, lkp_miss, lkp_nil, lko]) (by rfl) (by rfl) (by simp [lko]) (by simp) (by simp) (by simp) (fun i hi => absurd hi (Nat.not_lt_zero i)))
    · have he : j = padN s.length := by simp at h3; omega
      subst he
      simp -implicitDefEqProofs only [push_cast, Int.reduceBEq, Int.reduceBNe, Int.reduceEq, Int.reduceNe, Int.reducePow, Nat.reduceAdd, Nat.reduceMul, Nat.reduceSub, Nat.reduceLT, Nat.reduceLeDiff, Nat.reduceEqDiff, Nat.reduceBEq, Int.reduceLT, Int.reduceLE, Int.reduceAdd, Int.reduceSub, Int.reduceMul, Int.reduceToNat, Int.reduceNeg, reduceIte, reduceCtorEq, reduceBEq]
      skip
      first | done | rfl | exact ⟨_, rfl, by simp [wkL, res2, res1, PV.weak, p1]⟩

theorem putS_fits' {o s n : Int} (h : fitsN s n = true) : putS o s n = encB o (wid s) n := by rw [putS, if_pos h]
structure RrwS (L : List Int) where
  i : Nat
  hi : i ≤ L.length
def RrwS.st (o s : Int) {L : List Int} (a : RrwS L) : PS := { n := 32, env := [(8, .int .i64 a.i), (7, .slt 1 (bs (row1 o s L a.i)) 50), (2, .sl 1 (ints L)), (1, .int .i64 s), (0, .int .i64 o)], objs := [], live := [(50, true)], nxt := 60 }
set_option maxHeartbeats 2000000 in
theorem rrow_fs {o s : Int} (ho : isOrder o) (hs : isSize s) (L : List Int) (hL : L.length ≤ 1000000) (hf : rowFit s L L.length = true) : Fsp Tryd.prog 57 [] 0 [.int .i64 o, .int .i64 s, .sl 1 (ints L)] [] 0 (.str (row1 o s L L.length)) := by
  have hby := rbytes_fs hs
  have hw4 := wid_pos hs
  have hwr : IntKind.i64.wrap ((L.length : Int) * (wid s : Int)) = ((L.length * wid s : Nat) : Int) := by
    have h1 : L.length * wid s ≤ L.length * 4 := Nat.mul_le_mul_left _ hw4.2
    rw [wrap_i64_id (by omega) (by omega)]; push_cast; rfl
  have hle : L.length * wid s ≤ 4000000 := by
    have h1 : L.length * wid s ≤ L.length * 4 := Nat.mul_le_mul_left _ hw4.2
    omega
  (refine Fsp.of (nx := 0) mixed Tryd.func57 rfl (by decide) (by first | exact Nat.le_refl _ | simp) (by simp [Tryd.f57]) ⟨by decide, by decide⟩ ?_; simp -implicitDefEqProofs only [push_cast, Tryd.f57, ints_length, Int.reduceBEq, Int.reduceBNe, Int.reduceEq, Int.reduceNe, Int.reducePow, Nat.reduceAdd, Nat.reduceMul, Nat.reduceSub, Nat.reduceLT, Nat.reduceLeDiff, Nat.reduceEqDiff, Nat.reduceBEq, Int.reduceLT, Int.reduceLE, Int.reduceAdd, Int.reduceSub, Int.reduceMul, Int.reduceToNat, Int.reduceNeg, reduceIte, reduceCtorEq, reduceBEq])
  refine callE_pure hby (by rfl) (by rfl) (by rfl) (by decide) (by rfl) (fun _ => by rfl) (by first | rfl | simp [gdOk, newToks]) ?_
  simp -implicitDefEqProofs only [push_cast, ints_length, hwr, Int.reduceBEq, Int.reduceBNe, Int.reduceEq, Int.reduceNe, Int.reducePow, Nat.reduceAdd, Nat.reduceMul, Nat.reduceSub, Nat.reduceLT, Nat.reduceLeDiff, Nat.reduceEqDiff, Nat.reduceBEq, Int.reduceLT, Int.reduceLE, Int.reduceAdd, Int.reduceSub, Int.reduceMul, Int.reduceToNat, Int.reduceNeg, reduceIte, reduceCtorEq, reduceBEq]
  have hc : (L.length : Int) * (wid s : Int) = ((L.length * wid s : Nat) : Int) := by push_cast; rfl
  refine ⟨by rw [hc]; omega, by rw [hc]; omega, by rw [hc]; omega, ?_⟩
  refine loopC_of (α := RrwS L) (RrwS.st o s) (fun a => L.length - a.i) ⟨0, by omega⟩ ?_ ?_
  · (simp only [RrwS.st]; exact Wk.by _ _ _ [] [(50, 24)] [] (by simp) (by simp [wkV, PV.el, PV.weak, PS.get, PS.obj, PS.lv, lkp_hit, lkp_miss, lkp_nil, lko, row1, bs]) (by simp [PS.get, PS.obj, PS.lv, lkp_hit, lkp_miss, lkp_nil, lko, wkL, wkC, PV.weak, row1, bs]) (by simp [PS.get, PS.obj, PS.lv, lkp_hit, lkp_miss, lkp_nil, lko]) (by rfl) (by rfl) (by simp [lko]) (by simp) (by simp) (by simp) (fun i hi => absurd hi (Nat.not_lt_zero i)))
  · rintro ⟨i, hi⟩
    simp -implicitDefEqProofs only [push_cast, RrwS.st, ints_length, Int.reduceBEq, Int.reduceBNe, Int.reduceEq, Int.reduceNe, Int.reducePow, Nat.reduceAdd, Nat.reduceMul, Nat.reduceSub, Nat.reduceLT, Nat.reduceLeDiff, Nat.reduceEqDiff, Nat.reduceBEq, Int.reduceLT, Int.reduceLE, Int.reduceAdd, Int.reduceSub, Int.reduceMul, Int.reduceToNat, Int.reduceNeg, reduceIte, reduceCtorEq, reduceBEq]
    refine condC_split (fun h3 => ?_) (fun h3 => ?_)
    · have hlt : i < L.length := by simp [ints_length] at h3; omega
      have hg := ints_at hlt
      have hfi : fitsN s (L.getD i 0) = true := by
        rw [rowFit, List.all_eq_true] at hf
        exact hf i (List.mem_range.2 hlt)
      have hnu := rnum_fs ho hs (L.getD i 0) hfi
      rw [← (putS_fits' hfi)] at hnu
      have hsu := row1_succ o s L i
      have hpl := putS_length (o := o) hs (L.getD i 0)
      have hrl := row1_length o hs L i
      have hwr2 : IntKind.i64.wrap ((i : Int) + 1) = ((i + 1 : Nat) : Int) := by (rw [wrap_i64_id (by omega) (by omega)]; rfl)
      generalize putS o s (L.getD i 0) = pb at hnu hsu hpl
      generalize row1 o s L i = rb at hsu hrl
      simp -implicitDefEqProofs only [push_cast, hg, ints_length, Int.reduceBEq, Int.reduceBNe, Int.reduceEq, Int.reduceNe, Int.reducePow, Nat.reduceAdd, Nat.reduceMul, Nat.reduceSub, Nat.reduceLT, Nat.reduceLeDiff, Nat.reduceEqDiff, Nat.reduceBEq, Int.reduceLT, Int.reduceLE, Int.reduceAdd, Int.reduceSub, Int.reduceMul, Int.reduceToNat, Int.reduceNeg, reduceIte, reduceCtorEq, reduceBEq]
      (repeat (first | refine ⟨by omega, ?_⟩ | refine ⟨by (unfold drawOk; kernel_rfl), ?_⟩))
      refine callE_pure hnu (by rfl) (by rfl) (by rfl) (by decide) (by rfl) (fun _ => by rfl) (by first | rfl | simp [gdOk, newToks]) ?_
      simp -implicitDefEqProofs only [push_cast, hg, ints_length, Int.reduceBEq, Int.reduceBNe, Int.reduceEq, Int.reduceNe, Int.reducePow, Nat.reduceAdd, Nat.reduceMul, Nat.reduceSub, Nat.reduceLT, Nat.reduceLeDiff, Nat.reduceEqDiff, Nat.reduceBEq, Int.reduceLT, Int.reduceLE, Int.reduceAdd, Int.reduceSub, Int.reduceMul, Int.reduceToNat, Int.reduceNeg, reduceIte, reduceCtorEq, reduceBEq]
      skip
      have hbl : (bs rb).length = rb.length := bs_length _
      refine ⟨by rw [hbl, List.length_map]; omega, by rw [hbl, List.length_map]; omega, ⟨i + 1, by omega⟩, by simp only; omega, ?_⟩
      rw [hwr2, show bs rb ++ List.map (fun b => PV.int IntKind.u8 (b.toNat : Int)) pb = bs (rb ++ pb) from (bs_append _ _).symm]
      (simp only [RrwS.st]; exact Wk.by _ _ _ [] [(50, 108)] [] (by simp) (by simp [wkV, PV.el, PV.weak, PS.get, PS.obj, PS.lv, lkp_hit, lkp_miss, lkp_nil, lko, hsu]) (by simp [PS.get, PS.obj, PS.lv, lkp_hit, lkp_miss, lkp_nil, lko, wkL, wkC, PV.weak, hsu]) (by simp [PS.get, PS.obj, PS.lv, lkp_hit, lkp_miss, lkp_nil, lko]) (by rfl) (by rfl) (by simp [lko]) (by simp) (by simp) (by simp) (fun i hi => absurd hi (Nat.not_lt_zero i)))
    · have he : i = L.length := by simp [ints_length] at h3; omega
      subst he
      simp -implicitDefEqProofs only [push_cast, ints_length, Int.reduceBEq, Int.reduceBNe, Int.reduceEq, Int.reduceNe, Int.reducePow, Nat.reduceAdd, Nat.reduceMul, Nat.reduceSub, Nat.reduceLT, Nat.reduceLeDiff, Nat.reduceEqDiff, Nat.reduceBEq, Int.reduceLT, Int.reduceLE, Int.reduceAdd, Int.reduceSub, Int.reduceMul, Int.reduceToNat, Int.reduceNeg, reduceIte, reduceCtorEq, reduceBEq]
      skip
      exact ⟨bs_isByte _, bs_byteOf _⟩
end Go.Proofs.Sh

/- The document's layer 3: parts, Reply, Event. -/
set_option maxRecDepth 100000
set_option linter.unusedSimpArgs false
set_option linter.unusedVariables false
namespace Go.Proofs.Sh
open Go.Pv


def prt (at' : UInt8) : List UInt8 → List UInt8 → List (List UInt8)
  | cur, [] => [cur]
  | cur, b :: l => if b == at' then cur :: prt at' [] l else prt at' (cur ++ [b]) l
structure PtS (s : List UInt8) (at' : UInt8) where
  i : Nat
  fr : Nat
  out : List (List UInt8)
  h : (i ≤ s.length ∧ fr ≤ i ∧ out ++ prt at' ((s.drop fr).take (i - fr)) (s.drop i) = prt at' [] s) ∨ (i = s.length + 1 ∧ out = prt at' [] s)
  hl : out.length ≤ i
def PtS.st {s : List UInt8} {at' : UInt8} (a : PtS s at') : PS :=
  { n := 35, env := [(7, .int .i64 a.i), (6, .int .i64 a.fr), (5, .slt 1 (a.out.map .str) 50), (1, .int .u8 at'.toNat), (0, .str s)], objs := [], live := [(50, true)], nxt := 60 }
theorem drop_cons {s : List UInt8} {i : Nat} (h : i < s.length) : s.drop i = s.getD i 0 :: s.drop (i + 1) := by
  rw [List.drop_eq_getElem_cons h, List.getD_eq_getElem?_getD, List.getElem?_eq_getElem h]; rfl
theorem parts_fs (s : List UInt8) (at' : UInt8) (hs : s.length ≤ 1000000) : Fsp Tryd.prog 65 [] 0 [.str s, .int .u8 at'.toNat] [] 1 (.slt 1 ((prt at' [] s).map .str) 0) := by
  (refine Fsp.of (nx := 0) mixed Tryd.func65 rfl (by decide) (by first | exact Nat.le_refl _ | simp) (by simp [Tryd.f65]) ⟨by decide, by decide⟩ ?_; simp -implicitDefEqProofs only [push_cast, Tryd.f65, Int.reduceBEq, Int.reduceBNe, Int.reduceEq, Int.reduceNe, Int.reducePow, Nat.reduceAdd, Nat.reduceMul, Nat.reduceSub, Nat.reduceLT, Nat.reduceLeDiff, Nat.reduceEqDiff, Nat.reduceBEq, Int.reduceLT, Int.reduceLE, Int.reduceAdd, Int.reduceSub, Int.reduceMul, Int.reduceToNat, Int.reduceNeg, reduceIte, reduceCtorEq, reduceBEq])
  refine loopC_of (α := PtS s at') PtS.st (fun a => s.length + 2 - a.i) ⟨0, 0, [], .inl ⟨by omega, by omega, by simp⟩, by simp⟩ ?_ ?_
  · (simp only [PtS.st]; exact WkOf.wk (β := []) (τ := []) (em := [50]) ⟨by simp, by simp [wkV, PV.el, PV.weak, PS.get, lkp_hit, lkp_miss, lkp_nil, lko], by simp, by simp, by simp [PS.lv, lko, lkp_hit, lkp_miss, lkp_nil], by rfl, by rfl, by simp [lko], by simp, by simp, by simp, fun i hi => absurd hi (Nat.not_lt_zero i)⟩)
  · rintro ⟨i, fr, out, h, hl⟩
    simp -implicitDefEqProofs only [push_cast, PtS.st, Int.reduceBEq, Int.reduceBNe, Int.reduceEq, Int.reduceNe, Int.reducePow, Nat.reduceAdd, Nat.reduceMul, Nat.reduceSub, Nat.reduceLT, Nat.reduceLeDiff, Nat.reduceEqDiff, Nat.reduceBEq, Int.reduceLT, Int.reduceLE, Int.reduceAdd, Int.reduceSub, Int.reduceMul, Int.reduceToNat, Int.reduceNeg, reduceIte, reduceCtorEq, reduceBEq]
    refine condC_split (fun hc => ?_) (fun hc => ?_)
    · have hi : i ≤ s.length := by simpa using hc
      simp -implicitDefEqProofs only [push_cast, Int.reduceBEq, Int.reduceBNe, Int.reduceEq, Int.reduceNe, Int.reducePow, Nat.reduceAdd, Nat.reduceMul, Nat.reduceSub, Nat.reduceLT, Nat.reduceLeDiff, Nat.reduceEqDiff, Nat.reduceBEq, Int.reduceLT, Int.reduceLE, Int.reduceAdd, Int.reduceSub, Int.reduceMul, Int.reduceToNat, Int.reduceNeg, reduceIte, reduceCtorEq, reduceBEq]
      refine ⟨fun h => ⟨h, by simp at h; omega⟩, ?_⟩
      refine condC_split (fun h2 => ?_) (fun h2 => ?_)
      · simp -implicitDefEqProofs only [push_cast, Int.reduceBEq, Int.reduceBNe, Int.reduceEq, Int.reduceNe, Int.reducePow, Nat.reduceAdd, Nat.reduceMul, Nat.reduceSub, Nat.reduceLT, Nat.reduceLeDiff, Nat.reduceEqDiff, Nat.reduceBEq, Int.reduceLT, Int.reduceLE, Int.reduceAdd, Int.reduceSub, Int.reduceMul, Int.reduceToNat, Int.reduceNeg, reduceIte, reduceCtorEq, reduceBEq]
        obtain ⟨-, hf, he⟩ | ⟨h1, -⟩ := h
        · refine ⟨hf, hi, by simp; omega, by simp; omega, ?_⟩
          rw [show IntKind.i64.wrap ((i : Int) + 1) = ((i + 1 : Nat) : Int) by rw [wrap_i64_id (by omega) (by omega)]; rfl]
          refine ⟨⟨i + 1, i + 1, out ++ [(s.drop fr).take (i - fr)], ?_, by simp; omega⟩, by simp only; omega, ?_⟩
          · rcases Nat.lt_or_eq_of_le hi with hlt | rfl
            · left
              refine ⟨by omega, by omega, ?_⟩
              have h3 : s.getD i 0 = at' := by
                simp only [Bool.or_eq_true, beq_iff_eq] at h2
                rcases h2 with h2 | h2
                · omega
                · exact UInt8.toNat_inj.1 (by omega)
              rw [← he, drop_cons hlt, prt, h3, if_pos (by simp)]
              simp
            · right
              refine ⟨rfl, ?_⟩
              rw [← he]
              simp [prt]
          · (simp only [PtS.st]; exact WkOf.wk (β := []) (τ := [(50, 144)]) (em := []) ⟨by simp, by simp [wkV, PV.el, PV.weak, PS.get, lkp_hit, lkp_miss, lkp_nil, lko], by simp, by simp, by simp [PS.lv, lko, lkp_hit, lkp_miss, lkp_nil], by rfl, by rfl, by simp [lko], by simp, by simp, by simp, fun i hi => absurd hi (Nat.not_lt_zero i)⟩)
        · omega
      · simp -implicitDefEqProofs only [push_cast, Int.reduceBEq, Int.reduceBNe, Int.reduceEq, Int.reduceNe, Int.reducePow, Nat.reduceAdd, Nat.reduceMul, Nat.reduceSub, Nat.reduceLT, Nat.reduceLeDiff, Nat.reduceEqDiff, Nat.reduceBEq, Int.reduceLT, Int.reduceLE, Int.reduceAdd, Int.reduceSub, Int.reduceMul, Int.reduceToNat, Int.reduceNeg, reduceIte, reduceCtorEq, reduceBEq]
        obtain ⟨-, hf, he⟩ | ⟨h1, -⟩ := h
        · rw [show IntKind.i64.wrap ((i : Int) + 1) = ((i + 1 : Nat) : Int) by rw [wrap_i64_id (by omega) (by omega)]; rfl]
          have hlt : i < s.length := by simp at h2; omega
          refine ⟨⟨i + 1, fr, out, .inl ⟨by omega, by omega, ?_⟩, by omega⟩, by simp only; omega, ?_⟩
          · rw [← he, drop_cons hlt, prt, if_neg (by simp at h2 ⊢; exact fun e => h2.2 (by rw [e]))]
            rw [show i + 1 - fr = (i - fr) + 1 by omega, List.take_succ_eq_append_getElem (by simp; omega)]
            congr 2
            simp only [List.getElem_drop, List.getD_eq_getElem?_getD]
            rw [List.getElem?_eq_getElem hlt]
            simp [show fr + (i - fr) = i by omega]
          · (simp only [PtS.st]; exact WkOf.wk (β := []) (τ := [(50, 50)]) (em := []) ⟨by simp, by simp [wkV, PV.el, PV.weak, PS.get, lkp_hit, lkp_miss, lkp_nil, lko], by simp, by simp, by simp [PS.lv, lko, lkp_hit, lkp_miss, lkp_nil], by rfl, by rfl, by simp [lko], by simp, by simp, by simp, fun i hi => absurd hi (Nat.not_lt_zero i)⟩)
        · omega
    · simp -implicitDefEqProofs only [push_cast, Int.reduceBEq, Int.reduceBNe, Int.reduceEq, Int.reduceNe, Int.reducePow, Nat.reduceAdd, Nat.reduceMul, Nat.reduceSub, Nat.reduceLT, Nat.reduceLeDiff, Nat.reduceEqDiff, Nat.reduceBEq, Int.reduceLT, Int.reduceLE, Int.reduceAdd, Int.reduceSub, Int.reduceMul, Int.reduceToNat, Int.reduceNeg, reduceIte, reduceCtorEq, reduceBEq]
      obtain ⟨h1, -⟩ | ⟨-, rfl⟩ := h
      · simp at hc; omega
      · exact endK_toks [50] rfl rfl (by simp [PS.lv, lkp_hit]) ⟨by simp [resOk, PS.ev, PS.get, lkp_hit, PV.cnd], by simp [resPV, PS.get, lkp_hit], by simp [resOf, resPV, one', res3, res2, res1, idx, PS.get, lkp_hit, PV.un]⟩

/-- parts, as an oracle. -/
def prtCl : Cl := fnCl 65 fun args => match args with
  | [.str s, .int .u8 (.ofNat n)] => match Nat.blt n 256 && Nat.ble s.length 1000000 with | true => some (.sl 1 ((prt (UInt8.ofNat n) [] s).map .str)) | false => none
  | _ => none
theorem prtCl_ok : prtCl.Ok Tryd.prog := fnCl_ok fun args r h => by
  split at h
  · rename_i s n
    split at h
    · rename_i hh
      simp only [Bool.and_eq_true, Nat.blt_eq, Nat.ble_eq] at hh
      cases h
      have := parts_fs s (UInt8.ofNat n) hh.2
      rw [show (UInt8.ofNat n).toNat = n by simp [UInt8.toNat_ofNat']; omega] at this
      exact this.untok
    · cases h
  · cases h
def rrepsL : List PV := [.str [45], .str [45], .str [45], .str [45], .str [45], .str [45], .str [45], .str [45], .str [112, 97, 114, 101, 110, 116, 52, 32, 120, 45, 50, 32, 121, 45, 50, 32, 119, 50, 32, 104, 50, 32, 109, 97, 112, 112, 101, 100, 49, 32, 118, 105, 101, 119, 97, 98, 108, 101, 49], .str [112, 97, 114, 101, 110, 116, 52, 32, 76, 52], .str [97, 116, 111, 109, 52], .str [66], .str [45], .str [45], .str [116, 121, 112, 101, 52, 32, 102, 111, 114, 109, 97, 116, 49, 32, 108, 101, 102, 116, 52, 32, 76, 52], .str [76, 52], .str [45], .str [45], .str [45], .str [45], .str [45], .str [45], .str [45], .str [45], .str [97, 115, 99, 101, 110, 116, 49, 32, 100, 101, 115, 99, 101, 110, 116, 49, 32, 76, 49], .str [45], .str [45], .str [45], .str [45], .str [45], .str [45], .str [45], .str [45], .str [45], .str [119, 50, 32, 104, 50, 32, 66], .str [45], .str [45], .str [105, 100, 52, 32, 114, 101, 118, 101, 114, 116, 49], .str [115, 116, 97, 116, 117, 115, 49], .str [45], .str [45], .str [45], .str [115, 116, 97, 116, 117, 115, 49], .str [45], .str [45], .str [45], .str [45], .str [99, 104, 105, 108, 100, 52, 32, 114, 111, 111, 116, 120, 45, 50, 32, 114, 111, 111, 116, 121, 45, 50, 32, 120, 45, 50, 32, 121, 45, 50, 32, 115, 116, 97, 116, 101, 50], .str [45], .str [45], .str [105, 100, 52], .str [45], .str [45], .str [45], .str [45], .str [45], .str [45], .str [45]]
def rrepsT : PV := .sl 1 rrepsL
theorem rrepsL_len : rrepsL.length = 58 := by kernel_rfl
theorem rreps_fs : Fsp Tryd.prog 62 [] 0 [] [] 0 rrepsT := ranIsU mixed anyCl_ok (wbf := fun f => Nat.beq f 79 || Nat.beq f 83) (n := 60) (d := 10) (by kernel_rfl)
def revsL : List PV := [.str [107, 101, 121, 45, 112, 114, 101, 115, 115, 124, 119, 105, 110, 100, 111, 119, 52, 32, 99, 104, 105, 108, 100, 52, 32, 99, 111, 100, 101, 49, 32, 115, 116, 97, 116, 101, 50, 32, 120, 45, 50, 32, 121, 45, 50, 32, 114, 111, 111, 116, 120, 45, 50, 32, 114, 111, 111, 116, 121, 45, 50, 32, 116, 105, 109, 101, 52], .str [107, 101, 121, 45, 114, 101, 108, 101, 97, 115, 101, 124, 119, 105, 110, 100, 111, 119, 52, 32, 99, 104, 105, 108, 100, 52, 32, 99, 111, 100, 101, 49, 32, 115, 116, 97, 116, 101, 50, 32, 120, 45, 50, 32, 121, 45, 50, 32, 114, 111, 111, 116, 120, 45, 50, 32, 114, 111, 111, 116, 121, 45, 50, 32, 116, 105, 109, 101, 52], .str [98, 117, 116, 116, 111, 110, 45, 112, 114, 101, 115, 115, 124, 119, 105, 110, 100, 111, 119, 52, 32, 99, 104, 105, 108, 100, 52, 32, 99, 111, 100, 101, 49, 32, 115, 116, 97, 116, 101, 50, 32, 120, 45, 50, 32, 121, 45, 50, 32, 114, 111, 111, 116, 120, 45, 50, 32, 114, 111, 111, 116, 121, 45, 50, 32, 116, 105, 109, 101, 52], .str [98, 117, 116, 116, 111, 110, 45, 114, 101, 108, 101, 97, 115, 101, 124, 119, 105, 110, 100, 111, 119, 52, 32, 99, 104, 105, 108, 100, 52, 32, 99, 111, 100, 101, 49, 32, 115, 116, 97, 116, 101, 50, 32, 120, 45, 50, 32, 121, 45, 50, 32, 114, 111, 111, 116, 120, 45, 50, 32, 114, 111, 111, 116, 121, 45, 50, 32, 116, 105, 109, 101, 52], .str [109, 111, 116, 105, 111, 110, 124, 119, 105, 110, 100, 111, 119, 52, 32, 99, 104, 105, 108, 100, 52, 32, 99, 111, 100, 101, 49, 32, 115, 116, 97, 116, 101, 50, 32, 120, 45, 50, 32, 121, 45, 50, 32, 114, 111, 111, 116, 120, 45, 50, 32, 114, 111, 111, 116, 121, 45, 50, 32, 116, 105, 109, 101, 52], .str [101, 110, 116, 101, 114, 124, 119, 105, 110, 100, 111, 119, 52, 32, 100, 101, 116, 97, 105, 108, 49, 32, 120, 45, 50, 32, 121, 45, 50, 32, 114, 111, 111, 116, 120, 45, 50, 32, 114, 111, 111, 116, 121, 45, 50, 32, 115, 116, 97, 116, 101, 50, 32, 116, 105, 109, 101, 52], .str [108, 101, 97, 118, 101, 124, 119, 105, 110, 100, 111, 119, 52, 32, 100, 101, 116, 97, 105, 108, 49, 32, 120, 45, 50, 32, 121, 45, 50, 32, 114, 111, 111, 116, 120, 45, 50, 32, 114, 111, 111, 116, 121, 45, 50, 32, 115, 116, 97, 116, 101, 50, 32, 116, 105, 109, 101, 52], .str [102, 111, 99, 117, 115, 45, 105, 110, 124, 119, 105, 110, 100, 111, 119, 52, 32, 100, 101, 116, 97, 105, 108, 49], .str [102, 111, 99, 117, 115, 45, 111, 117, 116, 124, 119, 105, 110, 100, 111, 119, 52, 32, 100, 101, 116, 97, 105, 108, 49], .str [101, 120, 112, 111, 115, 101, 124, 119, 105, 110, 100, 111, 119, 52, 32, 120, 50, 32, 121, 50, 32, 119, 50, 32, 104, 50, 32, 99, 111, 117, 110, 116, 50], .str [103, 114, 97, 112, 104, 105, 99, 115, 45, 101, 120, 112, 111, 115, 101, 124, 100, 114, 97, 119, 97, 98, 108, 101, 52, 32, 120, 50, 32, 121, 50, 32, 119, 50, 32, 104, 50, 32, 99, 111, 117, 110, 116, 50], .str [110, 111, 45, 101, 120, 112, 111, 115, 101, 124, 100, 114, 97, 119, 97, 98, 108, 101, 52], .str [99, 114, 101, 97, 116, 101, 124, 112, 97, 114, 101, 110, 116, 52, 32, 119, 105, 110, 100, 111, 119, 52, 32, 120, 45, 50, 32, 121, 45, 50, 32, 119, 50, 32, 104, 50, 32, 111, 118, 101, 114, 114, 105, 100, 101, 49], .str [100, 101, 115, 116, 114, 111, 121, 124, 101, 118, 101, 110, 116, 52, 32, 119, 105, 110, 100, 111, 119, 52], .str [109, 97, 112, 124, 101, 118, 101, 110, 116, 52, 32, 119, 105, 110, 100, 111, 119, 52, 32, 111, 118, 101, 114, 114, 105, 100, 101, 49], .str [117, 110, 109, 97, 112, 124, 101, 118, 101, 110, 116, 52, 32, 119, 105, 110, 100, 111, 119, 52], .str [109, 97, 112, 45, 114, 101, 113, 117, 101, 115, 116, 124, 112, 97, 114, 101, 110, 116, 52, 32, 119, 105, 110, 100, 111, 119, 52], .str [99, 111, 110, 102, 105, 103, 117, 114, 101, 124, 101, 118, 101, 110, 116, 52, 32, 119, 105, 110, 100, 111, 119, 52, 32, 97, 98, 111, 118, 101, 52, 32, 120, 45, 50, 32, 121, 45, 50, 32, 119, 50, 32, 104, 50, 32, 111, 118, 101, 114, 114, 105, 100, 101, 49], .str [99, 111, 110, 102, 105, 103, 117, 114, 101, 45, 114, 101, 113, 117, 101, 115, 116, 124, 112, 97, 114, 101, 110, 116, 52, 32, 119, 105, 110, 100, 111, 119, 52, 32, 109, 97, 115, 107, 49, 32, 120, 45, 50, 32, 121, 45, 50, 32, 119, 50, 32, 104, 50, 32, 115, 105, 98, 108, 105, 110, 103, 52, 32, 109, 111, 100, 101, 49], .str [114, 101, 112, 97, 114, 101, 110, 116, 124, 101, 118, 101, 110, 116, 52, 32, 119, 105, 110, 100, 111, 119, 52, 32, 112, 97, 114, 101, 110, 116, 52, 32, 120, 45, 50, 32, 121, 45, 50, 32, 111, 118, 101, 114, 114, 105, 100, 101, 49], .str [112, 114, 111, 112, 101, 114, 116, 121, 124, 119, 105, 110, 100, 111, 119, 52, 32, 97, 116, 111, 109, 52, 32, 115, 116, 97, 116, 101, 49, 32, 116, 105, 109, 101, 52], .str [115, 101, 108, 101, 99, 116, 105, 111, 110, 45, 99, 108, 101, 97, 114, 124, 119, 105, 110, 100, 111, 119, 52, 32, 115, 101, 108, 101, 99, 116, 105, 111, 110, 52, 32, 116, 105, 109, 101, 52], .str [115, 101, 108, 101, 99, 116, 105, 111, 110, 45, 114, 101, 113, 117, 101, 115, 116, 124, 111, 119, 110, 101, 114, 52, 32, 114, 101, 113, 117, 101, 115, 116, 111, 114, 52, 32, 115, 101, 108, 101, 99, 116, 105, 111, 110, 52, 32, 116, 97, 114, 103, 101, 116, 52, 32, 112, 114, 111, 112, 101, 114, 116, 121, 52, 32, 116, 105, 109, 101, 52], .str [115, 101, 108, 101, 99, 116, 105, 111, 110, 45, 110, 111, 116, 105, 102, 121, 124, 114, 101, 113, 117, 101, 115, 116, 111, 114, 52, 32, 115, 101, 108, 101, 99, 116, 105, 111, 110, 52, 32, 116, 97, 114, 103, 101, 116, 52, 32, 112, 114, 111, 112, 101, 114, 116, 121, 52, 32, 116, 105, 109, 101, 52], .str [109, 101, 115, 115, 97, 103, 101, 124, 119, 105, 110, 100, 111, 119, 52, 32, 116, 121, 112, 101, 52, 32, 76, 52]]
def revsT : PV := .sl 1 revsL
theorem revsL_len : revsL.length = 25 := by kernel_rfl
theorem revs_fs : Fsp Tryd.prog 64 [] 0 [] [] 0 revsT := ranIsU mixed anyCl_ok (wbf := fun f => Nat.beq f 79 || Nat.beq f 83) (n := 60) (d := 10) (by kernel_rfl)
def clR : Cl := orCl prtCl (orCl (fnCl 62 (nullary rrepsT)) (fnCl 64 (nullary revsT)))
theorem clR_ok : clR.Ok Tryd.prog := orCl_ok prtCl_ok (orCl_ok (nullary_ok rreps_fs) (nullary_ok revs_fs))
theorem rreply_r0 : ranAllF Tryd.prog clR (fun f => Nat.beq f 79 || Nat.beq f 83) 60 10 46 (((repL.map optT).drop 0).take 8) 0 = true := by kernel_rfl
theorem rreply_r8 : ranAllF Tryd.prog clR (fun f => Nat.beq f 79 || Nat.beq f 83) 60 10 46 (((repL.map optT).drop 8).take 8) 8 = true := by kernel_rfl
theorem rreply_r16 : ranAllF Tryd.prog clR (fun f => Nat.beq f 79 || Nat.beq f 83) 60 10 46 (((repL.map optT).drop 16).take 8) 16 = true := by kernel_rfl
theorem rreply_r24 : ranAllF Tryd.prog clR (fun f => Nat.beq f 79 || Nat.beq f 83) 60 10 46 (((repL.map optT).drop 24).take 8) 24 = true := by kernel_rfl
theorem rreply_r32 : ranAllF Tryd.prog clR (fun f => Nat.beq f 79 || Nat.beq f 83) 60 10 46 (((repL.map optT).drop 32).take 8) 32 = true := by kernel_rfl
theorem rreply_r40 : ranAllF Tryd.prog clR (fun f => Nat.beq f 79 || Nat.beq f 83) 60 10 46 (((repL.map optT).drop 40).take 8) 40 = true := by kernel_rfl
theorem rreply_r48 : ranAllF Tryd.prog clR (fun f => Nat.beq f 79 || Nat.beq f 83) 60 10 46 (((repL.map optT).drop 48).take 8) 48 = true := by kernel_rfl
theorem rreply_r56 : ranAllF Tryd.prog clR (fun f => Nat.beq f 79 || Nat.beq f 83) 60 10 46 (((repL.map optT).drop 56).take 8) 56 = true := by kernel_rfl
theorem rreply_at (k : Nat) (r : PV) (hk : (repL.map optT)[k]? = some r) (hlt : k < 59) : Fsp Tryd.prog 46 [] 0 [.int .i64 (k : Int)] [] 0 r := by
  have go : ∀ a, ranAllF Tryd.prog clR (fun f => Nat.beq f 79 || Nat.beq f 83) 60 10 46 (((repL.map optT).drop a).take 8) a = true → a ≤ k → k < a + 8 → Fsp Tryd.prog 46 [] 0 [.int .i64 (k : Int)] [] 0 r := fun a h h1 h2 => by
    have := ranAllF_at mixed clR_ok h (k := k - a) (r := r) (by rw [List.getElem?_take, if_pos (by omega), List.getElem?_drop, show a + (k - a) = k by omega]; exact hk)
    rwa [show a + (k - a) = k by omega] at this
  by_cases h0 : k < 8
  · exact go 0 rreply_r0 (by omega) (by omega)
  by_cases h8 : k < 16
  · exact go 8 rreply_r8 (by omega) (by omega)
  by_cases h16 : k < 24
  · exact go 16 rreply_r16 (by omega) (by omega)
  by_cases h24 : k < 32
  · exact go 24 rreply_r24 (by omega) (by omega)
  by_cases h32 : k < 40
  · exact go 32 rreply_r32 (by omega) (by omega)
  by_cases h40 : k < 48
  · exact go 40 rreply_r40 (by omega) (by omega)
  by_cases h48 : k < 56
  · exact go 48 rreply_r48 (by omega) (by omega)
  by_cases h56 : k < 64
  · exact go 56 rreply_r56 (by omega) (by omega)
  omega
theorem revent_r0 : ranAllF Tryd.prog clR (fun f => Nat.beq f 79 || Nat.beq f 83) 60 10 47 (((evL.map optT).drop 0).take 8) 0 = true := by kernel_rfl
theorem revent_r8 : ranAllF Tryd.prog clR (fun f => Nat.beq f 79 || Nat.beq f 83) 60 10 47 (((evL.map optT).drop 8).take 8) 8 = true := by kernel_rfl
theorem revent_r16 : ranAllF Tryd.prog clR (fun f => Nat.beq f 79 || Nat.beq f 83) 60 10 47 (((evL.map optT).drop 16).take 8) 16 = true := by kernel_rfl
theorem revent_r24 : ranAllF Tryd.prog clR (fun f => Nat.beq f 79 || Nat.beq f 83) 60 10 47 (((evL.map optT).drop 24).take 8) 24 = true := by kernel_rfl
theorem revent_at (k : Nat) (r : PV) (hk : (evL.map optT)[k]? = some r) (hlt : k < 26) : Fsp Tryd.prog 47 [] 0 [.int .i64 (k : Int)] [] 0 r := by
  have go : ∀ a, ranAllF Tryd.prog clR (fun f => Nat.beq f 79 || Nat.beq f 83) 60 10 47 (((evL.map optT).drop a).take 8) a = true → a ≤ k → k < a + 8 → Fsp Tryd.prog 47 [] 0 [.int .i64 (k : Int)] [] 0 r := fun a h h1 h2 => by
    have := ranAllF_at mixed clR_ok h (k := k - a) (r := r) (by rw [List.getElem?_take, if_pos (by omega), List.getElem?_drop, show a + (k - a) = k by omega]; exact hk)
    rwa [show a + (k - a) = k by omega] at this
  by_cases h0 : k < 8
  · exact go 0 revent_r0 (by omega) (by omega)
  by_cases h8 : k < 16
  · exact go 8 revent_r8 (by omega) (by omega)
  by_cases h16 : k < 24
  · exact go 16 revent_r16 (by omega) (by omega)
  by_cases h24 : k < 32
  · exact go 24 revent_r24 (by omega) (by omega)
  omega
theorem rreply_out (n : Int) (h : ¬ (1 ≤ n ∧ n ≤ 58)) : Fsp Tryd.prog 46 [] 0 [.int .i64 n] [] 0 (.tup [.agg [.nilsl, .bool false, .int .i64 0], .bool false]) := by
  rcases Int.lt_or_le n 1 with h1 | h1
  · have h1 : decide (n < 1) = true := by simpa using h1
    (refine Fsp.of (nx := 0) mixed Tryd.func46 rfl (by decide) (by first | exact Nat.le_refl _ | simp) (by simp [Tryd.f46]) ⟨by decide, by decide⟩ ?_; simp -implicitDefEqProofs only [push_cast, Tryd.f46, rrepsT, rrepsL_len, h1, Int.reduceBEq, Int.reduceBNe, Int.reduceEq, Int.reduceNe, Int.reducePow, Nat.reduceAdd, Nat.reduceMul, Nat.reduceSub, Nat.reduceLT, Nat.reduceLeDiff, Nat.reduceEqDiff, Nat.reduceBEq, Int.reduceLT, Int.reduceLE, Int.reduceAdd, Int.reduceSub, Int.reduceMul, Int.reduceToNat, Int.reduceNeg, reduceIte, reduceCtorEq, reduceBEq])
    repeat' (first | refine callE_no ?_ | refine loopC_un 1 ?_ | (refine callE_pure rreps_fs (by rfl) (by rfl) (by rfl) (by decide) (by rfl) (fun _ => by rfl) (by rfl) ?_) | (simp -implicitDefEqProofs only [push_cast, rrepsT, rrepsL_len, h1, Int.reduceBEq, Int.reduceBNe, Int.reduceEq, Int.reduceNe, Int.reducePow, Nat.reduceAdd, Nat.reduceMul, Nat.reduceSub, Nat.reduceLT, Nat.reduceLeDiff, Nat.reduceEqDiff, Nat.reduceBEq, Int.reduceLT, Int.reduceLE, Int.reduceAdd, Int.reduceSub, Int.reduceMul, Int.reduceToNat, Int.reduceNeg, reduceIte, reduceCtorEq, reduceBEq]) | (first | exact Or.inl trivial | trivial | exact ⟨_, rfl, by simp [wkL, res2, res1, PV.weak]⟩ | exact ⟨rfl, _, rfl, by simp [wkL, res2, res1, PV.weak]⟩))
  · have h2 : decide (n < 1) = false := by simp; omega
    have h3 : decide (58 < n) = true := by simp; omega
    (refine Fsp.of (nx := 0) mixed Tryd.func46 rfl (by decide) (by first | exact Nat.le_refl _ | simp) (by simp [Tryd.f46]) ⟨by decide, by decide⟩ ?_; simp -implicitDefEqProofs only [push_cast, Tryd.f46, rrepsT, rrepsL_len, h2, h3, Int.reduceBEq, Int.reduceBNe, Int.reduceEq, Int.reduceNe, Int.reducePow, Nat.reduceAdd, Nat.reduceMul, Nat.reduceSub, Nat.reduceLT, Nat.reduceLeDiff, Nat.reduceEqDiff, Nat.reduceBEq, Int.reduceLT, Int.reduceLE, Int.reduceAdd, Int.reduceSub, Int.reduceMul, Int.reduceToNat, Int.reduceNeg, reduceIte, reduceCtorEq, reduceBEq])
    repeat' (first | refine callE_no ?_ | refine loopC_un 1 ?_ | (refine callE_pure rreps_fs (by rfl) (by rfl) (by rfl) (by decide) (by rfl) (fun _ => by rfl) (by rfl) ?_) | (simp -implicitDefEqProofs only [push_cast, rrepsT, rrepsL_len, h2, h3, Int.reduceBEq, Int.reduceBNe, Int.reduceEq, Int.reduceNe, Int.reducePow, Nat.reduceAdd, Nat.reduceMul, Nat.reduceSub, Nat.reduceLT, Nat.reduceLeDiff, Nat.reduceEqDiff, Nat.reduceBEq, Int.reduceLT, Int.reduceLE, Int.reduceAdd, Int.reduceSub, Int.reduceMul, Int.reduceToNat, Int.reduceNeg, reduceIte, reduceCtorEq, reduceBEq]) | (first | exact Or.inl trivial | trivial | exact ⟨_, rfl, by simp [wkL, res2, res1, PV.weak]⟩ | exact ⟨rfl, _, rfl, by simp [wkL, res2, res1, PV.weak]⟩))
theorem rreply_fs (n : Int) : Fsp Tryd.prog 46 [] 0 [.int .i64 n] [] 0 (optT (replyOf n)) := by
  by_cases h : 1 ≤ n ∧ n ≤ 58
  · obtain ⟨k, rfl⟩ : ∃ k : Nat, n = (k : Int) := ⟨n.toNat, by omega⟩
    have hlt : k < repL.length := by rw [reply_len]; omega
    have hk : (repL.map optT)[k]? = some (optT repL[k]) := by
      rw [List.getElem?_map, List.getElem?_eq_getElem hlt]; rfl
    have e : replyOf (k : Int) = repL[k] := by
      rw [replyOf, inL, if_pos (by rw [reply_len]; omega), Int.toNat_natCast, List.getElem?_eq_getElem hlt]; rfl
    rw [e]; exact rreply_at k _ hk (by omega)
  · have e : replyOf n = none := by rw [replyOf, inL, if_neg (by rw [reply_len]; omega)]
    rw [e]
    exact (rreply_out n h).say fun g v r => fz3_rel r
theorem revent_out (n : Int) (h : ¬ (1 ≤ n ∧ n ≤ 25)) : Fsp Tryd.prog 47 [] 0 [.int .i64 n] [] 0 (.tup [.agg [.nilsl, .bool false, .int .i64 0], .bool false]) := by
  rcases Int.lt_or_le n 1 with h1 | h1
  · have h1 : decide (n < 1) = true := by simpa using h1
    (refine Fsp.of (nx := 0) mixed Tryd.func47 rfl (by decide) (by first | exact Nat.le_refl _ | simp) (by simp [Tryd.f47]) ⟨by decide, by decide⟩ ?_; simp -implicitDefEqProofs only [push_cast, Tryd.f47, revsT, revsL_len, h1, Int.reduceBEq, Int.reduceBNe, Int.reduceEq, Int.reduceNe, Int.reducePow, Nat.reduceAdd, Nat.reduceMul, Nat.reduceSub, Nat.reduceLT, Nat.reduceLeDiff, Nat.reduceEqDiff, Nat.reduceBEq, Int.reduceLT, Int.reduceLE, Int.reduceAdd, Int.reduceSub, Int.reduceMul, Int.reduceToNat, Int.reduceNeg, reduceIte, reduceCtorEq, reduceBEq])
    repeat' (first | refine callE_no ?_ | refine loopC_un 1 ?_ | (refine callE_pure revs_fs (by rfl) (by rfl) (by rfl) (by decide) (by rfl) (fun _ => by rfl) (by rfl) ?_) | (simp -implicitDefEqProofs only [push_cast, revsT, revsL_len, h1, Int.reduceBEq, Int.reduceBNe, Int.reduceEq, Int.reduceNe, Int.reducePow, Nat.reduceAdd, Nat.reduceMul, Nat.reduceSub, Nat.reduceLT, Nat.reduceLeDiff, Nat.reduceEqDiff, Nat.reduceBEq, Int.reduceLT, Int.reduceLE, Int.reduceAdd, Int.reduceSub, Int.reduceMul, Int.reduceToNat, Int.reduceNeg, reduceIte, reduceCtorEq, reduceBEq]) | (first | exact Or.inl trivial | trivial | exact ⟨_, rfl, by simp [wkL, res2, res1, PV.weak]⟩ | exact ⟨rfl, _, rfl, by simp [wkL, res2, res1, PV.weak]⟩))
  · have h2 : decide (n < 1) = false := by simp; omega
    have h3 : decide (25 < n) = true := by simp; omega
    (refine Fsp.of (nx := 0) mixed Tryd.func47 rfl (by decide) (by first | exact Nat.le_refl _ | simp) (by simp [Tryd.f47]) ⟨by decide, by decide⟩ ?_; simp -implicitDefEqProofs only [push_cast, Tryd.f47, revsT, revsL_len, h2, h3, Int.reduceBEq, Int.reduceBNe, Int.reduceEq, Int.reduceNe, Int.reducePow, Nat.reduceAdd, Nat.reduceMul, Nat.reduceSub, Nat.reduceLT, Nat.reduceLeDiff, Nat.reduceEqDiff, Nat.reduceBEq, Int.reduceLT, Int.reduceLE, Int.reduceAdd, Int.reduceSub, Int.reduceMul, Int.reduceToNat, Int.reduceNeg, reduceIte, reduceCtorEq, reduceBEq])
    repeat' (first | refine callE_no ?_ | refine loopC_un 1 ?_ | (refine callE_pure revs_fs (by rfl) (by rfl) (by rfl) (by decide) (by rfl) (fun _ => by rfl) (by rfl) ?_) | (simp -implicitDefEqProofs only [push_cast, revsT, revsL_len, h2, h3, Int.reduceBEq, Int.reduceBNe, Int.reduceEq, Int.reduceNe, Int.reducePow, Nat.reduceAdd, Nat.reduceMul, Nat.reduceSub, Nat.reduceLT, Nat.reduceLeDiff, Nat.reduceEqDiff, Nat.reduceBEq, Int.reduceLT, Int.reduceLE, Int.reduceAdd, Int.reduceSub, Int.reduceMul, Int.reduceToNat, Int.reduceNeg, reduceIte, reduceCtorEq, reduceBEq]) | (first | exact Or.inl trivial | trivial | exact ⟨_, rfl, by simp [wkL, res2, res1, PV.weak]⟩ | exact ⟨rfl, _, rfl, by simp [wkL, res2, res1, PV.weak]⟩))
theorem revent_fs (n : Int) : Fsp Tryd.prog 47 [] 0 [.int .i64 n] [] 0 (optT (eventOf n)) := by
  by_cases h : 1 ≤ n ∧ n ≤ 25
  · obtain ⟨k, rfl⟩ : ∃ k : Nat, n = (k : Int) := ⟨n.toNat, by omega⟩
    have hlt : k < evL.length := by rw [event_len]; omega
    have hk : (evL.map optT)[k]? = some (optT evL[k]) := by
      rw [List.getElem?_map, List.getElem?_eq_getElem hlt]; rfl
    have e : eventOf (k : Int) = evL[k] := by
      rw [eventOf, inL, if_pos (by rw [event_len]; omega), Int.toNat_natCast, List.getElem?_eq_getElem hlt]; rfl
    rw [e]; exact revent_at k _ hk (by omega)
  · have e : eventOf n = none := by rw [eventOf, inL, if_neg (by rw [event_len]; omega)]
    rw [e]
    exact (revent_out n h).say fun g v r => fz3_rel r
end Go.Proofs.Sh

/- The document's layer 5: form, Check, Put. -/
set_option maxRecDepth 100000
set_option linter.unusedSimpArgs false
set_option linter.unusedVariables false
namespace Go.Proofs.Sh
open Go.Pv

set_option maxHeartbeats 2000000 in
theorem rform_fs (k n : Int) : Fsp Tryd.prog 26 [] 0 [.int .i64 k, .int .i64 n] [] 0 (mFormR k n) := by
  cases h0 : (k == 0)
  · have h0' : ¬ k = 0 := by simpa using h0
    cases h1 : (k == 1)
    · have h1' : ¬ k = 1 := by simpa using h1
      cases h2 : (k == 2)
      · have h2' : ¬ k = 2 := by simpa using h2
        rw [mFormR_none (by rw [mForm, if_neg h0', if_neg h1', if_neg h2']), show mErr k = 10 by rw [mErr, if_neg (by omega)]]
        (refine Fsp.of (nx := 0) mixed Tryd.func26 rfl (by decide) (by first | exact Nat.le_refl _ | simp) (by simp [Tryd.f26]) ⟨by decide, by decide⟩ ?_; simp -implicitDefEqProofs only [push_cast, Tryd.f26, h0, h1, h2, Int.reduceBEq, Int.reduceBNe, Int.reduceEq, Int.reduceNe, Int.reducePow, Nat.reduceAdd, Nat.reduceMul, Nat.reduceSub, Nat.reduceLT, Nat.reduceLeDiff, Nat.reduceEqDiff, Nat.reduceBEq, Int.reduceLT, Int.reduceLE, Int.reduceAdd, Int.reduceSub, Int.reduceMul, Int.reduceToNat, Int.reduceNeg, reduceIte, reduceCtorEq, reduceBEq])
        all_goals first | done | exact ⟨_, rfl, by simp [wkL, res2, res1, PV.weak, PV.el, ints]⟩ | exact ⟨_, rfl, .inr ⟨_, rfl, .inr ⟨.inl rfl, rfl⟩, rfl, rfl, trivial⟩, rfl, trivial⟩
      · obtain rfl : k = 2 := by simpa using h2
        have hq := revent_fs n
        have hm : mForm 2 n = eventOf n := by rw [mForm, if_neg h0', if_neg h1', if_pos rfl]
        cases hf : eventOf n with
        | none =>
          rw [hf] at hq
          simp only [optT, form0] at hq
          rw [mFormR_none (by rw [hm, hf]), show mErr 2 = 6 by decide]
          (refine Fsp.of (nx := 0) mixed Tryd.func26 rfl (by decide) (by first | exact Nat.le_refl _ | simp) (by simp [Tryd.f26]) ⟨by decide, by decide⟩ ?_; simp -implicitDefEqProofs only [push_cast, Tryd.f26, h0, h1, h2, Int.reduceBEq, Int.reduceBNe, Int.reduceEq, Int.reduceNe, Int.reducePow, Nat.reduceAdd, Nat.reduceMul, Nat.reduceSub, Nat.reduceLT, Nat.reduceLeDiff, Nat.reduceEqDiff, Nat.reduceBEq, Int.reduceLT, Int.reduceLE, Int.reduceAdd, Int.reduceSub, Int.reduceMul, Int.reduceToNat, Int.reduceNeg, reduceIte, reduceCtorEq, reduceBEq])
          refine callE_pure hq (by rfl) (by rfl) (by rfl) (by decide) (by rfl) (fun _ => by rfl) (by first | rfl | simp [gdOk, newToks]) ?_
          simp -implicitDefEqProofs only [push_cast, Int.reduceBEq, Int.reduceBNe, Int.reduceEq, Int.reduceNe, Int.reducePow, Nat.reduceAdd, Nat.reduceMul, Nat.reduceSub, Nat.reduceLT, Nat.reduceLeDiff, Nat.reduceEqDiff, Nat.reduceBEq, Int.reduceLT, Int.reduceLE, Int.reduceAdd, Int.reduceSub, Int.reduceMul, Int.reduceToNat, Int.reduceNeg, reduceIte, reduceCtorEq, reduceBEq]
          all_goals first | done | exact ⟨_, rfl, by simp [wkL, res2, res1, PV.weak, PV.el, ints]⟩ | exact ⟨_, rfl, .inr ⟨_, rfl, .inr ⟨.inl rfl, rfl⟩, rfl, rfl, trivial⟩, rfl, trivial⟩
        | some f =>
          rw [hf] at hq
          simp only [optT, formT, Fm.pv] at hq
          rw [mFormR_some (by rw [hm, hf]), Fm.pv]
          (refine Fsp.of (nx := 0) mixed Tryd.func26 rfl (by decide) (by first | exact Nat.le_refl _ | simp) (by simp [Tryd.f26]) ⟨by decide, by decide⟩ ?_; simp -implicitDefEqProofs only [push_cast, Tryd.f26, h0, h1, h2, Int.reduceBEq, Int.reduceBNe, Int.reduceEq, Int.reduceNe, Int.reducePow, Nat.reduceAdd, Nat.reduceMul, Nat.reduceSub, Nat.reduceLT, Nat.reduceLeDiff, Nat.reduceEqDiff, Nat.reduceBEq, Int.reduceLT, Int.reduceLE, Int.reduceAdd, Int.reduceSub, Int.reduceMul, Int.reduceToNat, Int.reduceNeg, reduceIte, reduceCtorEq, reduceBEq])
          refine callE_pure hq (by rfl) (by rfl) (by rfl) (by decide) (by rfl) (fun _ => by rfl) (by first | rfl | simp [gdOk, newToks]) ?_
          simp -implicitDefEqProofs only [push_cast, Int.reduceBEq, Int.reduceBNe, Int.reduceEq, Int.reduceNe, Int.reducePow, Nat.reduceAdd, Nat.reduceMul, Nat.reduceSub, Nat.reduceLT, Nat.reduceLeDiff, Nat.reduceEqDiff, Nat.reduceBEq, Int.reduceLT, Int.reduceLE, Int.reduceAdd, Int.reduceSub, Int.reduceMul, Int.reduceToNat, Int.reduceNeg, reduceIte, reduceCtorEq, reduceBEq]
          all_goals first | done | exact ⟨_, rfl, by simp [wkL, res2, res1, PV.weak, PV.el, ints]⟩ | exact ⟨_, rfl, .inr ⟨_, rfl, .inr ⟨.inl rfl, rfl⟩, rfl, rfl, trivial⟩, rfl, trivial⟩
    · obtain rfl : k = 1 := by simpa using h1
      have hq := rreply_fs n
      have hm : mForm 1 n = replyOf n := by rw [mForm, if_neg h0', if_pos rfl]
      cases hf : replyOf n with
      | none =>
        rw [hf] at hq
        simp only [optT, form0] at hq
        rw [mFormR_none (by rw [hm, hf]), show mErr 1 = 6 by decide]
        (refine Fsp.of (nx := 0) mixed Tryd.func26 rfl (by decide) (by first | exact Nat.le_refl _ | simp) (by simp [Tryd.f26]) ⟨by decide, by decide⟩ ?_; simp -implicitDefEqProofs only [push_cast, Tryd.f26, h0, h1, Int.reduceBEq, Int.reduceBNe, Int.reduceEq, Int.reduceNe, Int.reducePow, Nat.reduceAdd, Nat.reduceMul, Nat.reduceSub, Nat.reduceLT, Nat.reduceLeDiff, Nat.reduceEqDiff, Nat.reduceBEq, Int.reduceLT, Int.reduceLE, Int.reduceAdd, Int.reduceSub, Int.reduceMul, Int.reduceToNat, Int.reduceNeg, reduceIte, reduceCtorEq, reduceBEq])
        refine callE_pure hq (by rfl) (by rfl) (by rfl) (by decide) (by rfl) (fun _ => by rfl) (by first | rfl | simp [gdOk, newToks]) ?_
        simp -implicitDefEqProofs only [push_cast, Int.reduceBEq, Int.reduceBNe, Int.reduceEq, Int.reduceNe, Int.reducePow, Nat.reduceAdd, Nat.reduceMul, Nat.reduceSub, Nat.reduceLT, Nat.reduceLeDiff, Nat.reduceEqDiff, Nat.reduceBEq, Int.reduceLT, Int.reduceLE, Int.reduceAdd, Int.reduceSub, Int.reduceMul, Int.reduceToNat, Int.reduceNeg, reduceIte, reduceCtorEq, reduceBEq]
        all_goals first | done | exact ⟨_, rfl, by simp [wkL, res2, res1, PV.weak, PV.el, ints]⟩ | exact ⟨_, rfl, .inr ⟨_, rfl, .inr ⟨.inl rfl, rfl⟩, rfl, rfl, trivial⟩, rfl, trivial⟩
      | some f =>
        rw [hf] at hq
        simp only [optT, formT, Fm.pv] at hq
        rw [mFormR_some (by rw [hm, hf]), Fm.pv]
        (refine Fsp.of (nx := 0) mixed Tryd.func26 rfl (by decide) (by first | exact Nat.le_refl _ | simp) (by simp [Tryd.f26]) ⟨by decide, by decide⟩ ?_; simp -implicitDefEqProofs only [push_cast, Tryd.f26, h0, h1, Int.reduceBEq, Int.reduceBNe, Int.reduceEq, Int.reduceNe, Int.reducePow, Nat.reduceAdd, Nat.reduceMul, Nat.reduceSub, Nat.reduceLT, Nat.reduceLeDiff, Nat.reduceEqDiff, Nat.reduceBEq, Int.reduceLT, Int.reduceLE, Int.reduceAdd, Int.reduceSub, Int.reduceMul, Int.reduceToNat, Int.reduceNeg, reduceIte, reduceCtorEq, reduceBEq])
        refine callE_pure hq (by rfl) (by rfl) (by rfl) (by decide) (by rfl) (fun _ => by rfl) (by first | rfl | simp [gdOk, newToks]) ?_
        simp -implicitDefEqProofs only [push_cast, Int.reduceBEq, Int.reduceBNe, Int.reduceEq, Int.reduceNe, Int.reducePow, Nat.reduceAdd, Nat.reduceMul, Nat.reduceSub, Nat.reduceLT, Nat.reduceLeDiff, Nat.reduceEqDiff, Nat.reduceBEq, Int.reduceLT, Int.reduceLE, Int.reduceAdd, Int.reduceSub, Int.reduceMul, Int.reduceToNat, Int.reduceNeg, reduceIte, reduceCtorEq, reduceBEq]
        all_goals first | done | exact ⟨_, rfl, by simp [wkL, res2, res1, PV.weak, PV.el, ints]⟩ | exact ⟨_, rfl, .inr ⟨_, rfl, .inr ⟨.inl rfl, rfl⟩, rfl, rfl, trivial⟩, rfl, trivial⟩
  · obtain rfl : k = 0 := by simpa using h0
    by_cases hn : 1 ≤ n ∧ n ≤ 255
    · have hd1 : decide (n < 1) = false := by simp; omega
      have hd2 : decide (255 < n) = false := by simp; omega
      have hd3 : decide (1 ≤ n) = true := by simp; omega
      have hd4 : decide (n ≤ 255) = true := by simp; omega
      rw [mFormR_some (f := fault0) (by rw [mForm, if_pos rfl, if_pos hn]), Fm.pv, fault0]
      (refine Fsp.of (nx := 0) mixed Tryd.func26 rfl (by decide) (by first | exact Nat.le_refl _ | simp) (by simp [Tryd.f26]) ⟨by decide, by decide⟩ ?_; simp -implicitDefEqProofs only [push_cast, Tryd.f26, hd1, hd2, hd3, hd4, Int.reduceBEq, Int.reduceBNe, Int.reduceEq, Int.reduceNe, Int.reducePow, Nat.reduceAdd, Nat.reduceMul, Nat.reduceSub, Nat.reduceLT, Nat.reduceLeDiff, Nat.reduceEqDiff, Nat.reduceBEq, Int.reduceLT, Int.reduceLE, Int.reduceAdd, Int.reduceSub, Int.reduceMul, Int.reduceToNat, Int.reduceNeg, reduceIte, reduceCtorEq, reduceBEq])
      all_goals first | done | exact ⟨_, rfl, by simp [wkL, res2, res1, PV.weak, PV.el, ints]⟩ | exact ⟨_, rfl, .inr ⟨_, rfl, .inr ⟨.inl rfl, rfl⟩, rfl, rfl, trivial⟩, rfl, trivial⟩
    · rw [mFormR_none (by rw [mForm, if_pos rfl, if_neg hn]), show mErr 0 = 6 by decide]
      rcases Int.lt_or_le n 1 with h1 | h1
      · have hd1 : decide (1 ≤ n) = false := by simp; omega
        have hd2 : decide (n < 1) = true := by simp; omega
        (refine Fsp.of (nx := 0) mixed Tryd.func26 rfl (by decide) (by first | exact Nat.le_refl _ | simp) (by simp [Tryd.f26]) ⟨by decide, by decide⟩ ?_; simp -implicitDefEqProofs only [push_cast, Tryd.f26, hd1, hd2, Int.reduceBEq, Int.reduceBNe, Int.reduceEq, Int.reduceNe, Int.reducePow, Nat.reduceAdd, Nat.reduceMul, Nat.reduceSub, Nat.reduceLT, Nat.reduceLeDiff, Nat.reduceEqDiff, Nat.reduceBEq, Int.reduceLT, Int.reduceLE, Int.reduceAdd, Int.reduceSub, Int.reduceMul, Int.reduceToNat, Int.reduceNeg, reduceIte, reduceCtorEq, reduceBEq])
        all_goals first | done | exact ⟨_, rfl, by simp [wkL, res2, res1, PV.weak, PV.el, ints]⟩ | exact ⟨_, rfl, .inr ⟨_, rfl, .inr ⟨.inl rfl, rfl⟩, rfl, rfl, trivial⟩, rfl, trivial⟩
      · have hd1 : decide (1 ≤ n) = true := by simp; omega
        have hd2 : decide (n < 1) = false := by simp; omega
        have hd3 : decide (n ≤ 255) = false := by simp; omega
        have hd4 : decide (255 < n) = true := by simp; omega
        (refine Fsp.of (nx := 0) mixed Tryd.func26 rfl (by decide) (by first | exact Nat.le_refl _ | simp) (by simp [Tryd.f26]) ⟨by decide, by decide⟩ ?_; simp -implicitDefEqProofs only [push_cast, Tryd.f26, hd1, hd2, hd3, hd4, Int.reduceBEq, Int.reduceBNe, Int.reduceEq, Int.reduceNe, Int.reducePow, Nat.reduceAdd, Nat.reduceMul, Nat.reduceSub, Nat.reduceLT, Nat.reduceLeDiff, Nat.reduceEqDiff, Nat.reduceBEq, Int.reduceLT, Int.reduceLE, Int.reduceAdd, Int.reduceSub, Int.reduceMul, Int.reduceToNat, Int.reduceNeg, reduceIte, reduceCtorEq, reduceBEq])
        all_goals first | done | exact ⟨_, rfl, by simp [wkL, res2, res1, PV.weak, PV.el, ints]⟩ | exact ⟨_, rfl, .inr ⟨_, rfl, .inr ⟨.inl rfl, rfl⟩, rfl, rfl, trivial⟩, rfl, trivial⟩

end Go.Proofs.Sh
