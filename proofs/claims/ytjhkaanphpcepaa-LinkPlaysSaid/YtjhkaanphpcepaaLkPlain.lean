/- A part of the proof. -/
import Derived.Test.YtjhkaanphpcepaaLkPacket
set_option maxRecDepth 100000
namespace Go.Proofs.Lk
open Go.Pv
noncomputable def run0 (f : Nat) (args : List PV) := runI Try.prog noCl (fun _ => false) 12 4 f [] 0 args
theorem run0_fs {f : Nat} {args : List PV} {r : PV} (h : run0 f args = some ([], 0, r)) : Fsp Try.prog f [] 0 args [] 0 r := runI_ok mixed (noCl_ok _) _ _ _ _ _ _ _ h
theorem size4 : Fsp Try.prog 43 [] 0 [.int .i64 4] [] 0 (.int .i64 4) := run0_fs (by kernel_rfl)
theorem size2 : Fsp Try.prog 43 [] 0 [.int .i64 2] [] 0 (.int .i64 2) := run0_fs (by kernel_rfl)
theorem least4 : Fsp Try.prog 44 [] 0 [.int .i64 4] [] 0 (.int .i64 0) := run0_fs (by kernel_rfl)
theorem least2 : Fsp Try.prog 44 [] 0 [.int .i64 2] [] 0 (.int .i64 0) := run0_fs (by kernel_rfl)
theorem most4 : Fsp Try.prog 45 [] 0 [.int .i64 4] [] 0 (.int .i64 4294967295) := run0_fs (by kernel_rfl)
theorem most2 : Fsp Try.prog 45 [] 0 [.int .i64 2] [] 0 (.int .i64 65535) := run0_fs (by kernel_rfl)
theorem turned4 (a b c d : UInt8) : Fsp Try.prog 47 [] 0 [.str [a, b, c, d]] [] 0 (.str [d, c, b, a]) := run0_fs (by kernel_rfl)
theorem turned2 (a b : UInt8) : Fsp Try.prog 47 [] 0 [.str [a, b]] [] 0 (.str [b, a]) := run0_fs (by kernel_rfl)
end Go.Proofs.Lk

set_option maxRecDepth 100000
set_option linter.unusedSimpArgs false
namespace Go.Proofs.Lk
open Go.Pv

/-- The last digit, as the document's answer reckons it. -/
def digit (v : Int) : UInt8 := Pv.byteOf (PV.int .u8 (IntKind.u8.wrap (v.tmod 256)))
def next (v : Int) : Int := IntKind.i64.wrap (v.tdiv 256)

set_option maxHeartbeats 4000000 in
theorem put4 (v : Int) : Fsp Try.prog 32 [] 0 [.int .i64 1, .int .i64 4, .int .i64 v] [] 0 (if (decide (v < 0) || decide (4294967295 < v)) = true then .tup [.str [], .int .i64 1] else .tup [.str [digit (next (next (next v))), digit (next (next v)), digit (next v), digit v], .int .i64 0]) := by
  refine Fsp.of (nx := 0) mixed Try.func32 rfl (by decide) (Nat.le_refl _) (by simp [Try.f32]) ⟨by decide, by decide⟩ ?_
  simp -implicitDefEqProofs only [Try.f32, push_cast, Int.reduceBEq, Int.reduceBNe, Int.reduceEq, Int.reduceNe, Int.reducePow, Nat.reduceAdd, Nat.reduceMul, Nat.reduceSub, Nat.reduceLT, Nat.reduceLeDiff, Nat.reduceEqDiff, Nat.reduceBEq, Int.reduceLT, Int.reduceLE, Int.reduceAdd, Int.reduceSub, Int.reduceMul, Int.reduceToNat, Int.reduceNeg, reduceIte, reduceCtorEq, reduceBEq]
  refine callE_pure size4 (by rfl) (by rfl) (by rfl) (by decide) (by rfl) (fun _ => by rfl) (by first | rfl | simp [gdOk, newToks]) ?_
  simp -implicitDefEqProofs only [push_cast, Int.reduceBEq, Int.reduceBNe, Int.reduceEq, Int.reduceNe, Int.reducePow, Nat.reduceAdd, Nat.reduceMul, Nat.reduceSub, Nat.reduceLT, Nat.reduceLeDiff, Nat.reduceEqDiff, Nat.reduceBEq, Int.reduceLT, Int.reduceLE, Int.reduceAdd, Int.reduceSub, Int.reduceMul, Int.reduceToNat, Int.reduceNeg, reduceIte, reduceCtorEq, reduceBEq]
  refine callE_pure least4 (by rfl) (by rfl) (by rfl) (by decide) (by rfl) (fun _ => by rfl) (by first | rfl | simp [gdOk, newToks]) ?_
  simp -implicitDefEqProofs only [push_cast, Int.reduceBEq, Int.reduceBNe, Int.reduceEq, Int.reduceNe, Int.reducePow, Nat.reduceAdd, Nat.reduceMul, Nat.reduceSub, Nat.reduceLT, Nat.reduceLeDiff, Nat.reduceEqDiff, Nat.reduceBEq, Int.reduceLT, Int.reduceLE, Int.reduceAdd, Int.reduceSub, Int.reduceMul, Int.reduceToNat, Int.reduceNeg, reduceIte, reduceCtorEq, reduceBEq]
  refine callE_pure most4 (by rfl) (by rfl) (by rfl) (by decide) (by rfl) (fun h => by simpa [cndAll, PS.ev, PS.get, lkp, PV.cnd] using h) (by first | rfl | simp [gdOk, newToks]) ?_
  simp -implicitDefEqProofs only [push_cast, Int.reduceBEq, Int.reduceBNe, Int.reduceEq, Int.reduceNe, Int.reducePow, Nat.reduceAdd, Nat.reduceMul, Nat.reduceSub, Nat.reduceLT, Nat.reduceLeDiff, Nat.reduceEqDiff, Nat.reduceBEq, Int.reduceLT, Int.reduceLE, Int.reduceAdd, Int.reduceSub, Int.reduceMul, Int.reduceToNat, Int.reduceNeg, reduceIte, reduceCtorEq, reduceBEq]
  refine condC_split (fun h => ?_) (fun h => ?_)
  · rw [if_pos h]
    simp -implicitDefEqProofs only [push_cast, Int.reduceBEq, Int.reduceBNe, Int.reduceEq, Int.reduceNe, Int.reducePow, Nat.reduceAdd, Nat.reduceMul, Nat.reduceSub, Nat.reduceLT, Nat.reduceLeDiff, Nat.reduceEqDiff, Nat.reduceBEq, Int.reduceLT, Int.reduceLE, Int.reduceAdd, Int.reduceSub, Int.reduceMul, Int.reduceToNat, Int.reduceNeg, reduceIte, reduceCtorEq, reduceBEq]
    exact ⟨_, rfl, by simp [wkL, res2, res1, PV.weak]⟩
  · rw [if_neg (by rw [h]; exact Bool.false_ne_true)]
    simp -implicitDefEqProofs only [push_cast, Int.reduceBEq, Int.reduceBNe, Int.reduceEq, Int.reduceNe, Int.reducePow, Nat.reduceAdd, Nat.reduceMul, Nat.reduceSub, Nat.reduceLT, Nat.reduceLeDiff, Nat.reduceEqDiff, Nat.reduceBEq, Int.reduceLT, Int.reduceLE, Int.reduceAdd, Int.reduceSub, Int.reduceMul, Int.reduceToNat, Int.reduceNeg, reduceIte, reduceCtorEq, reduceBEq]
    have hv : (decide (v < 0)) = false := by
      rw [Bool.or_eq_false_iff] at h; exact h.1
    rw [hv, condC_false]
    simp -implicitDefEqProofs only [push_cast, Int.reduceBEq, Int.reduceBNe, Int.reduceEq, Int.reduceNe, Int.reducePow, Nat.reduceAdd, Nat.reduceMul, Nat.reduceSub, Nat.reduceLT, Nat.reduceLeDiff, Nat.reduceEqDiff, Nat.reduceBEq, Int.reduceLT, Int.reduceLE, Int.reduceAdd, Int.reduceSub, Int.reduceMul, Int.reduceToNat, Int.reduceNeg, reduceIte, reduceCtorEq, reduceBEq]
    refine loopC_un 5 ?_
    simp -implicitDefEqProofs only [push_cast, Int.reduceBEq, Int.reduceBNe, Int.reduceEq, Int.reduceNe, Int.reducePow, Nat.reduceAdd, Nat.reduceMul, Nat.reduceSub, Nat.reduceLT, Nat.reduceLeDiff, Nat.reduceEqDiff, Nat.reduceBEq, Int.reduceLT, Int.reduceLE, Int.reduceAdd, Int.reduceSub, Int.reduceMul, Int.reduceToNat, Int.reduceNeg, reduceIte, reduceCtorEq, reduceBEq]
    refine callE_pure (turned4 _ _ _ _) (by rfl) (by rfl) (by rfl) (by decide) (by rfl) (fun _ => by rfl) (by first | rfl | simp [gdOk, newToks]) ?_
    simp -implicitDefEqProofs only [push_cast, Int.reduceBEq, Int.reduceBNe, Int.reduceEq, Int.reduceNe, Int.reducePow, Nat.reduceAdd, Nat.reduceMul, Nat.reduceSub, Nat.reduceLT, Nat.reduceLeDiff, Nat.reduceEqDiff, Nat.reduceBEq, Int.reduceLT, Int.reduceLE, Int.reduceAdd, Int.reduceSub, Int.reduceMul, Int.reduceToNat, Int.reduceNeg, reduceIte, reduceCtorEq, reduceBEq]
    exact ⟨_, rfl, by simp [wkL, res2, res1, PV.weak, digit, next, Pv.byteOf]⟩

set_option maxHeartbeats 4000000 in
theorem put2 (v : Int) : Fsp Try.prog 32 [] 0 [.int .i64 1, .int .i64 2, .int .i64 v] [] 0 (if (decide (v < 0) || decide (65535 < v)) = true then .tup [.str [], .int .i64 1] else .tup [.str [digit (next v), digit v], .int .i64 0]) := by
  refine Fsp.of (nx := 0) mixed Try.func32 rfl (by decide) (Nat.le_refl _) (by simp [Try.f32]) ⟨by decide, by decide⟩ ?_
  simp -implicitDefEqProofs only [Try.f32, push_cast, Int.reduceBEq, Int.reduceBNe, Int.reduceEq, Int.reduceNe, Int.reducePow, Nat.reduceAdd, Nat.reduceMul, Nat.reduceSub, Nat.reduceLT, Nat.reduceLeDiff, Nat.reduceEqDiff, Nat.reduceBEq, Int.reduceLT, Int.reduceLE, Int.reduceAdd, Int.reduceSub, Int.reduceMul, Int.reduceToNat, Int.reduceNeg, reduceIte, reduceCtorEq, reduceBEq]
  refine callE_pure size2 (by rfl) (by rfl) (by rfl) (by decide) (by rfl) (fun _ => by rfl) (by first | rfl | simp [gdOk, newToks]) ?_
  simp -implicitDefEqProofs only [push_cast, Int.reduceBEq, Int.reduceBNe, Int.reduceEq, Int.reduceNe, Int.reducePow, Nat.reduceAdd, Nat.reduceMul, Nat.reduceSub, Nat.reduceLT, Nat.reduceLeDiff, Nat.reduceEqDiff, Nat.reduceBEq, Int.reduceLT, Int.reduceLE, Int.reduceAdd, Int.reduceSub, Int.reduceMul, Int.reduceToNat, Int.reduceNeg, reduceIte, reduceCtorEq, reduceBEq]
  refine callE_pure least2 (by rfl) (by rfl) (by rfl) (by decide) (by rfl) (fun _ => by rfl) (by first | rfl | simp [gdOk, newToks]) ?_
  simp -implicitDefEqProofs only [push_cast, Int.reduceBEq, Int.reduceBNe, Int.reduceEq, Int.reduceNe, Int.reducePow, Nat.reduceAdd, Nat.reduceMul, Nat.reduceSub, Nat.reduceLT, Nat.reduceLeDiff, Nat.reduceEqDiff, Nat.reduceBEq, Int.reduceLT, Int.reduceLE, Int.reduceAdd, Int.reduceSub, Int.reduceMul, Int.reduceToNat, Int.reduceNeg, reduceIte, reduceCtorEq, reduceBEq]
  refine callE_pure most2 (by rfl) (by rfl) (by rfl) (by decide) (by rfl) (fun h => by simpa [cndAll, PS.ev, PS.get, lkp, PV.cnd] using h) (by first | rfl | simp [gdOk, newToks]) ?_
  simp -implicitDefEqProofs only [push_cast, Int.reduceBEq, Int.reduceBNe, Int.reduceEq, Int.reduceNe, Int.reducePow, Nat.reduceAdd, Nat.reduceMul, Nat.reduceSub, Nat.reduceLT, Nat.reduceLeDiff, Nat.reduceEqDiff, Nat.reduceBEq, Int.reduceLT, Int.reduceLE, Int.reduceAdd, Int.reduceSub, Int.reduceMul, Int.reduceToNat, Int.reduceNeg, reduceIte, reduceCtorEq, reduceBEq]
  refine condC_split (fun h => ?_) (fun h => ?_)
  · rw [if_pos h]
    simp -implicitDefEqProofs only [push_cast, Int.reduceBEq, Int.reduceBNe, Int.reduceEq, Int.reduceNe, Int.reducePow, Nat.reduceAdd, Nat.reduceMul, Nat.reduceSub, Nat.reduceLT, Nat.reduceLeDiff, Nat.reduceEqDiff, Nat.reduceBEq, Int.reduceLT, Int.reduceLE, Int.reduceAdd, Int.reduceSub, Int.reduceMul, Int.reduceToNat, Int.reduceNeg, reduceIte, reduceCtorEq, reduceBEq]
    exact ⟨_, rfl, by simp [wkL, res2, res1, PV.weak]⟩
  · rw [if_neg (by rw [h]; exact Bool.false_ne_true)]
    simp -implicitDefEqProofs only [push_cast, Int.reduceBEq, Int.reduceBNe, Int.reduceEq, Int.reduceNe, Int.reducePow, Nat.reduceAdd, Nat.reduceMul, Nat.reduceSub, Nat.reduceLT, Nat.reduceLeDiff, Nat.reduceEqDiff, Nat.reduceBEq, Int.reduceLT, Int.reduceLE, Int.reduceAdd, Int.reduceSub, Int.reduceMul, Int.reduceToNat, Int.reduceNeg, reduceIte, reduceCtorEq, reduceBEq]
    have hv : (decide (v < 0)) = false := by
      rw [Bool.or_eq_false_iff] at h; exact h.1
    rw [hv, condC_false]
    simp -implicitDefEqProofs only [push_cast, Int.reduceBEq, Int.reduceBNe, Int.reduceEq, Int.reduceNe, Int.reducePow, Nat.reduceAdd, Nat.reduceMul, Nat.reduceSub, Nat.reduceLT, Nat.reduceLeDiff, Nat.reduceEqDiff, Nat.reduceBEq, Int.reduceLT, Int.reduceLE, Int.reduceAdd, Int.reduceSub, Int.reduceMul, Int.reduceToNat, Int.reduceNeg, reduceIte, reduceCtorEq, reduceBEq]
    refine loopC_un 3 ?_
    simp -implicitDefEqProofs only [push_cast, Int.reduceBEq, Int.reduceBNe, Int.reduceEq, Int.reduceNe, Int.reducePow, Nat.reduceAdd, Nat.reduceMul, Nat.reduceSub, Nat.reduceLT, Nat.reduceLeDiff, Nat.reduceEqDiff, Nat.reduceBEq, Int.reduceLT, Int.reduceLE, Int.reduceAdd, Int.reduceSub, Int.reduceMul, Int.reduceToNat, Int.reduceNeg, reduceIte, reduceCtorEq, reduceBEq]
    refine callE_pure (turned2 _ _) (by rfl) (by rfl) (by rfl) (by decide) (by rfl) (fun _ => by rfl) (by first | rfl | simp [gdOk, newToks]) ?_
    simp -implicitDefEqProofs only [push_cast, Int.reduceBEq, Int.reduceBNe, Int.reduceEq, Int.reduceNe, Int.reducePow, Nat.reduceAdd, Nat.reduceMul, Nat.reduceSub, Nat.reduceLT, Nat.reduceLeDiff, Nat.reduceEqDiff, Nat.reduceBEq, Int.reduceLT, Int.reduceLE, Int.reduceAdd, Int.reduceSub, Int.reduceMul, Int.reduceToNat, Int.reduceNeg, reduceIte, reduceCtorEq, reduceBEq]
    exact ⟨_, rfl, by simp [wkL, res2, res1, PV.weak, digit, next, Pv.byteOf]⟩

end Go.Proofs.Lk

set_option maxRecDepth 100000
set_option linter.unusedSimpArgs false
namespace Go.Proofs.Lk
open Go.Pv

def nb (n : Int) : Bool := decide (n < 0) || decide (4294967295 < n)
def rpBad (k n : Int) (b : List UInt8) : Bool := decide (k < 0) || decide (1 < k) || decide (1024 < (b.length : Int)) || k == 0 && b == [] || k == 1 && (b != [] || n != 0)
def rpkt (k n a : Int) (b : List UInt8) : List UInt8 :=
  if rpBad k n b = true then []
  else if nb n = true then [] else if nb a = true then []
  else by8 k :: digit (next (next (next n))) :: digit (next (next n)) :: digit (next n) :: digit n :: digit (next (next (next a))) :: digit (next (next a)) :: digit (next a) :: digit a ::
    digit (next (b.length : Int)) :: digit (b.length : Int) :: b
set_option maxHeartbeats 8000000 in
theorem refPacket_fs (k n a : Int) (b : List UInt8) (hb : b.length ≤ 1000000) : Fsp Try.prog 11 [] 0 [.int .i64 k, .int .i64 n, .int .i64 a, .str b] [] 0 (.str (rpkt k n a b)) := by
  refine Fsp.of (nx := 0) mixed Try.func11 rfl (by decide) (Nat.le_refl _) (by simp [Try.f11]) ⟨by decide, by decide⟩ ?_
  simp -implicitDefEqProofs only [Try.f11, push_cast, Int.reduceBEq, Int.reduceBNe, Int.reduceEq, Int.reduceNe, Int.reducePow, Nat.reduceAdd, Nat.reduceMul, Nat.reduceSub, Nat.reduceLT, Nat.reduceLeDiff, Nat.reduceEqDiff, Nat.reduceBEq, Int.reduceLT, Int.reduceLE, Int.reduceAdd, Int.reduceSub, Int.reduceMul, Int.reduceToNat, Int.reduceNeg, reduceIte, reduceCtorEq, reduceBEq]
  refine ⟨fun h => ⟨h, fun h2 => by simp [h, h2]⟩, fun h => ⟨h, fun h2 => by rw [h]; simp [h2]⟩, ?_⟩
  refine ⟨fun h => ⟨h, fun h2 => by rw [h]; simp [h2]⟩, ?_⟩
  refine condC_split (fun h => ?_) (fun h => ?_)
  · simp -implicitDefEqProofs only [push_cast, Int.reduceBEq, Int.reduceBNe, Int.reduceEq, Int.reduceNe, Int.reducePow, Nat.reduceAdd, Nat.reduceMul, Nat.reduceSub, Nat.reduceLT, Nat.reduceLeDiff, Nat.reduceEqDiff, Nat.reduceBEq, Int.reduceLT, Int.reduceLE, Int.reduceAdd, Int.reduceSub, Int.reduceMul, Int.reduceToNat, Int.reduceNeg, reduceIte, reduceCtorEq, reduceBEq]
    rw [rpkt, if_pos (show rpBad k n b = true from h)]
  · have pn := put4 n
    have pa := put4 a
    have pl := put2 (b.length : Int)
    have hl : (decide ((b.length : Int) < 0) || decide (65535 < (b.length : Int))) = false := by
      simp only [Bool.or_eq_false_iff, decide_eq_false_iff_not] at h ⊢
      omega
    rw [hl, if_neg Bool.false_ne_true] at pl
    rw [rpkt, if_neg (by rw [show rpBad k n b = false from h]; exact Bool.false_ne_true)]
    simp -implicitDefEqProofs only [push_cast, Int.reduceBEq, Int.reduceBNe, Int.reduceEq, Int.reduceNe, Int.reducePow, Nat.reduceAdd, Nat.reduceMul, Nat.reduceSub, Nat.reduceLT, Nat.reduceLeDiff, Nat.reduceEqDiff, Nat.reduceBEq, Int.reduceLT, Int.reduceLE, Int.reduceAdd, Int.reduceSub, Int.reduceMul, Int.reduceToNat, Int.reduceNeg, reduceIte, reduceCtorEq, reduceBEq]
    cases hn : nb n <;> cases ha : nb a <;> (unfold nb at hn ha; rw [hn] at pn; rw [ha] at pa; simp only [if_true, if_false, Bool.false_eq_true, reduceIte] at pn pa ⊢)
    · refine callE_pure pn (by rfl) (by rfl) (by rfl) (by decide) (by rfl) (fun _ => by rfl) (by first | rfl | simp [gdOk, newToks]) ?_
      simp -implicitDefEqProofs only [push_cast, Int.reduceBEq, Int.reduceBNe, Int.reduceEq, Int.reduceNe, Int.reducePow, Nat.reduceAdd, Nat.reduceMul, Nat.reduceSub, Nat.reduceLT, Nat.reduceLeDiff, Nat.reduceEqDiff, Nat.reduceBEq, Int.reduceLT, Int.reduceLE, Int.reduceAdd, Int.reduceSub, Int.reduceMul, Int.reduceToNat, Int.reduceNeg, reduceIte, reduceCtorEq, reduceBEq]
      refine callE_pure pa (by rfl) (by rfl) (by rfl) (by decide) (by rfl) (fun _ => by rfl) (by first | rfl | simp [gdOk, newToks]) ?_
      simp -implicitDefEqProofs only [push_cast, Int.reduceBEq, Int.reduceBNe, Int.reduceEq, Int.reduceNe, Int.reducePow, Nat.reduceAdd, Nat.reduceMul, Nat.reduceSub, Nat.reduceLT, Nat.reduceLeDiff, Nat.reduceEqDiff, Nat.reduceBEq, Int.reduceLT, Int.reduceLE, Int.reduceAdd, Int.reduceSub, Int.reduceMul, Int.reduceToNat, Int.reduceNeg, reduceIte, reduceCtorEq, reduceBEq]
      refine callE_pure pl (by rfl) (by rfl) (by rfl) (by decide) (by rfl) (fun _ => by rfl) (by first | rfl | simp [gdOk, newToks]) ?_
      simp -implicitDefEqProofs only [push_cast, Int.reduceBEq, Int.reduceBNe, Int.reduceEq, Int.reduceNe, Int.reducePow, Nat.reduceAdd, Nat.reduceMul, Nat.reduceSub, Nat.reduceLT, Nat.reduceLeDiff, Nat.reduceEqDiff, Nat.reduceBEq, Int.reduceLT, Int.reduceLE, Int.reduceAdd, Int.reduceSub, Int.reduceMul, Int.reduceToNat, Int.reduceNeg, reduceIte, reduceCtorEq, reduceBEq]
      exact ⟨by omega, rfl⟩
    · refine callE_pure pn (by rfl) (by rfl) (by rfl) (by decide) (by rfl) (fun _ => by rfl) (by first | rfl | simp [gdOk, newToks]) ?_
      simp -implicitDefEqProofs only [push_cast, Int.reduceBEq, Int.reduceBNe, Int.reduceEq, Int.reduceNe, Int.reducePow, Nat.reduceAdd, Nat.reduceMul, Nat.reduceSub, Nat.reduceLT, Nat.reduceLeDiff, Nat.reduceEqDiff, Nat.reduceBEq, Int.reduceLT, Int.reduceLE, Int.reduceAdd, Int.reduceSub, Int.reduceMul, Int.reduceToNat, Int.reduceNeg, reduceIte, reduceCtorEq, reduceBEq]
      refine callE_pure pa (by rfl) (by rfl) (by rfl) (by decide) (by rfl) (fun _ => by rfl) (by first | rfl | simp [gdOk, newToks]) ?_
      simp -implicitDefEqProofs only [push_cast, Int.reduceBEq, Int.reduceBNe, Int.reduceEq, Int.reduceNe, Int.reducePow, Nat.reduceAdd, Nat.reduceMul, Nat.reduceSub, Nat.reduceLT, Nat.reduceLeDiff, Nat.reduceEqDiff, Nat.reduceBEq, Int.reduceLT, Int.reduceLE, Int.reduceAdd, Int.reduceSub, Int.reduceMul, Int.reduceToNat, Int.reduceNeg, reduceIte, reduceCtorEq, reduceBEq]
      refine callE_pure pl (by rfl) (by rfl) (by rfl) (by decide) (by rfl) (fun _ => by rfl) (by first | rfl | simp [gdOk, newToks]) ?_
      simp -implicitDefEqProofs only [push_cast, Int.reduceBEq, Int.reduceBNe, Int.reduceEq, Int.reduceNe, Int.reducePow, Nat.reduceAdd, Nat.reduceMul, Nat.reduceSub, Nat.reduceLT, Nat.reduceLeDiff, Nat.reduceEqDiff, Nat.reduceBEq, Int.reduceLT, Int.reduceLE, Int.reduceAdd, Int.reduceSub, Int.reduceMul, Int.reduceToNat, Int.reduceNeg, reduceIte, reduceCtorEq, reduceBEq]
    · refine callE_pure pn (by rfl) (by rfl) (by rfl) (by decide) (by rfl) (fun _ => by rfl) (by first | rfl | simp [gdOk, newToks]) ?_
      simp -implicitDefEqProofs only [push_cast, Int.reduceBEq, Int.reduceBNe, Int.reduceEq, Int.reduceNe, Int.reducePow, Nat.reduceAdd, Nat.reduceMul, Nat.reduceSub, Nat.reduceLT, Nat.reduceLeDiff, Nat.reduceEqDiff, Nat.reduceBEq, Int.reduceLT, Int.reduceLE, Int.reduceAdd, Int.reduceSub, Int.reduceMul, Int.reduceToNat, Int.reduceNeg, reduceIte, reduceCtorEq, reduceBEq]
      refine callE_pure pa (by rfl) (by rfl) (by rfl) (by decide) (by rfl) (fun _ => by rfl) (by first | rfl | simp [gdOk, newToks]) ?_
      simp -implicitDefEqProofs only [push_cast, Int.reduceBEq, Int.reduceBNe, Int.reduceEq, Int.reduceNe, Int.reducePow, Nat.reduceAdd, Nat.reduceMul, Nat.reduceSub, Nat.reduceLT, Nat.reduceLeDiff, Nat.reduceEqDiff, Nat.reduceBEq, Int.reduceLT, Int.reduceLE, Int.reduceAdd, Int.reduceSub, Int.reduceMul, Int.reduceToNat, Int.reduceNeg, reduceIte, reduceCtorEq, reduceBEq]
      refine callE_pure pl (by rfl) (by rfl) (by rfl) (by decide) (by rfl) (fun _ => by rfl) (by first | rfl | simp [gdOk, newToks]) ?_
      simp -implicitDefEqProofs only [push_cast, Int.reduceBEq, Int.reduceBNe, Int.reduceEq, Int.reduceNe, Int.reducePow, Nat.reduceAdd, Nat.reduceMul, Nat.reduceSub, Nat.reduceLT, Nat.reduceLeDiff, Nat.reduceEqDiff, Nat.reduceBEq, Int.reduceLT, Int.reduceLE, Int.reduceAdd, Int.reduceSub, Int.reduceMul, Int.reduceToNat, Int.reduceNeg, reduceIte, reduceCtorEq, reduceBEq]
    · refine callE_pure pn (by rfl) (by rfl) (by rfl) (by decide) (by rfl) (fun _ => by rfl) (by first | rfl | simp [gdOk, newToks]) ?_
      simp -implicitDefEqProofs only [push_cast, Int.reduceBEq, Int.reduceBNe, Int.reduceEq, Int.reduceNe, Int.reducePow, Nat.reduceAdd, Nat.reduceMul, Nat.reduceSub, Nat.reduceLT, Nat.reduceLeDiff, Nat.reduceEqDiff, Nat.reduceBEq, Int.reduceLT, Int.reduceLE, Int.reduceAdd, Int.reduceSub, Int.reduceMul, Int.reduceToNat, Int.reduceNeg, reduceIte, reduceCtorEq, reduceBEq]
      refine callE_pure pa (by rfl) (by rfl) (by rfl) (by decide) (by rfl) (fun _ => by rfl) (by first | rfl | simp [gdOk, newToks]) ?_
      simp -implicitDefEqProofs only [push_cast, Int.reduceBEq, Int.reduceBNe, Int.reduceEq, Int.reduceNe, Int.reducePow, Nat.reduceAdd, Nat.reduceMul, Nat.reduceSub, Nat.reduceLT, Nat.reduceLeDiff, Nat.reduceEqDiff, Nat.reduceBEq, Int.reduceLT, Int.reduceLE, Int.reduceAdd, Int.reduceSub, Int.reduceMul, Int.reduceToNat, Int.reduceNeg, reduceIte, reduceCtorEq, reduceBEq]
      refine callE_pure pl (by rfl) (by rfl) (by rfl) (by decide) (by rfl) (fun _ => by rfl) (by first | rfl | simp [gdOk, newToks]) ?_
      simp -implicitDefEqProofs only [push_cast, Int.reduceBEq, Int.reduceBNe, Int.reduceEq, Int.reduceNe, Int.reducePow, Nat.reduceAdd, Nat.reduceMul, Nat.reduceSub, Nat.reduceLT, Nat.reduceLeDiff, Nat.reduceEqDiff, Nat.reduceBEq, Int.reduceLT, Int.reduceLE, Int.reduceAdd, Int.reduceSub, Int.reduceMul, Int.reduceToNat, Int.reduceNeg, reduceIte, reduceCtorEq, reduceBEq]
end Go.Proofs.Lk

namespace Go.Proofs.Lk
open Go.Pv
theorem next_eq {v : Int} (h : 0 ≤ v) (h2 : v ≤ 4294967295) : next v = v / 256 ∧ 0 ≤ v / 256 ∧ v / 256 ≤ 4294967295 := by
  have h3 : v.tdiv 256 = v / 256 := Int.tdiv_eq_ediv_of_nonneg h
  refine ⟨?_, by omega, by omega⟩
  rw [next, h3, wrap_i64_id (by omega) (by omega)]
theorem by8_eq {v w : Int} (h : 0 ≤ w) (e : v % 256 = w % 256) : by8 v = digit w := by
  have h3 : w.tmod 256 = w % 256 := Int.tmod_eq_emod_of_nonneg h
  unfold by8 digit
  simp only [Pv.byteOf]
  rw [h3, IntKind.wrap_u8', IntKind.wrap_u8', e]
  congr 2
  omega
theorem pkt_eq (k n a : Int) (b : List UInt8) : pkt k n a b = rpkt k n a b := by
  unfold pkt rpkt
  by_cases hn : nb n = true
  · have : (decide (n < 0) || decide (4294967295 < n) || decide (a < 0) || decide (4294967295 < a)) = true := by unfold nb at hn; simp [hn]
    rw [if_pos this, if_pos hn]
    split <;> rfl
  · by_cases ha : nb a = true
    · have : (decide (n < 0) || decide (4294967295 < n) || decide (a < 0) || decide (4294967295 < a)) = true := by
        unfold nb at ha
        simp only [Bool.or_eq_true, decide_eq_true_eq] at ha ⊢
        rcases ha with h | h <;> simp [h]
      rw [if_pos this, if_pos ha, if_neg hn]
      split <;> rfl
    · have h1 : 0 ≤ n ∧ n ≤ 4294967295 := by unfold nb at hn; simp at hn; omega
      have h2 : 0 ≤ a ∧ a ≤ 4294967295 := by unfold nb at ha; simp at ha; omega
      have : ¬ (decide (n < 0) || decide (4294967295 < n) || decide (a < 0) || decide (4294967295 < a)) = true := by
        simp; omega
      rw [if_neg this, if_neg hn, if_neg ha]
      have key : (b.length : Int) ≤ 1024 → pktBytes k n a b = by8 k :: digit (next (next (next n))) :: digit (next (next n)) :: digit (next n) :: digit n :: digit (next (next (next a))) :: digit (next (next a)) :: digit (next a) :: digit a ::
          digit (next (b.length : Int)) :: digit (b.length : Int) :: b := by
        intro hl
        have hb0 : (0 : Int) ≤ b.length := Int.natCast_nonneg _
        obtain ⟨n1, n1a, n1b⟩ := next_eq h1.1 h1.2
        obtain ⟨n2, n2a, n2b⟩ := next_eq n1a n1b
        obtain ⟨n3, n3a, n3b⟩ := next_eq n2a n2b
        obtain ⟨a1, a1a, a1b⟩ := next_eq h2.1 h2.2
        obtain ⟨a2, a2a, a2b⟩ := next_eq a1a a1b
        obtain ⟨a3, a3a, a3b⟩ := next_eq a2a a2b
        obtain ⟨l1, l1a, l1b⟩ := next_eq (v := (b.length : Int)) hb0 (by omega)
        unfold pktBytes
        have f1 : ∀ x : Int, x.fdiv 256 = x / 256 := fun x => Int.fdiv_eq_ediv_of_nonneg x (by omega)
        have f2 : ∀ x : Int, x.fdiv 65536 = x / 65536 := fun x => Int.fdiv_eq_ediv_of_nonneg x (by omega)
        have f3 : ∀ x : Int, x.fdiv 16777216 = x / 16777216 := fun x => Int.fdiv_eq_ediv_of_nonneg x (by omega)
        rw [f1, f1, f1, f2, f2, f3, f3, n1, n2, n3, a1, a2, a3, l1]
        rw [by8_eq (v := n / 16777216) n3a (by omega), by8_eq (v := n / 65536) n2a (by omega), by8_eq (v := n / 256) n1a rfl, by8_eq (v := n) h1.1 rfl,
          by8_eq (v := a / 16777216) a3a (by omega), by8_eq (v := a / 65536) a2a (by omega), by8_eq (v := a / 256) a1a rfl, by8_eq (v := a) h2.1 rfl,
          by8_eq (v := (b.length : Int) / 256) l1a rfl, by8_eq (v := (b.length : Int)) hb0 rfl]
      unfold rpBad
      by_cases k0 : k = 0
      · subst k0
        by_cases hb : (b == [] || decide (1024 < (b.length : Int))) = true
        · rw [if_pos (by decide), if_pos hb, if_pos (by simp only [Bool.or_eq_true] at hb ⊢; rcases hb with h | h <;> simp [h])]
        · rw [if_pos (by decide), if_neg hb]
          simp only [Bool.or_eq_true, not_or, decide_eq_true_eq, Bool.not_eq_true] at hb
          rw [if_neg (by simp [hb.1, hb.2]), key (by omega)]
      · rw [if_neg (by simpa using k0)]
        by_cases k1 : k = 1
        · subst k1
          by_cases hb : (b != [] || n != 0) = true
          · rw [if_pos (by decide), if_pos hb, if_pos (by simp [hb])]
          · rw [if_pos (by decide), if_neg hb]
            have hb' : b = [] := by simp at hb; exact hb.1
            subst hb'
            have hb2 : (([] : List UInt8) != [] || n != 0) = false := by simpa using hb
            have hn0 : n = 0 := by simpa using hb2
            rw [if_neg (by simp [hn0]), key (by simp)]
        · rw [if_neg (by simpa using k1)]
          rw [if_pos]
          simp only [Bool.or_eq_true, decide_eq_true_eq]
          exact .inl (.inl (.inl (by omega)))
end Go.Proofs.Lk
