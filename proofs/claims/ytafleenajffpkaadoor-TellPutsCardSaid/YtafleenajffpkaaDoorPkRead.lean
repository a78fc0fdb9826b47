/- Package order: Get. -/
import Derived.Test.YtafleenajffpkaaDoorPkOrder
set_option maxRecDepth 100000
set_option linter.unusedSimpArgs false
set_option linter.unusedVariables false
namespace Go.Proofs.Sh
open Go.Pv

/-- A number of bytes, the least first. -/
def little : List UInt8 → Nat
  | [] => 0
  | x :: l => x.toNat + 256 * little l
def decU (o : Int) (b : List UInt8) : Nat := little (if (o == 1) = true then b.reverse else b)
def readV (o s : Int) (b : List UInt8) : Int := if decide (high s < (decU o b : Int)) = true then (decU o b : Int) - 256 ^ wid s else decU o b
theorem or_u64 (a b : Nat) (ha : a < 2 ^ 64) (hb : b < 2 ^ 64) : bitsI .or .u64 (a : Int) (b : Int) = ((a ||| b : Nat) : Int) := by
  have h := Nat.or_lt_two_pow ha hb
  have e : (BitVec.ofInt 64 (a : Int) ||| BitVec.ofInt 64 (b : Int)).toNat = a ||| b := by
    rw [BitVec.toNat_or, BitVec.ofInt_natCast, BitVec.ofInt_natCast, BitVec.toNat_ofNat, BitVec.toNat_ofNat, Nat.mod_eq_of_lt ha, Nat.mod_eq_of_lt hb]
  show IntKind.u64.wrap ((BitVec.ofInt 64 (a : Int) ||| BitVec.ofInt 64 (b : Int)).toNat : Int) = _
  rw [e, wrap_u64]
  omega
theorem or_lo (a b k : Nat) (h : b < 2 ^ k) (hd : 2 ^ k ∣ a) : a ||| b = a + b := by
  obtain ⟨c, rfl⟩ := hd
  exact (Nat.two_pow_add_eq_or_of_lt h c).symm
theorem or_up (a b k : Nat) (h : a < 2 ^ k) (hd : 2 ^ k ∣ b) : a ||| b = a + b := by
  rw [Nat.or_comm, or_lo b a k h hd]; omega
theorem sh0 (x : UInt8) : IntKind.u64.wrap (IntKind.u64.wrap (x.toNat : Int) * 1) = ((x.toNat : Nat) : Int) := by
  have := x.toNat_lt
  rw [wrap_u64, wrap_u64]; omega
theorem sh1 (x : UInt8) : IntKind.u64.wrap (IntKind.u64.wrap (x.toNat : Int) * 256) = ((x.toNat * 256 : Nat) : Int) := by
  have := x.toNat_lt
  rw [wrap_u64, wrap_u64]; omega
theorem sh2 (x : UInt8) : IntKind.u64.wrap (IntKind.u64.wrap (x.toNat : Int) * 65536) = ((x.toNat * 65536 : Nat) : Int) := by
  have := x.toNat_lt
  rw [wrap_u64, wrap_u64]; omega
theorem sh3 (x : UInt8) : IntKind.u64.wrap (IntKind.u64.wrap (x.toNat : Int) * 16777216) = ((x.toNat * 16777216 : Nat) : Int) := by
  have := x.toNat_lt
  rw [wrap_u64, wrap_u64]; omega
theorem or_0 (b : Nat) (h : b < 2 ^ 64) : bitsI .or .u64 0 (b : Int) = (b : Int) := by
  have := or_u64 0 b (by decide) h
  rw [Nat.zero_or] at this; exact this

theorem orU_0_1 (b0 : UInt8) : bitsI .or .u64 (0) (IntKind.u64.wrap (IntKind.u64.wrap (b0.toNat : Int) * 1)) = ((decU 0 [b0] : Nat) : Int) := by
  have h_b0 := b0.toNat_lt
  simp only [sh0, sh1, sh2, sh3]
  rw [or_0 _ (by omega)]
  simp only [decU, little, Int.reduceBEq, Bool.false_eq_true, if_true, if_false, ite_true, ite_false, List.reverse_cons, List.reverse_nil, List.nil_append, List.cons_append]
  omega
theorem orU_0_2 (b0 b1 : UInt8) : bitsI .or .u64 (bitsI .or .u64 (0) (IntKind.u64.wrap (IntKind.u64.wrap (b0.toNat : Int) * 1))) (IntKind.u64.wrap (IntKind.u64.wrap (b1.toNat : Int) * 256)) = ((decU 0 [b0, b1] : Nat) : Int) := by
  have h_b0 := b0.toNat_lt
  have h_b1 := b1.toNat_lt
  simp only [sh0, sh1, sh2, sh3]
  rw [or_0 _ (by omega)]
  rw [or_u64 _ _ (by omega) (by omega), or_up _ _ 8 (by omega) (by omega)]
  simp only [decU, little, Int.reduceBEq, Bool.false_eq_true, if_true, if_false, ite_true, ite_false, List.reverse_cons, List.reverse_nil, List.nil_append, List.cons_append]
  omega
theorem orU_0_4 (b0 b1 b2 b3 : UInt8) : bitsI .or .u64 (bitsI .or .u64 (bitsI .or .u64 (bitsI .or .u64 (0) (IntKind.u64.wrap (IntKind.u64.wrap (b0.toNat : Int) * 1))) (IntKind.u64.wrap (IntKind.u64.wrap (b1.toNat : Int) * 256))) (IntKind.u64.wrap (IntKind.u64.wrap (b2.toNat : Int) * 65536))) (IntKind.u64.wrap (IntKind.u64.wrap (b3.toNat : Int) * 16777216)) = ((decU 0 [b0, b1, b2, b3] : Nat) : Int) := by
  have h_b0 := b0.toNat_lt
  have h_b1 := b1.toNat_lt
  have h_b2 := b2.toNat_lt
  have h_b3 := b3.toNat_lt
  simp only [sh0, sh1, sh2, sh3]
  rw [or_0 _ (by omega)]
  rw [or_u64 _ _ (by omega) (by omega), or_up _ _ 8 (by omega) (by omega)]
  rw [or_u64 _ _ (by omega) (by omega), or_up _ _ 16 (by omega) (by omega)]
  rw [or_u64 _ _ (by omega) (by omega), or_up _ _ 24 (by omega) (by omega)]
  simp only [decU, little, Int.reduceBEq, Bool.false_eq_true, if_true, if_false, ite_true, ite_false, List.reverse_cons, List.reverse_nil, List.nil_append, List.cons_append]
  omega
theorem orU_1_1 (b0 : UInt8) : bitsI .or .u64 (0) (IntKind.u64.wrap (IntKind.u64.wrap (b0.toNat : Int) * 1)) = ((decU 1 [b0] : Nat) : Int) := by
  have h_b0 := b0.toNat_lt
  simp only [sh0, sh1, sh2, sh3]
  rw [or_0 _ (by omega)]
  simp only [decU, little, Int.reduceBEq, Bool.false_eq_true, if_true, if_false, ite_true, ite_false, List.reverse_cons, List.reverse_nil, List.nil_append, List.cons_append]
  omega
theorem orU_1_2 (b0 b1 : UInt8) : bitsI .or .u64 (bitsI .or .u64 (0) (IntKind.u64.wrap (IntKind.u64.wrap (b0.toNat : Int) * 256))) (IntKind.u64.wrap (IntKind.u64.wrap (b1.toNat : Int) * 1)) = ((decU 1 [b0, b1] : Nat) : Int) := by
  have h_b0 := b0.toNat_lt
  have h_b1 := b1.toNat_lt
  simp only [sh0, sh1, sh2, sh3]
  rw [or_0 _ (by omega)]
  rw [or_u64 _ _ (by omega) (by omega), or_lo _ _ 8 (by omega) (by omega)]
  simp only [decU, little, Int.reduceBEq, Bool.false_eq_true, if_true, if_false, ite_true, ite_false, List.reverse_cons, List.reverse_nil, List.nil_append, List.cons_append]
  omega
theorem orU_1_4 (b0 b1 b2 b3 : UInt8) : bitsI .or .u64 (bitsI .or .u64 (bitsI .or .u64 (bitsI .or .u64 (0) (IntKind.u64.wrap (IntKind.u64.wrap (b0.toNat : Int) * 16777216))) (IntKind.u64.wrap (IntKind.u64.wrap (b1.toNat : Int) * 65536))) (IntKind.u64.wrap (IntKind.u64.wrap (b2.toNat : Int) * 256))) (IntKind.u64.wrap (IntKind.u64.wrap (b3.toNat : Int) * 1)) = ((decU 1 [b0, b1, b2, b3] : Nat) : Int) := by
  have h_b0 := b0.toNat_lt
  have h_b1 := b1.toNat_lt
  have h_b2 := b2.toNat_lt
  have h_b3 := b3.toNat_lt
  simp only [sh0, sh1, sh2, sh3]
  rw [or_0 _ (by omega)]
  rw [or_u64 _ _ (by omega) (by omega), or_lo _ _ 24 (by omega) (by omega)]
  rw [or_u64 _ _ (by omega) (by omega), or_lo _ _ 16 (by omega) (by omega)]
  rw [or_u64 _ _ (by omega) (by omega), or_lo _ _ 8 (by omega) (by omega)]
  simp only [decU, little, Int.reduceBEq, Bool.false_eq_true, if_true, if_false, ite_true, ite_false, List.reverse_cons, List.reverse_nil, List.nil_append, List.cons_append]
  omega
theorem little_lt : ∀ l : List UInt8, little l < 256 ^ l.length
  | [] => by decide
  | x :: l => by
    have h1 := little_lt l
    have h2 := x.toNat_lt
    have h3 : 256 ^ (x :: l).length = 256 * 256 ^ l.length := by rw [List.length_cons, Nat.pow_succ, Nat.mul_comm]
    rw [h3]
    show x.toNat + 256 * little l < _
    omega
theorem decU_lt (o : Int) (b : List UInt8) : decU o b < 256 ^ b.length := by
  unfold decU
  split
  · have := little_lt b.reverse; rwa [List.length_reverse] at this
  · exact little_lt b
set_option maxHeartbeats 1000000
theorem read_0_1 (b0 : UInt8) : Fsp Tryd.prog 40 [] 0 [spanOf (1), .int .i64 0, .str [b0]] [] 0 (.int .i64 (readV 0 (1) [b0])) := by
  have hw := width_fs (s := 1) (by unfold isSize; omega)
  have hn : ((wid (1) : Nat) : Int) = 1 := rfl
  rw [hn] at hw
  simp only [spanOf] at hw
  have hU := orU_0_1 b0
  have hlt : decU 0 [b0] < 256 ^ 1 := decU_lt 0 [b0]
  have hhi : high (1) = 255 := by decide
  (refine Fsp.of (nx := 0) mixed Tryd.func40 rfl (by decide) (by first | exact Nat.le_refl _ | simp) (by simp [Tryd.f40]) ⟨by decide, by decide⟩ ?_; simp -implicitDefEqProofs only [push_cast, Tryd.f40, spanOf, Int.reduceBEq, Int.reduceBNe, Int.reduceEq, Int.reduceNe, Int.reducePow, Nat.reduceAdd, Nat.reduceMul, Nat.reduceSub, Nat.reduceLT, Nat.reduceLeDiff, Nat.reduceEqDiff, Nat.reduceBEq, Int.reduceLT, Int.reduceLE, Int.reduceAdd, Int.reduceSub, Int.reduceMul, Int.reduceToNat, Int.reduceNeg, reduceIte, reduceCtorEq, reduceBEq])
  refine callE_pure hw (by rfl) (by rfl) (by rfl) (by decide) (by rfl) (fun _ => by rfl) (by first | rfl | simp [gdOk, newToks]) ?_
  simp -implicitDefEqProofs only [push_cast, Int.reduceBEq, Int.reduceBNe, Int.reduceEq, Int.reduceNe, Int.reducePow, Nat.reduceAdd, Nat.reduceMul, Nat.reduceSub, Nat.reduceLT, Nat.reduceLeDiff, Nat.reduceEqDiff, Nat.reduceBEq, Int.reduceLT, Int.reduceLE, Int.reduceAdd, Int.reduceSub, Int.reduceMul, Int.reduceToNat, Int.reduceNeg, reduceIte, reduceCtorEq, reduceBEq]
  refine loopC_un 2 ?_
  simp -implicitDefEqProofs only [push_cast, hU, Int.reduceBEq, Int.reduceBNe, Int.reduceEq, Int.reduceNe, Int.reducePow, Nat.reduceAdd, Nat.reduceMul, Nat.reduceSub, Nat.reduceLT, Nat.reduceLeDiff, Nat.reduceEqDiff, Nat.reduceBEq, Int.reduceLT, Int.reduceLE, Int.reduceAdd, Int.reduceSub, Int.reduceMul, Int.reduceToNat, Int.reduceNeg, reduceIte, reduceCtorEq, reduceBEq]
  have hwr : IntKind.i64.wrap ((decU 0 [b0] : Nat) : Int) = ((decU 0 [b0] : Nat) : Int) := by rw [wrap_i64_id (by omega) (by omega)]
  refine condC_split (fun h => ?_) (fun h => ?_)
  · simp -implicitDefEqProofs only [push_cast, hwr, Int.reduceBEq, Int.reduceBNe, Int.reduceEq, Int.reduceNe, Int.reducePow, Nat.reduceAdd, Nat.reduceMul, Nat.reduceSub, Nat.reduceLT, Nat.reduceLeDiff, Nat.reduceEqDiff, Nat.reduceBEq, Int.reduceLT, Int.reduceLE, Int.reduceAdd, Int.reduceSub, Int.reduceMul, Int.reduceToNat, Int.reduceNeg, reduceIte, reduceCtorEq, reduceBEq]
    have h' : decide (high (1) < ((decU 0 [b0] : Nat) : Int)) = true := by rw [← hwr]; exact h
    rw [readV, if_pos h', show ((256 : Int) ^ wid (1)) = 256 by decide, wrap_i64_id (by omega) (by omega)]
  · simp -implicitDefEqProofs only [push_cast, hwr, Int.reduceBEq, Int.reduceBNe, Int.reduceEq, Int.reduceNe, Int.reducePow, Nat.reduceAdd, Nat.reduceMul, Nat.reduceSub, Nat.reduceLT, Nat.reduceLeDiff, Nat.reduceEqDiff, Nat.reduceBEq, Int.reduceLT, Int.reduceLE, Int.reduceAdd, Int.reduceSub, Int.reduceMul, Int.reduceToNat, Int.reduceNeg, reduceIte, reduceCtorEq, reduceBEq]
    have h' : ¬ (decide (high (1) < ((decU 0 [b0] : Nat) : Int)) = true) := by rw [← hwr, h]; simp
    rw [readV, if_neg h']

theorem read_0_2 (b0 b1 : UInt8) : Fsp Tryd.prog 40 [] 0 [spanOf (2), .int .i64 0, .str [b0, b1]] [] 0 (.int .i64 (readV 0 (2) [b0, b1])) := by
  have hw := width_fs (s := 2) (by unfold isSize; omega)
  have hn : ((wid (2) : Nat) : Int) = 2 := rfl
  rw [hn] at hw
  simp only [spanOf] at hw
  have hU := orU_0_2 b0 b1
  have hlt : decU 0 [b0, b1] < 256 ^ 2 := decU_lt 0 [b0, b1]
  have hhi : high (2) = 65535 := by decide
  (refine Fsp.of (nx := 0) mixed Tryd.func40 rfl (by decide) (by first | exact Nat.le_refl _ | simp) (by simp [Tryd.f40]) ⟨by decide, by decide⟩ ?_; simp -implicitDefEqProofs only [push_cast, Tryd.f40, spanOf, Int.reduceBEq, Int.reduceBNe, Int.reduceEq, Int.reduceNe, Int.reducePow, Nat.reduceAdd, Nat.reduceMul, Nat.reduceSub, Nat.reduceLT, Nat.reduceLeDiff, Nat.reduceEqDiff, Nat.reduceBEq, Int.reduceLT, Int.reduceLE, Int.reduceAdd, Int.reduceSub, Int.reduceMul, Int.reduceToNat, Int.reduceNeg, reduceIte, reduceCtorEq, reduceBEq])
  refine callE_pure hw (by rfl) (by rfl) (by rfl) (by decide) (by rfl) (fun _ => by rfl) (by first | rfl | simp [gdOk, newToks]) ?_
  simp -implicitDefEqProofs only [push_cast, Int.reduceBEq, Int.reduceBNe, Int.reduceEq, Int.reduceNe, Int.reducePow, Nat.reduceAdd, Nat.reduceMul, Nat.reduceSub, Nat.reduceLT, Nat.reduceLeDiff, Nat.reduceEqDiff, Nat.reduceBEq, Int.reduceLT, Int.reduceLE, Int.reduceAdd, Int.reduceSub, Int.reduceMul, Int.reduceToNat, Int.reduceNeg, reduceIte, reduceCtorEq, reduceBEq]
  refine loopC_un 3 ?_
  simp -implicitDefEqProofs only [push_cast, hU, Int.reduceBEq, Int.reduceBNe, Int.reduceEq, Int.reduceNe, Int.reducePow, Nat.reduceAdd, Nat.reduceMul, Nat.reduceSub, Nat.reduceLT, Nat.reduceLeDiff, Nat.reduceEqDiff, Nat.reduceBEq, Int.reduceLT, Int.reduceLE, Int.reduceAdd, Int.reduceSub, Int.reduceMul, Int.reduceToNat, Int.reduceNeg, reduceIte, reduceCtorEq, reduceBEq]
  have hwr : IntKind.i64.wrap ((decU 0 [b0, b1] : Nat) : Int) = ((decU 0 [b0, b1] : Nat) : Int) := by rw [wrap_i64_id (by omega) (by omega)]
  refine condC_split (fun h => ?_) (fun h => ?_)
  · simp -implicitDefEqProofs only [push_cast, hwr, Int.reduceBEq, Int.reduceBNe, Int.reduceEq, Int.reduceNe, Int.reducePow, Nat.reduceAdd, Nat.reduceMul, Nat.reduceSub, Nat.reduceLT, Nat.reduceLeDiff, Nat.reduceEqDiff, Nat.reduceBEq, Int.reduceLT, Int.reduceLE, Int.reduceAdd, Int.reduceSub, Int.reduceMul, Int.reduceToNat, Int.reduceNeg, reduceIte, reduceCtorEq, reduceBEq]
    have h' : decide (high (2) < ((decU 0 [b0, b1] : Nat) : Int)) = true := by rw [← hwr]; exact h
    rw [readV, if_pos h', show ((256 : Int) ^ wid (2)) = 65536 by decide, wrap_i64_id (by omega) (by omega)]
  · simp -implicitDefEqProofs only [push_cast, hwr, Int.reduceBEq, Int.reduceBNe, Int.reduceEq, Int.reduceNe, Int.reducePow, Nat.reduceAdd, Nat.reduceMul, Nat.reduceSub, Nat.reduceLT, Nat.reduceLeDiff, Nat.reduceEqDiff, Nat.reduceBEq, Int.reduceLT, Int.reduceLE, Int.reduceAdd, Int.reduceSub, Int.reduceMul, Int.reduceToNat, Int.reduceNeg, reduceIte, reduceCtorEq, reduceBEq]
    have h' : ¬ (decide (high (2) < ((decU 0 [b0, b1] : Nat) : Int)) = true) := by rw [← hwr, h]; simp
    rw [readV, if_neg h']

theorem read_0_4 (b0 b1 b2 b3 : UInt8) : Fsp Tryd.prog 40 [] 0 [spanOf (4), .int .i64 0, .str [b0, b1, b2, b3]] [] 0 (.int .i64 (readV 0 (4) [b0, b1, b2, b3])) := by
  have hw := width_fs (s := 4) (by unfold isSize; omega)
  have hn : ((wid (4) : Nat) : Int) = 4 := rfl
  rw [hn] at hw
  simp only [spanOf] at hw
  have hU := orU_0_4 b0 b1 b2 b3
  have hlt : decU 0 [b0, b1, b2, b3] < 256 ^ 4 := decU_lt 0 [b0, b1, b2, b3]
  have hhi : high (4) = 4294967295 := by decide
  (refine Fsp.of (nx := 0) mixed Tryd.func40 rfl (by decide) (by first | exact Nat.le_refl _ | simp) (by simp [Tryd.f40]) ⟨by decide, by decide⟩ ?_; simp -implicitDefEqProofs only [push_cast, Tryd.f40, spanOf, Int.reduceBEq, Int.reduceBNe, Int.reduceEq, Int.reduceNe, Int.reducePow, Nat.reduceAdd, Nat.reduceMul, Nat.reduceSub, Nat.reduceLT, Nat.reduceLeDiff, Nat.reduceEqDiff, Nat.reduceBEq, Int.reduceLT, Int.reduceLE, Int.reduceAdd, Int.reduceSub, Int.reduceMul, Int.reduceToNat, Int.reduceNeg, reduceIte, reduceCtorEq, reduceBEq])
  refine callE_pure hw (by rfl) (by rfl) (by rfl) (by decide) (by rfl) (fun _ => by rfl) (by first | rfl | simp [gdOk, newToks]) ?_
  simp -implicitDefEqProofs only [push_cast, Int.reduceBEq, Int.reduceBNe, Int.reduceEq, Int.reduceNe, Int.reducePow, Nat.reduceAdd, Nat.reduceMul, Nat.reduceSub, Nat.reduceLT, Nat.reduceLeDiff, Nat.reduceEqDiff, Nat.reduceBEq, Int.reduceLT, Int.reduceLE, Int.reduceAdd, Int.reduceSub, Int.reduceMul, Int.reduceToNat, Int.reduceNeg, reduceIte, reduceCtorEq, reduceBEq]
  refine loopC_un 5 ?_
  simp -implicitDefEqProofs only [push_cast, hU, Int.reduceBEq, Int.reduceBNe, Int.reduceEq, Int.reduceNe, Int.reducePow, Nat.reduceAdd, Nat.reduceMul, Nat.reduceSub, Nat.reduceLT, Nat.reduceLeDiff, Nat.reduceEqDiff, Nat.reduceBEq, Int.reduceLT, Int.reduceLE, Int.reduceAdd, Int.reduceSub, Int.reduceMul, Int.reduceToNat, Int.reduceNeg, reduceIte, reduceCtorEq, reduceBEq]
  have hwr : IntKind.i64.wrap ((decU 0 [b0, b1, b2, b3] : Nat) : Int) = ((decU 0 [b0, b1, b2, b3] : Nat) : Int) := by rw [wrap_i64_id (by omega) (by omega)]
  refine condC_split (fun h => ?_) (fun h => ?_)
  · simp -implicitDefEqProofs only [push_cast, hwr, Int.reduceBEq, Int.reduceBNe, Int.reduceEq, Int.reduceNe, Int.reducePow, Nat.reduceAdd, Nat.reduceMul, Nat.reduceSub, Nat.reduceLT, Nat.reduceLeDiff, Nat.reduceEqDiff, Nat.reduceBEq, Int.reduceLT, Int.reduceLE, Int.reduceAdd, Int.reduceSub, Int.reduceMul, Int.reduceToNat, Int.reduceNeg, reduceIte, reduceCtorEq, reduceBEq]
    have h' : decide (high (4) < ((decU 0 [b0, b1, b2, b3] : Nat) : Int)) = true := by rw [← hwr]; exact h
    rw [readV, if_pos h', show ((256 : Int) ^ wid (4)) = 4294967296 by decide, wrap_i64_id (by omega) (by omega)]
  · simp -implicitDefEqProofs only [push_cast, hwr, Int.reduceBEq, Int.reduceBNe, Int.reduceEq, Int.reduceNe, Int.reducePow, Nat.reduceAdd, Nat.reduceMul, Nat.reduceSub, Nat.reduceLT, Nat.reduceLeDiff, Nat.reduceEqDiff, Nat.reduceBEq, Int.reduceLT, Int.reduceLE, Int.reduceAdd, Int.reduceSub, Int.reduceMul, Int.reduceToNat, Int.reduceNeg, reduceIte, reduceCtorEq, reduceBEq]
    have h' : ¬ (decide (high (4) < ((decU 0 [b0, b1, b2, b3] : Nat) : Int)) = true) := by rw [← hwr, h]; simp
    rw [readV, if_neg h']

theorem read_0_m1 (b0 : UInt8) : Fsp Tryd.prog 40 [] 0 [spanOf (-1), .int .i64 0, .str [b0]] [] 0 (.int .i64 (readV 0 (-1) [b0])) := by
  have hw := width_fs (s := -1) (by unfold isSize; omega)
  have hn : ((wid (-1) : Nat) : Int) = 1 := rfl
  rw [hn] at hw
  simp only [spanOf] at hw
  have hU := orU_0_1 b0
  have hlt : decU 0 [b0] < 256 ^ 1 := decU_lt 0 [b0]
  have hhi : high (-1) = 127 := by decide
  (refine Fsp.of (nx := 0) mixed Tryd.func40 rfl (by decide) (by first | exact Nat.le_refl _ | simp) (by simp [Tryd.f40]) ⟨by decide, by decide⟩ ?_; simp -implicitDefEqProofs only [push_cast, Tryd.f40, spanOf, Int.reduceBEq, Int.reduceBNe, Int.reduceEq, Int.reduceNe, Int.reducePow, Nat.reduceAdd, Nat.reduceMul, Nat.reduceSub, Nat.reduceLT, Nat.reduceLeDiff, Nat.reduceEqDiff, Nat.reduceBEq, Int.reduceLT, Int.reduceLE, Int.reduceAdd, Int.reduceSub, Int.reduceMul, Int.reduceToNat, Int.reduceNeg, reduceIte, reduceCtorEq, reduceBEq])
  refine callE_pure hw (by rfl) (by rfl) (by rfl) (by decide) (by rfl) (fun _ => by rfl) (by first | rfl | simp [gdOk, newToks]) ?_
  simp -implicitDefEqProofs only [push_cast, Int.reduceBEq, Int.reduceBNe, Int.reduceEq, Int.reduceNe, Int.reducePow, Nat.reduceAdd, Nat.reduceMul, Nat.reduceSub, Nat.reduceLT, Nat.reduceLeDiff, Nat.reduceEqDiff, Nat.reduceBEq, Int.reduceLT, Int.reduceLE, Int.reduceAdd, Int.reduceSub, Int.reduceMul, Int.reduceToNat, Int.reduceNeg, reduceIte, reduceCtorEq, reduceBEq]
  refine loopC_un 2 ?_
  simp -implicitDefEqProofs only [push_cast, hU, Int.reduceBEq, Int.reduceBNe, Int.reduceEq, Int.reduceNe, Int.reducePow, Nat.reduceAdd, Nat.reduceMul, Nat.reduceSub, Nat.reduceLT, Nat.reduceLeDiff, Nat.reduceEqDiff, Nat.reduceBEq, Int.reduceLT, Int.reduceLE, Int.reduceAdd, Int.reduceSub, Int.reduceMul, Int.reduceToNat, Int.reduceNeg, reduceIte, reduceCtorEq, reduceBEq]
  have hwr : IntKind.i64.wrap ((decU 0 [b0] : Nat) : Int) = ((decU 0 [b0] : Nat) : Int) := by rw [wrap_i64_id (by omega) (by omega)]
  refine condC_split (fun h => ?_) (fun h => ?_)
  · simp -implicitDefEqProofs only [push_cast, hwr, Int.reduceBEq, Int.reduceBNe, Int.reduceEq, Int.reduceNe, Int.reducePow, Nat.reduceAdd, Nat.reduceMul, Nat.reduceSub, Nat.reduceLT, Nat.reduceLeDiff, Nat.reduceEqDiff, Nat.reduceBEq, Int.reduceLT, Int.reduceLE, Int.reduceAdd, Int.reduceSub, Int.reduceMul, Int.reduceToNat, Int.reduceNeg, reduceIte, reduceCtorEq, reduceBEq]
    have h' : decide (high (-1) < ((decU 0 [b0] : Nat) : Int)) = true := by rw [← hwr]; exact h
    rw [readV, if_pos h', show ((256 : Int) ^ wid (-1)) = 256 by decide, wrap_i64_id (by omega) (by omega)]
  · simp -implicitDefEqProofs only [push_cast, hwr, Int.reduceBEq, Int.reduceBNe, Int.reduceEq, Int.reduceNe, Int.reducePow, Nat.reduceAdd, Nat.reduceMul, Nat.reduceSub, Nat.reduceLT, Nat.reduceLeDiff, Nat.reduceEqDiff, Nat.reduceBEq, Int.reduceLT, Int.reduceLE, Int.reduceAdd, Int.reduceSub, Int.reduceMul, Int.reduceToNat, Int.reduceNeg, reduceIte, reduceCtorEq, reduceBEq]
    have h' : ¬ (decide (high (-1) < ((decU 0 [b0] : Nat) : Int)) = true) := by rw [← hwr, h]; simp
    rw [readV, if_neg h']

theorem read_0_m2 (b0 b1 : UInt8) : Fsp Tryd.prog 40 [] 0 [spanOf (-2), .int .i64 0, .str [b0, b1]] [] 0 (.int .i64 (readV 0 (-2) [b0, b1])) := by
  have hw := width_fs (s := -2) (by unfold isSize; omega)
  have hn : ((wid (-2) : Nat) : Int) = 2 := rfl
  rw [hn] at hw
  simp only [spanOf] at hw
  have hU := orU_0_2 b0 b1
  have hlt : decU 0 [b0, b1] < 256 ^ 2 := decU_lt 0 [b0, b1]
  have hhi : high (-2) = 32767 := by decide
  (refine Fsp.of (nx := 0) mixed Tryd.func40 rfl (by decide) (by first | exact Nat.le_refl _ | simp) (by simp [Tryd.f40]) ⟨by decide, by decide⟩ ?_; simp -implicitDefEqProofs only [push_cast, Tryd.f40, spanOf, Int.reduceBEq, Int.reduceBNe, Int.reduceEq, Int.reduceNe, Int.reducePow, Nat.reduceAdd, Nat.reduceMul, Nat.reduceSub, Nat.reduceLT, Nat.reduceLeDiff, Nat.reduceEqDiff, Nat.reduceBEq, Int.reduceLT, Int.reduceLE, Int.reduceAdd, Int.reduceSub, Int.reduceMul, Int.reduceToNat, Int.reduceNeg, reduceIte, reduceCtorEq, reduceBEq])
  refine callE_pure hw (by rfl) (by rfl) (by rfl) (by decide) (by rfl) (fun _ => by rfl) (by first | rfl | simp [gdOk, newToks]) ?_
  simp -implicitDefEqProofs only [push_cast, Int.reduceBEq, Int.reduceBNe, Int.reduceEq, Int.reduceNe, Int.reducePow, Nat.reduceAdd, Nat.reduceMul, Nat.reduceSub, Nat.reduceLT, Nat.reduceLeDiff, Nat.reduceEqDiff, Nat.reduceBEq, Int.reduceLT, Int.reduceLE, Int.reduceAdd, Int.reduceSub, Int.reduceMul, Int.reduceToNat, Int.reduceNeg, reduceIte, reduceCtorEq, reduceBEq]
  refine loopC_un 3 ?_
  simp -implicitDefEqProofs only [push_cast, hU, Int.reduceBEq, Int.reduceBNe, Int.reduceEq, Int.reduceNe, Int.reducePow, Nat.reduceAdd, Nat.reduceMul, Nat.reduceSub, Nat.reduceLT, Nat.reduceLeDiff, Nat.reduceEqDiff, Nat.reduceBEq, Int.reduceLT, Int.reduceLE, Int.reduceAdd, Int.reduceSub, Int.reduceMul, Int.reduceToNat, Int.reduceNeg, reduceIte, reduceCtorEq, reduceBEq]
  have hwr : IntKind.i64.wrap ((decU 0 [b0, b1] : Nat) : Int) = ((decU 0 [b0, b1] : Nat) : Int) := by rw [wrap_i64_id (by omega) (by omega)]
  refine condC_split (fun h => ?_) (fun h => ?_)
  · simp -implicitDefEqProofs only [push_cast, hwr, Int.reduceBEq, Int.reduceBNe, Int.reduceEq, Int.reduceNe, Int.reducePow, Nat.reduceAdd, Nat.reduceMul, Nat.reduceSub, Nat.reduceLT, Nat.reduceLeDiff, Nat.reduceEqDiff, Nat.reduceBEq, Int.reduceLT, Int.reduceLE, Int.reduceAdd, Int.reduceSub, Int.reduceMul, Int.reduceToNat, Int.reduceNeg, reduceIte, reduceCtorEq, reduceBEq]
    have h' : decide (high (-2) < ((decU 0 [b0, b1] : Nat) : Int)) = true := by rw [← hwr]; exact h
    rw [readV, if_pos h', show ((256 : Int) ^ wid (-2)) = 65536 by decide, wrap_i64_id (by omega) (by omega)]
  · simp -implicitDefEqProofs only [push_cast, hwr, Int.reduceBEq, Int.reduceBNe, Int.reduceEq, Int.reduceNe, Int.reducePow, Nat.reduceAdd, Nat.reduceMul, Nat.reduceSub, Nat.reduceLT, Nat.reduceLeDiff, Nat.reduceEqDiff, Nat.reduceBEq, Int.reduceLT, Int.reduceLE, Int.reduceAdd, Int.reduceSub, Int.reduceMul, Int.reduceToNat, Int.reduceNeg, reduceIte, reduceCtorEq, reduceBEq]
    have h' : ¬ (decide (high (-2) < ((decU 0 [b0, b1] : Nat) : Int)) = true) := by rw [← hwr, h]; simp
    rw [readV, if_neg h']

theorem read_0_m4 (b0 b1 b2 b3 : UInt8) : Fsp Tryd.prog 40 [] 0 [spanOf (-4), .int .i64 0, .str [b0, b1, b2, b3]] [] 0 (.int .i64 (readV 0 (-4) [b0, b1, b2, b3])) := by
  have hw := width_fs (s := -4) (by unfold isSize; omega)
  have hn : ((wid (-4) : Nat) : Int) = 4 := rfl
  rw [hn] at hw
  simp only [spanOf] at hw
  have hU := orU_0_4 b0 b1 b2 b3
  have hlt : decU 0 [b0, b1, b2, b3] < 256 ^ 4 := decU_lt 0 [b0, b1, b2, b3]
  have hhi : high (-4) = 2147483647 := by decide
  (refine Fsp.of (nx := 0) mixed Tryd.func40 rfl (by decide) (by first | exact Nat.le_refl _ | simp) (by simp [Tryd.f40]) ⟨by decide, by decide⟩ ?_; simp -implicitDefEqProofs only [push_cast, Tryd.f40, spanOf, Int.reduceBEq, Int.reduceBNe, Int.reduceEq, Int.reduceNe, Int.reducePow, Nat.reduceAdd, Nat.reduceMul, Nat.reduceSub, Nat.reduceLT, Nat.reduceLeDiff, Nat.reduceEqDiff, Nat.reduceBEq, Int.reduceLT, Int.reduceLE, Int.reduceAdd, Int.reduceSub, Int.reduceMul, Int.reduceToNat, Int.reduceNeg, reduceIte, reduceCtorEq, reduceBEq])
  refine callE_pure hw (by rfl) (by rfl) (by rfl) (by decide) (by rfl) (fun _ => by rfl) (by first | rfl | simp [gdOk, newToks]) ?_
  simp -implicitDefEqProofs only [push_cast, Int.reduceBEq, Int.reduceBNe, Int.reduceEq, Int.reduceNe, Int.reducePow, Nat.reduceAdd, Nat.reduceMul, Nat.reduceSub, Nat.reduceLT, Nat.reduceLeDiff, Nat.reduceEqDiff, Nat.reduceBEq, Int.reduceLT, Int.reduceLE, Int.reduceAdd, Int.reduceSub, Int.reduceMul, Int.reduceToNat, Int.reduceNeg, reduceIte, reduceCtorEq, reduceBEq]
  refine loopC_un 5 ?_
  simp -implicitDefEqProofs only [push_cast, hU, Int.reduceBEq, Int.reduceBNe, Int.reduceEq, Int.reduceNe, Int.reducePow, Nat.reduceAdd, Nat.reduceMul, Nat.reduceSub, Nat.reduceLT, Nat.reduceLeDiff, Nat.reduceEqDiff, Nat.reduceBEq, Int.reduceLT, Int.reduceLE, Int.reduceAdd, Int.reduceSub, Int.reduceMul, Int.reduceToNat, Int.reduceNeg, reduceIte, reduceCtorEq, reduceBEq]
  have hwr : IntKind.i64.wrap ((decU 0 [b0, b1, b2, b3] : Nat) : Int) = ((decU 0 [b0, b1, b2, b3] : Nat) : Int) := by rw [wrap_i64_id (by omega) (by omega)]
  refine condC_split (fun h => ?_) (fun h => ?_)
  · simp -implicitDefEqProofs only [push_cast, hwr, Int.reduceBEq, Int.reduceBNe, Int.reduceEq, Int.reduceNe, Int.reducePow, Nat.reduceAdd, Nat.reduceMul, Nat.reduceSub, Nat.reduceLT, Nat.reduceLeDiff, Nat.reduceEqDiff, Nat.reduceBEq, Int.reduceLT, Int.reduceLE, Int.reduceAdd, Int.reduceSub, Int.reduceMul, Int.reduceToNat, Int.reduceNeg, reduceIte, reduceCtorEq, reduceBEq]
    have h' : decide (high (-4) < ((decU 0 [b0, b1, b2, b3] : Nat) : Int)) = true := by rw [← hwr]; exact h
    rw [readV, if_pos h', show ((256 : Int) ^ wid (-4)) = 4294967296 by decide, wrap_i64_id (by omega) (by omega)]
  · simp -implicitDefEqProofs only [push_cast, hwr, Int.reduceBEq, Int.reduceBNe, Int.reduceEq, Int.reduceNe, Int.reducePow, Nat.reduceAdd, Nat.reduceMul, Nat.reduceSub, Nat.reduceLT, Nat.reduceLeDiff, Nat.reduceEqDiff, Nat.reduceBEq, Int.reduceLT, Int.reduceLE, Int.reduceAdd, Int.reduceSub, Int.reduceMul, Int.reduceToNat, Int.reduceNeg, reduceIte, reduceCtorEq, reduceBEq]
    have h' : ¬ (decide (high (-4) < ((decU 0 [b0, b1, b2, b3] : Nat) : Int)) = true) := by rw [← hwr, h]; simp
    rw [readV, if_neg h']

theorem read_1_1 (b0 : UInt8) : Fsp Tryd.prog 40 [] 0 [spanOf (1), .int .i64 1, .str [b0]] [] 0 (.int .i64 (readV 1 (1) [b0])) := by
  have hw := width_fs (s := 1) (by unfold isSize; omega)
  have hn : ((wid (1) : Nat) : Int) = 1 := rfl
  rw [hn] at hw
  simp only [spanOf] at hw
  have hU := orU_1_1 b0
  have hlt : decU 1 [b0] < 256 ^ 1 := decU_lt 1 [b0]
  have hhi : high (1) = 255 := by decide
  (refine Fsp.of (nx := 0) mixed Tryd.func40 rfl (by decide) (by first | exact Nat.le_refl _ | simp) (by simp [Tryd.f40]) ⟨by decide, by decide⟩ ?_; simp -implicitDefEqProofs only [push_cast, Tryd.f40, spanOf, Int.reduceBEq, Int.reduceBNe, Int.reduceEq, Int.reduceNe, Int.reducePow, Nat.reduceAdd, Nat.reduceMul, Nat.reduceSub, Nat.reduceLT, Nat.reduceLeDiff, Nat.reduceEqDiff, Nat.reduceBEq, Int.reduceLT, Int.reduceLE, Int.reduceAdd, Int.reduceSub, Int.reduceMul, Int.reduceToNat, Int.reduceNeg, reduceIte, reduceCtorEq, reduceBEq])
  refine callE_pure hw (by rfl) (by rfl) (by rfl) (by decide) (by rfl) (fun _ => by rfl) (by first | rfl | simp [gdOk, newToks]) ?_
  simp -implicitDefEqProofs only [push_cast, Int.reduceBEq, Int.reduceBNe, Int.reduceEq, Int.reduceNe, Int.reducePow, Nat.reduceAdd, Nat.reduceMul, Nat.reduceSub, Nat.reduceLT, Nat.reduceLeDiff, Nat.reduceEqDiff, Nat.reduceBEq, Int.reduceLT, Int.reduceLE, Int.reduceAdd, Int.reduceSub, Int.reduceMul, Int.reduceToNat, Int.reduceNeg, reduceIte, reduceCtorEq, reduceBEq]
  refine loopC_un 2 ?_
  simp -implicitDefEqProofs only [push_cast, hU, Int.reduceBEq, Int.reduceBNe, Int.reduceEq, Int.reduceNe, Int.reducePow, Nat.reduceAdd, Nat.reduceMul, Nat.reduceSub, Nat.reduceLT, Nat.reduceLeDiff, Nat.reduceEqDiff, Nat.reduceBEq, Int.reduceLT, Int.reduceLE, Int.reduceAdd, Int.reduceSub, Int.reduceMul, Int.reduceToNat, Int.reduceNeg, reduceIte, reduceCtorEq, reduceBEq]
  have hwr : IntKind.i64.wrap ((decU 1 [b0] : Nat) : Int) = ((decU 1 [b0] : Nat) : Int) := by rw [wrap_i64_id (by omega) (by omega)]
  refine condC_split (fun h => ?_) (fun h => ?_)
  · simp -implicitDefEqProofs only [push_cast, hwr, Int.reduceBEq, Int.reduceBNe, Int.reduceEq, Int.reduceNe, Int.reducePow, Nat.reduceAdd, Nat.reduceMul, Nat.reduceSub, Nat.reduceLT, Nat.reduceLeDiff, Nat.reduceEqDiff, Nat.reduceBEq, Int.reduceLT, Int.reduceLE, Int.reduceAdd, Int.reduceSub, Int.reduceMul, Int.reduceToNat, Int.reduceNeg, reduceIte, reduceCtorEq, reduceBEq]
    have h' : decide (high (1) < ((decU 1 [b0] : Nat) : Int)) = true := by rw [← hwr]; exact h
    rw [readV, if_pos h', show ((256 : Int) ^ wid (1)) = 256 by decide, wrap_i64_id (by omega) (by omega)]
  · simp -implicitDefEqProofs only [push_cast, hwr, Int.reduceBEq, Int.reduceBNe, Int.reduceEq, Int.reduceNe, Int.reducePow, Nat.reduceAdd, Nat.reduceMul, Nat.reduceSub, Nat.reduceLT, Nat.reduceLeDiff, Nat.reduceEqDiff, Nat.reduceBEq, Int.reduceLT, Int.reduceLE, Int.reduceAdd, Int.reduceSub, Int.reduceMul, Int.reduceToNat, Int.reduceNeg, reduceIte, reduceCtorEq, reduceBEq]
    have h' : ¬ (decide (high (1) < ((decU 1 [b0] : Nat) : Int)) = true) := by rw [← hwr, h]; simp
    rw [readV, if_neg h']

theorem read_1_2 (b0 b1 : UInt8) : Fsp Tryd.prog 40 [] 0 [spanOf (2), .int .i64 1, .str [b0, b1]] [] 0 (.int .i64 (readV 1 (2) [b0, b1])) := by
  have hw := width_fs (s := 2) (by unfold isSize; omega)
  have hn : ((wid (2) : Nat) : Int) = 2 := rfl
  rw [hn] at hw
  simp only [spanOf] at hw
  have hU := orU_1_2 b0 b1
  have hlt : decU 1 [b0, b1] < 256 ^ 2 := decU_lt 1 [b0, b1]
  have hhi : high (2) = 65535 := by decide
  (refine Fsp.of (nx := 0) mixed Tryd.func40 rfl (by decide) (by first | exact Nat.le_refl _ | simp) (by simp [Tryd.f40]) ⟨by decide, by decide⟩ ?_; simp -implicitDefEqProofs only [push_cast, Tryd.f40, spanOf, Int.reduceBEq, Int.reduceBNe, Int.reduceEq, Int.reduceNe, Int.reducePow, Nat.reduceAdd, Nat.reduceMul, Nat.reduceSub, Nat.reduceLT, Nat.reduceLeDiff, Nat.reduceEqDiff, Nat.reduceBEq, Int.reduceLT, Int.reduceLE, Int.reduceAdd, Int.reduceSub, Int.reduceMul, Int.reduceToNat, Int.reduceNeg, reduceIte, reduceCtorEq, reduceBEq])
  refine callE_pure hw (by rfl) (by rfl) (by rfl) (by decide) (by rfl) (fun _ => by rfl) (by first | rfl | simp [gdOk, newToks]) ?_
  simp -implicitDefEqProofs only [push_cast, Int.reduceBEq, Int.reduceBNe, Int.reduceEq, Int.reduceNe, Int.reducePow, Nat.reduceAdd, Nat.reduceMul, Nat.reduceSub, Nat.reduceLT, Nat.reduceLeDiff, Nat.reduceEqDiff, Nat.reduceBEq, Int.reduceLT, Int.reduceLE, Int.reduceAdd, Int.reduceSub, Int.reduceMul, Int.reduceToNat, Int.reduceNeg, reduceIte, reduceCtorEq, reduceBEq]
  refine loopC_un 3 ?_
  simp -implicitDefEqProofs only [push_cast, hU, Int.reduceBEq, Int.reduceBNe, Int.reduceEq, Int.reduceNe, Int.reducePow, Nat.reduceAdd, Nat.reduceMul, Nat.reduceSub, Nat.reduceLT, Nat.reduceLeDiff, Nat.reduceEqDiff, Nat.reduceBEq, Int.reduceLT, Int.reduceLE, Int.reduceAdd, Int.reduceSub, Int.reduceMul, Int.reduceToNat, Int.reduceNeg, reduceIte, reduceCtorEq, reduceBEq]
  have hwr : IntKind.i64.wrap ((decU 1 [b0, b1] : Nat) : Int) = ((decU 1 [b0, b1] : Nat) : Int) := by rw [wrap_i64_id (by omega) (by omega)]
  refine condC_split (fun h => ?_) (fun h => ?_)
  · simp -implicitDefEqProofs only [push_cast, hwr, Int.reduceBEq, Int.reduceBNe, Int.reduceEq, Int.reduceNe, Int.reducePow, Nat.reduceAdd, Nat.reduceMul, Nat.reduceSub, Nat.reduceLT, Nat.reduceLeDiff, Nat.reduceEqDiff, Nat.reduceBEq, Int.reduceLT, Int.reduceLE, Int.reduceAdd, Int.reduceSub, Int.reduceMul, Int.reduceToNat, Int.reduceNeg, reduceIte, reduceCtorEq, reduceBEq]
    have h' : decide (high (2) < ((decU 1 [b0, b1] : Nat) : Int)) = true := by rw [← hwr]; exact h
    rw [readV, if_pos h', show ((256 : Int) ^ wid (2)) = 65536 by decide, wrap_i64_id (by omega) (by omega)]
  · simp -implicitDefEqProofs only [push_cast, hwr, Int.reduceBEq, Int.reduceBNe, Int.reduceEq, Int.reduceNe, Int.reducePow, Nat.reduceAdd, Nat.reduceMul, Nat.reduceSub, Nat.reduceLT, Nat.reduceLeDiff, Nat.reduceEqDiff, Nat.reduceBEq, Int.reduceLT, Int.reduceLE, Int.reduceAdd, Int.reduceSub, Int.reduceMul, Int.reduceToNat, Int.reduceNeg, reduceIte, reduceCtorEq, reduceBEq]
    have h' : ¬ (decide (high (2) < ((decU 1 [b0, b1] : Nat) : Int)) = true) := by rw [← hwr, h]; simp
    rw [readV, if_neg h']

theorem read_1_4 (b0 b1 b2 b3 : UInt8) : Fsp Tryd.prog 40 [] 0 [spanOf (4), .int .i64 1, .str [b0, b1, b2, b3]] [] 0 (.int .i64 (readV 1 (4) [b0, b1, b2, b3])) := by
  have hw := width_fs (s := 4) (by unfold isSize; omega)
  have hn : ((wid (4) : Nat) : Int) = 4 := rfl
  rw [hn] at hw
  simp only [spanOf] at hw
  have hU := orU_1_4 b0 b1 b2 b3
  have hlt : decU 1 [b0, b1, b2, b3] < 256 ^ 4 := decU_lt 1 [b0, b1, b2, b3]
  have hhi : high (4) = 4294967295 := by decide
  (refine Fsp.of (nx := 0) mixed Tryd.func40 rfl (by decide) (by first | exact Nat.le_refl _ | simp) (by simp [Tryd.f40]) ⟨by decide, by decide⟩ ?_; simp -implicitDefEqProofs only [push_cast, Tryd.f40, spanOf, Int.reduceBEq, Int.reduceBNe, Int.reduceEq, Int.reduceNe, Int.reducePow, Nat.reduceAdd, Nat.reduceMul, Nat.reduceSub, Nat.reduceLT, Nat.reduceLeDiff, Nat.reduceEqDiff, Nat.reduceBEq, Int.reduceLT, Int.reduceLE, Int.reduceAdd, Int.reduceSub, Int.reduceMul, Int.reduceToNat, Int.reduceNeg, reduceIte, reduceCtorEq, reduceBEq])
  refine callE_pure hw (by rfl) (by rfl) (by rfl) (by decide) (by rfl) (fun _ => by rfl) (by first | rfl | simp [gdOk, newToks]) ?_
  simp -implicitDefEqProofs only [push_cast, Int.reduceBEq, Int.reduceBNe, Int.reduceEq, Int.reduceNe, Int.reducePow, Nat.reduceAdd, Nat.reduceMul, Nat.reduceSub, Nat.reduceLT, Nat.reduceLeDiff, Nat.reduceEqDiff, Nat.reduceBEq, Int.reduceLT, Int.reduceLE, Int.reduceAdd, Int.reduceSub, Int.reduceMul, Int.reduceToNat, Int.reduceNeg, reduceIte, reduceCtorEq, reduceBEq]
  refine loopC_un 5 ?_
  simp -implicitDefEqProofs only [push_cast, hU, Int.reduceBEq, Int.reduceBNe, Int.reduceEq, Int.reduceNe, Int.reducePow, Nat.reduceAdd, Nat.reduceMul, Nat.reduceSub, Nat.reduceLT, Nat.reduceLeDiff, Nat.reduceEqDiff, Nat.reduceBEq, Int.reduceLT, Int.reduceLE, Int.reduceAdd, Int.reduceSub, Int.reduceMul, Int.reduceToNat, Int.reduceNeg, reduceIte, reduceCtorEq, reduceBEq]
  have hwr : IntKind.i64.wrap ((decU 1 [b0, b1, b2, b3] : Nat) : Int) = ((decU 1 [b0, b1, b2, b3] : Nat) : Int) := by rw [wrap_i64_id (by omega) (by omega)]
  refine condC_split (fun h => ?_) (fun h => ?_)
  · simp -implicitDefEqProofs only [push_cast, hwr, Int.reduceBEq, Int.reduceBNe, Int.reduceEq, Int.reduceNe, Int.reducePow, Nat.reduceAdd, Nat.reduceMul, Nat.reduceSub, Nat.reduceLT, Nat.reduceLeDiff, Nat.reduceEqDiff, Nat.reduceBEq, Int.reduceLT, Int.reduceLE, Int.reduceAdd, Int.reduceSub, Int.reduceMul, Int.reduceToNat, Int.reduceNeg, reduceIte, reduceCtorEq, reduceBEq]
    have h' : decide (high (4) < ((decU 1 [b0, b1, b2, b3] : Nat) : Int)) = true := by rw [← hwr]; exact h
    rw [readV, if_pos h', show ((256 : Int) ^ wid (4)) = 4294967296 by decide, wrap_i64_id (by omega) (by omega)]
  · simp -implicitDefEqProofs only [push_cast, hwr, Int.reduceBEq, Int.reduceBNe, Int.reduceEq, Int.reduceNe, Int.reducePow, Nat.reduceAdd, Nat.reduceMul, Nat.reduceSub, Nat.reduceLT, Nat.reduceLeDiff, Nat.reduceEqDiff, Nat.reduceBEq, Int.reduceLT, Int.reduceLE, Int.reduceAdd, Int.reduceSub, Int.reduceMul, Int.reduceToNat, Int.reduceNeg, reduceIte, reduceCtorEq, reduceBEq]
    have h' : ¬ (decide (high (4) < ((decU 1 [b0, b1, b2, b3] : Nat) : Int)) = true) := by rw [← hwr, h]; simp
    rw [readV, if_neg h']

theorem read_1_m1 (b0 : UInt8) : Fsp Tryd.prog 40 [] 0 [spanOf (-1), .int .i64 1, .str [b0]] [] 0 (.int .i64 (readV 1 (-1) [b0])) := by
  have hw := width_fs (s := -1) (by unfold isSize; omega)
  have hn : ((wid (-1) : Nat) : Int) = 1 := rfl
  rw [hn] at hw
  simp only [spanOf] at hw
  have hU := orU_1_1 b0
  have hlt : decU 1 [b0] < 256 ^ 1 := decU_lt 1 [b0]
  have hhi : high (-1) = 127 := by decide
  (refine Fsp.of (nx := 0) mixed Tryd.func40 rfl (by decide) (by first | exact Nat.le_refl _ | simp) (by simp [Tryd.f40]) ⟨by decide, by decide⟩ ?_; simp -implicitDefEqProofs only [push_cast, Tryd.f40, spanOf, Int.reduceBEq, Int.reduceBNe, Int.reduceEq, Int.reduceNe, Int.reducePow, Nat.reduceAdd, Nat.reduceMul, Nat.reduceSub, Nat.reduceLT, Nat.reduceLeDiff, Nat.reduceEqDiff, Nat.reduceBEq, Int.reduceLT, Int.reduceLE, Int.reduceAdd, Int.reduceSub, Int.reduceMul, Int.reduceToNat, Int.reduceNeg, reduceIte, reduceCtorEq, reduceBEq])
  refine callE_pure hw (by rfl) (by rfl) (by rfl) (by decide) (by rfl) (fun _ => by rfl) (by first | rfl | simp [gdOk, newToks]) ?_
  simp -implicitDefEqProofs only [push_cast, Int.reduceBEq, Int.reduceBNe, Int.reduceEq, Int.reduceNe, Int.reducePow, Nat.reduceAdd, Nat.reduceMul, Nat.reduceSub, Nat.reduceLT, Nat.reduceLeDiff, Nat.reduceEqDiff, Nat.reduceBEq, Int.reduceLT, Int.reduceLE, Int.reduceAdd, Int.reduceSub, Int.reduceMul, Int.reduceToNat, Int.reduceNeg, reduceIte, reduceCtorEq, reduceBEq]
  refine loopC_un 2 ?_
  simp -implicitDefEqProofs only [push_cast, hU, Int.reduceBEq, Int.reduceBNe, Int.reduceEq, Int.reduceNe, Int.reducePow, Nat.reduceAdd, Nat.reduceMul, Nat.reduceSub, Nat.reduceLT, Nat.reduceLeDiff, Nat.reduceEqDiff, Nat.reduceBEq, Int.reduceLT, Int.reduceLE, Int.reduceAdd, Int.reduceSub, Int.reduceMul, Int.reduceToNat, Int.reduceNeg, reduceIte, reduceCtorEq, reduceBEq]
  have hwr : IntKind.i64.wrap ((decU 1 [b0] : Nat) : Int) = ((decU 1 [b0] : Nat) : Int) := by rw [wrap_i64_id (by omega) (by omega)]
  refine condC_split (fun h => ?_) (fun h => ?_)
  · simp -implicitDefEqProofs only [push_cast, hwr, Int.reduceBEq, Int.reduceBNe, Int.reduceEq, Int.reduceNe, Int.reducePow, Nat.reduceAdd, Nat.reduceMul, Nat.reduceSub, Nat.reduceLT, Nat.reduceLeDiff, Nat.reduceEqDiff, Nat.reduceBEq, Int.reduceLT, Int.reduceLE, Int.reduceAdd, Int.reduceSub, Int.reduceMul, Int.reduceToNat, Int.reduceNeg, reduceIte, reduceCtorEq, reduceBEq]
    have h' : decide (high (-1) < ((decU 1 [b0] : Nat) : Int)) = true := by rw [← hwr]; exact h
    rw [readV, if_pos h', show ((256 : Int) ^ wid (-1)) = 256 by decide, wrap_i64_id (by omega) (by omega)]
  · simp -implicitDefEqProofs only [push_cast, hwr, Int.reduceBEq, Int.reduceBNe, Int.reduceEq, Int.reduceNe, Int.reducePow, Nat.reduceAdd, Nat.reduceMul, Nat.reduceSub, Nat.reduceLT, Nat.reduceLeDiff, Nat.reduceEqDiff, Nat.reduceBEq, Int.reduceLT, Int.reduceLE, Int.reduceAdd, Int.reduceSub, Int.reduceMul, Int.reduceToNat, Int.reduceNeg, reduceIte, reduceCtorEq, reduceBEq]
    have h' : ¬ (decide (high (-1) < ((decU 1 [b0] : Nat) : Int)) = true) := by rw [← hwr, h]; simp
    rw [readV, if_neg h']

theorem read_1_m2 (b0 b1 : UInt8) : Fsp Tryd.prog 40 [] 0 [spanOf (-2), .int .i64 1, .str [b0, b1]] [] 0 (.int .i64 (readV 1 (-2) [b0, b1])) := by
  have hw := width_fs (s := -2) (by unfold isSize; omega)
  have hn : ((wid (-2) : Nat) : Int) = 2 := rfl
  rw [hn] at hw
  simp only [spanOf] at hw
  have hU := orU_1_2 b0 b1
  have hlt : decU 1 [b0, b1] < 256 ^ 2 := decU_lt 1 [b0, b1]
  have hhi : high (-2) = 32767 := by decide
  (refine Fsp.of (nx := 0) mixed Tryd.func40 rfl (by decide) (by first | exact Nat.le_refl _ | simp) (by simp [Tryd.f40]) ⟨by decide, by decide⟩ ?_; simp -implicitDefEqProofs only [push_cast, Tryd.f40, spanOf, Int.reduceBEq, Int.reduceBNe, Int.reduceEq, Int.reduceNe, Int.reducePow, Nat.reduceAdd, Nat.reduceMul, Nat.reduceSub, Nat.reduceLT, Nat.reduceLeDiff, Nat.reduceEqDiff, Nat.reduceBEq, Int.reduceLT, Int.reduceLE, Int.reduceAdd, Int.reduceSub, Int.reduceMul, Int.reduceToNat, Int.reduceNeg, reduceIte, reduceCtorEq, reduceBEq])
  refine callE_pure hw (by rfl) (by rfl) (by rfl) (by decide) (by rfl) (fun _ => by rfl) (by first | rfl | simp [gdOk, newToks]) ?_
  simp -implicitDefEqProofs only [push_cast, Int.reduceBEq, Int.reduceBNe, Int.reduceEq, Int.reduceNe, Int.reducePow, Nat.reduceAdd, Nat.reduceMul, Nat.reduceSub, Nat.reduceLT, Nat.reduceLeDiff, Nat.reduceEqDiff, Nat.reduceBEq, Int.reduceLT, Int.reduceLE, Int.reduceAdd, Int.reduceSub, Int.reduceMul, Int.reduceToNat, Int.reduceNeg, reduceIte, reduceCtorEq, reduceBEq]
  refine loopC_un 3 ?_
  simp -implicitDefEqProofs only [push_cast, hU, Int.reduceBEq, Int.reduceBNe, Int.reduceEq, Int.reduceNe, Int.reducePow, Nat.reduceAdd, Nat.reduceMul, Nat.reduceSub, Nat.reduceLT, Nat.reduceLeDiff, Nat.reduceEqDiff, Nat.reduceBEq, Int.reduceLT, Int.reduceLE, Int.reduceAdd, Int.reduceSub, Int.reduceMul, Int.reduceToNat, Int.reduceNeg, reduceIte, reduceCtorEq, reduceBEq]
  have hwr : IntKind.i64.wrap ((decU 1 [b0, b1] : Nat) : Int) = ((decU 1 [b0, b1] : Nat) : Int) := by rw [wrap_i64_id (by omega) (by omega)]
  refine condC_split (fun h => ?_) (fun h => ?_)
  · simp -implicitDefEqProofs only [push_cast, hwr, Int.reduceBEq, Int.reduceBNe, Int.reduceEq, Int.reduceNe, Int.reducePow, Nat.reduceAdd, Nat.reduceMul, Nat.reduceSub, Nat.reduceLT, Nat.reduceLeDiff, Nat.reduceEqDiff, Nat.reduceBEq, Int.reduceLT, Int.reduceLE, Int.reduceAdd, Int.reduceSub, Int.reduceMul, Int.reduceToNat, Int.reduceNeg, reduceIte, reduceCtorEq, reduceBEq]
    have h' : decide (high (-2) < ((decU 1 [b0, b1] : Nat) : Int)) = true := by rw [← hwr]; exact h
    rw [readV, if_pos h', show ((256 : Int) ^ wid (-2)) = 65536 by decide, wrap_i64_id (by omega) (by omega)]
  · simp -implicitDefEqProofs only [push_cast, hwr, Int.reduceBEq, Int.reduceBNe, Int.reduceEq, Int.reduceNe, Int.reducePow, Nat.reduceAdd, Nat.reduceMul, Nat.reduceSub, Nat.reduceLT, Nat.reduceLeDiff, Nat.reduceEqDiff, Nat.reduceBEq, Int.reduceLT, Int.reduceLE, Int.reduceAdd, Int.reduceSub, Int.reduceMul, Int.reduceToNat, Int.reduceNeg, reduceIte, reduceCtorEq, reduceBEq]
    have h' : ¬ (decide (high (-2) < ((decU 1 [b0, b1] : Nat) : Int)) = true) := by rw [← hwr, h]; simp
    rw [readV, if_neg h']

theorem read_1_m4 (b0 b1 b2 b3 : UInt8) : Fsp Tryd.prog 40 [] 0 [spanOf (-4), .int .i64 1, .str [b0, b1, b2, b3]] [] 0 (.int .i64 (readV 1 (-4) [b0, b1, b2, b3])) := by
  have hw := width_fs (s := -4) (by unfold isSize; omega)
  have hn : ((wid (-4) : Nat) : Int) = 4 := rfl
  rw [hn] at hw
  simp only [spanOf] at hw
  have hU := orU_1_4 b0 b1 b2 b3
  have hlt : decU 1 [b0, b1, b2, b3] < 256 ^ 4 := decU_lt 1 [b0, b1, b2, b3]
  have hhi : high (-4) = 2147483647 := by decide
  (refine Fsp.of (nx := 0) mixed Tryd.func40 rfl (by decide) (by first | exact Nat.le_refl _ | simp) (by simp [Tryd.f40]) ⟨by decide, by decide⟩ ?_; simp -implicitDefEqProofs only [push_cast, Tryd.f40, spanOf, Int.reduceBEq, Int.reduceBNe, Int.reduceEq, Int.reduceNe, Int.reducePow, Nat.reduceAdd, Nat.reduceMul, Nat.reduceSub, Nat.reduceLT, Nat.reduceLeDiff, Nat.reduceEqDiff, Nat.reduceBEq, Int.reduceLT, Int.reduceLE, Int.reduceAdd, Int.reduceSub, Int.reduceMul, Int.reduceToNat, Int.reduceNeg, reduceIte, reduceCtorEq, reduceBEq])
  refine callE_pure hw (by rfl) (by rfl) (by rfl) (by decide) (by rfl) (fun _ => by rfl) (by first | rfl | simp [gdOk, newToks]) ?_
  simp -implicitDefEqProofs only [push_cast, Int.reduceBEq, Int.reduceBNe, Int.reduceEq, Int.reduceNe, Int.reducePow, Nat.reduceAdd, Nat.reduceMul, Nat.reduceSub, Nat.reduceLT, Nat.reduceLeDiff, Nat.reduceEqDiff, Nat.reduceBEq, Int.reduceLT, Int.reduceLE, Int.reduceAdd, Int.reduceSub, Int.reduceMul, Int.reduceToNat, Int.reduceNeg, reduceIte, reduceCtorEq, reduceBEq]
  refine loopC_un 5 ?_
  simp -implicitDefEqProofs only [push_cast, hU, Int.reduceBEq, Int.reduceBNe, Int.reduceEq, Int.reduceNe, Int.reducePow, Nat.reduceAdd, Nat.reduceMul, Nat.reduceSub, Nat.reduceLT, Nat.reduceLeDiff, Nat.reduceEqDiff, Nat.reduceBEq, Int.reduceLT, Int.reduceLE, Int.reduceAdd, Int.reduceSub, Int.reduceMul, Int.reduceToNat, Int.reduceNeg, reduceIte, reduceCtorEq, reduceBEq]
  have hwr : IntKind.i64.wrap ((decU 1 [b0, b1, b2, b3] : Nat) : Int) = ((decU 1 [b0, b1, b2, b3] : Nat) : Int) := by rw [wrap_i64_id (by omega) (by omega)]
  refine condC_split (fun h => ?_) (fun h => ?_)
  · simp -implicitDefEqProofs only [push_cast, hwr, Int.reduceBEq, Int.reduceBNe, Int.reduceEq, Int.reduceNe, Int.reducePow, Nat.reduceAdd, Nat.reduceMul, Nat.reduceSub, Nat.reduceLT, Nat.reduceLeDiff, Nat.reduceEqDiff, Nat.reduceBEq, Int.reduceLT, Int.reduceLE, Int.reduceAdd, Int.reduceSub, Int.reduceMul, Int.reduceToNat, Int.reduceNeg, reduceIte, reduceCtorEq, reduceBEq]
    have h' : decide (high (-4) < ((decU 1 [b0, b1, b2, b3] : Nat) : Int)) = true := by rw [← hwr]; exact h
    rw [readV, if_pos h', show ((256 : Int) ^ wid (-4)) = 4294967296 by decide, wrap_i64_id (by omega) (by omega)]
  · simp -implicitDefEqProofs only [push_cast, hwr, Int.reduceBEq, Int.reduceBNe, Int.reduceEq, Int.reduceNe, Int.reducePow, Nat.reduceAdd, Nat.reduceMul, Nat.reduceSub, Nat.reduceLT, Nat.reduceLeDiff, Nat.reduceEqDiff, Nat.reduceBEq, Int.reduceLT, Int.reduceLE, Int.reduceAdd, Int.reduceSub, Int.reduceMul, Int.reduceToNat, Int.reduceNeg, reduceIte, reduceCtorEq, reduceBEq]
    have h' : ¬ (decide (high (-4) < ((decU 1 [b0, b1, b2, b3] : Nat) : Int)) = true) := by rw [← hwr, h]; simp
    rw [readV, if_neg h']

theorem read_fs {o s : Int} (ho : isOrder o) (hs : isSize s) (b : List UInt8) (hb : b.length = wid s) : Fsp Tryd.prog 40 [] 0 [spanOf s, .int .i64 o, .str b] [] 0 (.int .i64 (readV o s b)) := by
  rcases ho with rfl | rfl <;> rcases hs with rfl | rfl | rfl | rfl | rfl | rfl
  · match b, hb with
    | [b0], _ => exact read_0_1 b0
  · match b, hb with
    | [b0, b1], _ => exact read_0_2 b0 b1
  · match b, hb with
    | [b0, b1, b2, b3], _ => exact read_0_4 b0 b1 b2 b3
  · match b, hb with
    | [b0], _ => exact read_0_m1 b0
  · match b, hb with
    | [b0, b1], _ => exact read_0_m2 b0 b1
  · match b, hb with
    | [b0, b1, b2, b3], _ => exact read_0_m4 b0 b1 b2 b3
  · match b, hb with
    | [b0], _ => exact read_1_1 b0
  · match b, hb with
    | [b0, b1], _ => exact read_1_2 b0 b1
  · match b, hb with
    | [b0, b1, b2, b3], _ => exact read_1_4 b0 b1 b2 b3
  · match b, hb with
    | [b0], _ => exact read_1_m1 b0
  · match b, hb with
    | [b0, b1], _ => exact read_1_m2 b0 b1
  · match b, hb with
    | [b0, b1, b2, b3], _ => exact read_1_m4 b0 b1 b2 b3
def getV (o s : Int) (b : List UInt8) : Int := if b.length = wid s then readV o s b else 0
def getE (s : Int) (b : List UInt8) : Int := if b.length < wid s then 3 else if wid s < b.length then 4 else 0
set_option maxHeartbeats 1000000 in
theorem get_fs {o s : Int} (ho : isOrder o) (hs : isSize s) (b : List UInt8) : Fsp Tryd.prog 24 [] 0 [.int .i64 o, .int .i64 s, .str b] [] 0 (.tup [.int .i64 (getV o s b), .int .i64 (getE s b)]) := by
  have hk := known_fs ho hs
  have hw := width_fs hs
  simp only [spanOf] at hk hw
  (refine Fsp.of (nx := 0) mixed Tryd.func24 rfl (by decide) (by first | exact Nat.le_refl _ | simp) (by simp [Tryd.f24]) ⟨by decide, by decide⟩ ?_; simp -implicitDefEqProofs only [push_cast, Tryd.f24, Int.reduceBEq, Int.reduceBNe, Int.reduceEq, Int.reduceNe, Int.reducePow, Nat.reduceAdd, Nat.reduceMul, Nat.reduceSub, Nat.reduceLT, Nat.reduceLeDiff, Nat.reduceEqDiff, Nat.reduceBEq, Int.reduceLT, Int.reduceLE, Int.reduceAdd, Int.reduceSub, Int.reduceMul, Int.reduceToNat, Int.reduceNeg, reduceIte, reduceCtorEq, reduceBEq])
  refine callE_pure hk (by rfl) (by rfl) (by rfl) (by decide) (by rfl) (fun _ => by rfl) (by first | rfl | simp [gdOk, newToks]) ?_
  simp -implicitDefEqProofs only [push_cast, Int.reduceBEq, Int.reduceBNe, Int.reduceEq, Int.reduceNe, Int.reducePow, Nat.reduceAdd, Nat.reduceMul, Nat.reduceSub, Nat.reduceLT, Nat.reduceLeDiff, Nat.reduceEqDiff, Nat.reduceBEq, Int.reduceLT, Int.reduceLE, Int.reduceAdd, Int.reduceSub, Int.reduceMul, Int.reduceToNat, Int.reduceNeg, reduceIte, reduceCtorEq, reduceBEq]
  refine callE_pure hw (by rfl) (by rfl) (by rfl) (by decide) (by rfl) (fun _ => by rfl) (by first | rfl | simp [gdOk, newToks]) ?_
  simp -implicitDefEqProofs only [push_cast, Int.reduceBEq, Int.reduceBNe, Int.reduceEq, Int.reduceNe, Int.reducePow, Nat.reduceAdd, Nat.reduceMul, Nat.reduceSub, Nat.reduceLT, Nat.reduceLeDiff, Nat.reduceEqDiff, Nat.reduceBEq, Int.reduceLT, Int.reduceLE, Int.reduceAdd, Int.reduceSub, Int.reduceMul, Int.reduceToNat, Int.reduceNeg, reduceIte, reduceCtorEq, reduceBEq]
  refine condC_split (fun h => ?_) (fun h => ?_)
  · have h1 : b.length < wid s := by simp at h; omega
    rw [show getV o s b = 0 by rw [getV, if_neg (by omega)], show getE s b = 3 by rw [getE, if_pos h1]]
    simp -implicitDefEqProofs only [push_cast, Int.reduceBEq, Int.reduceBNe, Int.reduceEq, Int.reduceNe, Int.reducePow, Nat.reduceAdd, Nat.reduceMul, Nat.reduceSub, Nat.reduceLT, Nat.reduceLeDiff, Nat.reduceEqDiff, Nat.reduceBEq, Int.reduceLT, Int.reduceLE, Int.reduceAdd, Int.reduceSub, Int.reduceMul, Int.reduceToNat, Int.reduceNeg, reduceIte, reduceCtorEq, reduceBEq]
    simp [wkL, res2, res1, PV.weak, PV.el]
  · have h1 : wid s ≤ b.length := by simp at h; omega
    simp -implicitDefEqProofs only [push_cast, Int.reduceBEq, Int.reduceBNe, Int.reduceEq, Int.reduceNe, Int.reducePow, Nat.reduceAdd, Nat.reduceMul, Nat.reduceSub, Nat.reduceLT, Nat.reduceLeDiff, Nat.reduceEqDiff, Nat.reduceBEq, Int.reduceLT, Int.reduceLE, Int.reduceAdd, Int.reduceSub, Int.reduceMul, Int.reduceToNat, Int.reduceNeg, reduceIte, reduceCtorEq, reduceBEq]
    refine callE_pure hw (by rfl) (by rfl) (by rfl) (by decide) (by rfl) (fun _ => by rfl) (by first | rfl | simp [gdOk, newToks]) ?_
    simp -implicitDefEqProofs only [push_cast, Int.reduceBEq, Int.reduceBNe, Int.reduceEq, Int.reduceNe, Int.reducePow, Nat.reduceAdd, Nat.reduceMul, Nat.reduceSub, Nat.reduceLT, Nat.reduceLeDiff, Nat.reduceEqDiff, Nat.reduceBEq, Int.reduceLT, Int.reduceLE, Int.reduceAdd, Int.reduceSub, Int.reduceMul, Int.reduceToNat, Int.reduceNeg, reduceIte, reduceCtorEq, reduceBEq]
    refine condC_split (fun h2 => ?_) (fun h2 => ?_)
    · have h3 : wid s < b.length := by simp at h2; omega
      rw [show getV o s b = 0 by rw [getV, if_neg (by omega)], show getE s b = 4 by rw [getE, if_neg (by omega), if_pos h3]]
      simp -implicitDefEqProofs only [push_cast, Int.reduceBEq, Int.reduceBNe, Int.reduceEq, Int.reduceNe, Int.reducePow, Nat.reduceAdd, Nat.reduceMul, Nat.reduceSub, Nat.reduceLT, Nat.reduceLeDiff, Nat.reduceEqDiff, Nat.reduceBEq, Int.reduceLT, Int.reduceLE, Int.reduceAdd, Int.reduceSub, Int.reduceMul, Int.reduceToNat, Int.reduceNeg, reduceIte, reduceCtorEq, reduceBEq]
      simp [wkL, res2, res1, PV.weak, PV.el]
    · have h3 : b.length = wid s := by simp at h2; omega
      have hr := read_fs ho hs b h3
      simp only [spanOf] at hr
      rw [show getV o s b = readV o s b by rw [getV, if_pos h3], show getE s b = 0 by rw [getE, if_neg (by omega), if_neg (by omega)]]
      simp -implicitDefEqProofs only [push_cast, Int.reduceBEq, Int.reduceBNe, Int.reduceEq, Int.reduceNe, Int.reducePow, Nat.reduceAdd, Nat.reduceMul, Nat.reduceSub, Nat.reduceLT, Nat.reduceLeDiff, Nat.reduceEqDiff, Nat.reduceBEq, Int.reduceLT, Int.reduceLE, Int.reduceAdd, Int.reduceSub, Int.reduceMul, Int.reduceToNat, Int.reduceNeg, reduceIte, reduceCtorEq, reduceBEq]
      refine callE_pure hr (by rfl) (by rfl) (by rfl) (by decide) (by rfl) (fun _ => by rfl) (by first | rfl | simp [gdOk, newToks]) ?_
      simp -implicitDefEqProofs only [push_cast, Int.reduceBEq, Int.reduceBNe, Int.reduceEq, Int.reduceNe, Int.reducePow, Nat.reduceAdd, Nat.reduceMul, Nat.reduceSub, Nat.reduceLT, Nat.reduceLeDiff, Nat.reduceEqDiff, Nat.reduceBEq, Int.reduceLT, Int.reduceLE, Int.reduceAdd, Int.reduceSub, Int.reduceMul, Int.reduceToNat, Int.reduceNeg, reduceIte, reduceCtorEq, reduceBEq]
      simp [wkL, res2, res1, PV.weak, PV.el]

end Go.Proofs.Sh
