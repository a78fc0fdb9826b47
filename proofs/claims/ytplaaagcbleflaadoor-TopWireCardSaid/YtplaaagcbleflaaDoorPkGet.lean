/- Package order: Get. -/
import Derived.Test.YtplaaagcbleflaaDoorPkOrder
import Derived.Test.YtplaaagcbleflaaDoorPkFmt
import Derived.Test.YtplaaagcbleflaaDoorPvXf
set_option maxRecDepth 100000
set_option linter.unusedSimpArgs false
set_option linter.unusedVariables false
namespace Go.Proofs.Sh
open Go.Pv

/-- A number of bytes, the least first. -/
def little : List UInt8 → Nat
  | [] => 0
  | x :: l => x.toNat + 256 * little l
def decU (o : Int) (b : List UInt8) : Nat := little (if (o == 1) = true then b.reverse else b)
def readV (o s : Int) (b : List UInt8) : Int := if decide (high s < (decU o b : Int)) = true then (decU o b : Int) - 256 ^ wid s else decU o b
theorem or_u64 (a b : Nat) (ha : a < 2 ^ 64) (hb : b < 2 ^ 64) : bitsI .or .u64 (a : Int) (b : Int) = ((a ||| b : Nat) : Int) := by
  have h := Nat.or_lt_two_pow ha hb
  have e : (BitVec.ofInt 64 (a : Int) ||| BitVec.ofInt 64 (b : Int)).toNat = a ||| b := by
    rw [BitVec.toNat_or, BitVec.ofInt_natCast, BitVec.ofInt_natCast, BitVec.toNat_ofNat, BitVec.toNat_ofNat, Nat.mod_eq_of_lt ha, Nat.mod_eq_of_lt hb]
  show IntKind.u64.wrap ((BitVec.ofInt 64 (a : Int) ||| BitVec.ofInt 64 (b : Int)).toNat : Int) = _
  rw [e, wrap_u64]
  omega
theorem or_lo (a b k : Nat) (h : b < 2 ^ k) (hd : 2 ^ k ∣ a) : a ||| b = a + b := by
  obtain ⟨c, rfl⟩ := hd
  exact (Nat.two_pow_add_eq_or_of_lt h c).symm
theorem or_up (a b k : Nat) (h : a < 2 ^ k) (hd : 2 ^ k ∣ b) : a ||| b = a + b := by
  rw [Nat.or_comm, or_lo b a k h hd]; omega
theorem sh0 (x : UInt8) : IntKind.u64.wrap (IntKind.u64.wrap (x.toNat : Int) * 1) = ((x.toNat : Nat) : Int) := by
  have := x.toNat_lt
  rw [wrap_u64, wrap_u64]; omega
theorem sh1 (x : UInt8) : IntKind.u64.wrap (IntKind.u64.wrap (x.toNat : Int) * 256) = ((x.toNat * 256 : Nat) : Int) := by
  have := x.toNat_lt
  rw [wrap_u64, wrap_u64]; omega
theorem sh2 (x : UInt8) : IntKind.u64.wrap (IntKind.u64.wrap (x.toNat : Int) * 65536) = ((x.toNat * 65536 : Nat) : Int) := by
  have := x.toNat_lt
  rw [wrap_u64, wrap_u64]; omega
theorem sh3 (x : UInt8) : IntKind.u64.wrap (IntKind.u64.wrap (x.toNat : Int) * 16777216) = ((x.toNat * 16777216 : Nat) : Int) := by
  have := x.toNat_lt
  rw [wrap_u64, wrap_u64]; omega
theorem or_0 (b : Nat) (h : b < 2 ^ 64) : bitsI .or .u64 0 (b : Int) = (b : Int) := by
  have := or_u64 0 b (by decide) h
  rw [Nat.zero_or] at this; exact this

theorem orU_0_1 (b0 : UInt8) : bitsI .or .u64 (0) (IntKind.u64.wrap (IntKind.u64.wrap (b0.toNat : Int) * 1)) = ((decU 0 [b0] : Nat) : Int) := by
  have h_b0 := b0.toNat_lt
  simp only [sh0, sh1, sh2, sh3]
  rw [or_0 _ (by omega)]
  simp only [decU, little, Int.reduceBEq, Bool.false_eq_true, if_true, if_false, ite_true, ite_false, List.reverse_cons, List.reverse_nil, List.nil_append, List.cons_append]
  omega
theorem orU_0_2 (b0 b1 : UInt8) : bitsI .or .u64 (bitsI .or .u64 (0) (IntKind.u64.wrap (IntKind.u64.wrap (b0.toNat : Int) * 1))) (IntKind.u64.wrap (IntKind.u64.wrap (b1.toNat : Int) * 256)) = ((decU 0 [b0, b1] : Nat) : Int) := by
  have h_b0 := b0.toNat_lt
  have h_b1 := b1.toNat_lt
  simp only [sh0, sh1, sh2, sh3]
  rw [or_0 _ (by omega)]
  rw [or_u64 _ _ (by omega) (by omega), or_up _ _ 8 (by omega) (by omega)]
  simp only [decU, little, Int.reduceBEq, Bool.false_eq_true, if_true, if_false, ite_true, ite_false, List.reverse_cons, List.reverse_nil, List.nil_append, List.cons_append]
  omega
theorem orU_0_4 (b0 b1 b2 b3 : UInt8) : bitsI .or .u64 (bitsI .or .u64 (bitsI .or .u64 (bitsI .or .u64 (0) (IntKind.u64.wrap (IntKind.u64.wrap (b0.toNat : Int) * 1))) (IntKind.u64.wrap (IntKind.u64.wrap (b1.toNat : Int) * 256))) (IntKind.u64.wrap (IntKind.u64.wrap (b2.toNat : Int) * 65536))) (IntKind.u64.wrap (IntKind.u64.wrap (b3.toNat : Int) * 16777216)) = ((decU 0 [b0, b1, b2, b3] : Nat) : Int) := by
  have h_b0 := b0.toNat_lt
  have h_b1 := b1.toNat_lt
  have h_b2 := b2.toNat_lt
  have h_b3 := b3.toNat_lt
  simp only [sh0, sh1, sh2, sh3]
  rw [or_0 _ (by omega)]
  rw [or_u64 _ _ (by omega) (by omega), or_up _ _ 8 (by omega) (by omega)]
  rw [or_u64 _ _ (by omega) (by omega), or_up _ _ 16 (by omega) (by omega)]
  rw [or_u64 _ _ (by omega) (by omega), or_up _ _ 24 (by omega) (by omega)]
  simp only [decU, little, Int.reduceBEq, Bool.false_eq_true, if_true, if_false, ite_true, ite_false, List.reverse_cons, List.reverse_nil, List.nil_append, List.cons_append]
  omega
theorem orU_1_1 (b0 : UInt8) : bitsI .or .u64 (0) (IntKind.u64.wrap (IntKind.u64.wrap (b0.toNat : Int) * 1)) = ((decU 1 [b0] : Nat) : Int) := by
  have h_b0 := b0.toNat_lt
  simp only [sh0, sh1, sh2, sh3]
  rw [or_0 _ (by omega)]
  simp only [decU, little, Int.reduceBEq, Bool.false_eq_true, if_true, if_false, ite_true, ite_false, List.reverse_cons, List.reverse_nil, List.nil_append, List.cons_append]
  omega
theorem orU_1_2 (b0 b1 : UInt8) : bitsI .or .u64 (bitsI .or .u64 (0) (IntKind.u64.wrap (IntKind.u64.wrap (b0.toNat : Int) * 256))) (IntKind.u64.wrap (IntKind.u64.wrap (b1.toNat : Int) * 1)) = ((decU 1 [b0, b1] : Nat) : Int) := by
  have h_b0 := b0.toNat_lt
  have h_b1 := b1.toNat_lt
  simp only [sh0, sh1, sh2, sh3]
  rw [or_0 _ (by omega)]
  rw [or_u64 _ _ (by omega) (by omega), or_lo _ _ 8 (by omega) (by omega)]
  simp only [decU, little, Int.reduceBEq, Bool.false_eq_true, if_true, if_false, ite_true, ite_false, List.reverse_cons, List.reverse_nil, List.nil_append, List.cons_append]
  omega
theorem orU_1_4 (b0 b1 b2 b3 : UInt8) : bitsI .or .u64 (bitsI .or .u64 (bitsI .or .u64 (bitsI .or .u64 (0) (IntKind.u64.wrap (IntKind.u64.wrap (b0.toNat : Int) * 16777216))) (IntKind.u64.wrap (IntKind.u64.wrap (b1.toNat : Int) * 65536))) (IntKind.u64.wrap (IntKind.u64.wrap (b2.toNat : Int) * 256))) (IntKind.u64.wrap (IntKind.u64.wrap (b3.toNat : Int) * 1)) = ((decU 1 [b0, b1, b2, b3] : Nat) : Int) := by
  have h_b0 := b0.toNat_lt
  have h_b1 := b1.toNat_lt
  have h_b2 := b2.toNat_lt
  have h_b3 := b3.toNat_lt
  simp only [sh0, sh1, sh2, sh3]
  rw [or_0 _ (by omega)]
  rw [or_u64 _ _ (by omega) (by omega), or_lo _ _ 24 (by omega) (by omega)]
  rw [or_u64 _ _ (by omega) (by omega), or_lo _ _ 16 (by omega) (by omega)]
  rw [or_u64 _ _ (by omega) (by omega), or_lo _ _ 8 (by omega) (by omega)]
  simp only [decU, little, Int.reduceBEq, Bool.false_eq_true, if_true, if_false, ite_true, ite_false, List.reverse_cons, List.reverse_nil, List.nil_append, List.cons_append]
  omega
theorem little_lt : ∀ l : List UInt8, little l < 256 ^ l.length
  | [] => by decide
  | x :: l => by
    have h1 := little_lt l
    have h2 := x.toNat_lt
    have h3 : 256 ^ (x :: l).length = 256 * 256 ^ l.length := by rw [List.length_cons, Nat.pow_succ, Nat.mul_comm]
    rw [h3]
    show x.toNat + 256 * little l < _
    omega
theorem decU_lt (o : Int) (b : List UInt8) : decU o b < 256 ^ b.length := by
  unfold decU
  split
  · have := little_lt b.reverse; rwa [List.length_reverse] at this
  · exact little_lt b
set_option maxHeartbeats 1000000
theorem read_0_1 (b0 : UInt8) : Fsp Tryd.prog 85 [] 0 [spanOf (1), .int .i64 0, .str [b0]] [] 0 (.int .i64 (readV 0 (1) [b0])) := by
  have hw := width_fs (s := 1) (by unfold isSize; omega)
  have hn : ((wid (1) : Nat) : Int) = 1 := rfl
  rw [hn] at hw
  simp only [spanOf] at hw
  have hU := orU_0_1 b0
  have hlt : decU 0 [b0] < 256 ^ 1 := decU_lt 0 [b0]
  have hhi : high (1) = 255 := by decide
  (refine Fsp.ofs (nx := 0) mixed Tryd.func85 rfl (by simp [Tryd.f85]) ?_; simp -implicitDefEqProofs only [push_cast, Tryd.f85, spanOf, seval])
  refine callE_p hw ?_
  simp -implicitDefEqProofs only [push_cast, seval]
  refine loopC_un 2 ?_
  simp -implicitDefEqProofs only [push_cast, hU, seval]
  have hwr : IntKind.i64.wrap ((decU 0 [b0] : Nat) : Int) = ((decU 0 [b0] : Nat) : Int) := by rw [wrap_i64_id (by omega) (by omega)]
  refine condC_split (fun h => ?_) (fun h => ?_)
  · simp -implicitDefEqProofs only [push_cast, hwr, seval]
    have h' : decide (high (1) < ((decU 0 [b0] : Nat) : Int)) = true := by rw [← hwr]; exact h
    rw [readV, if_pos h', show ((256 : Int) ^ wid (1)) = 256 by decide, wrap_i64_id (by omega) (by omega)]
  · simp -implicitDefEqProofs only [push_cast, hwr, seval]
    have h' : ¬ (decide (high (1) < ((decU 0 [b0] : Nat) : Int)) = true) := by rw [← hwr, h]; simp
    rw [readV, if_neg h']

theorem read_0_2 (b0 b1 : UInt8) : Fsp Tryd.prog 85 [] 0 [spanOf (2), .int .i64 0, .str [b0, b1]] [] 0 (.int .i64 (readV 0 (2) [b0, b1])) := by
  have hw := width_fs (s := 2) (by unfold isSize; omega)
  have hn : ((wid (2) : Nat) : Int) = 2 := rfl
  rw [hn] at hw
  simp only [spanOf] at hw
  have hU := orU_0_2 b0 b1
  have hlt : decU 0 [b0, b1] < 256 ^ 2 := decU_lt 0 [b0, b1]
  have hhi : high (2) = 65535 := by decide
  (refine Fsp.ofs (nx := 0) mixed Tryd.func85 rfl (by simp [Tryd.f85]) ?_; simp -implicitDefEqProofs only [push_cast, Tryd.f85, spanOf, seval])
  refine callE_p hw ?_
  simp -implicitDefEqProofs only [push_cast, seval]
  refine loopC_un 3 ?_
  simp -implicitDefEqProofs only [push_cast, hU, seval]
  have hwr : IntKind.i64.wrap ((decU 0 [b0, b1] : Nat) : Int) = ((decU 0 [b0, b1] : Nat) : Int) := by rw [wrap_i64_id (by omega) (by omega)]
  refine condC_split (fun h => ?_) (fun h => ?_)
  · simp -implicitDefEqProofs only [push_cast, hwr, seval]
    have h' : decide (high (2) < ((decU 0 [b0, b1] : Nat) : Int)) = true := by rw [← hwr]; exact h
    rw [readV, if_pos h', show ((256 : Int) ^ wid (2)) = 65536 by decide, wrap_i64_id (by omega) (by omega)]
  · simp -implicitDefEqProofs only [push_cast, hwr, seval]
    have h' : ¬ (decide (high (2) < ((decU 0 [b0, b1] : Nat) : Int)) = true) := by rw [← hwr, h]; simp
    rw [readV, if_neg h']

theorem read_0_4 (b0 b1 b2 b3 : UInt8) : Fsp Tryd.prog 85 [] 0 [spanOf (4), .int .i64 0, .str [b0, b1, b2, b3]] [] 0 (.int .i64 (readV 0 (4) [b0, b1, b2, b3])) := by
  have hw := width_fs (s := 4) (by unfold isSize; omega)
  have hn : ((wid (4) : Nat) : Int) = 4 := rfl
  rw [hn] at hw
  simp only [spanOf] at hw
  have hU := orU_0_4 b0 b1 b2 b3
  have hlt : decU 0 [b0, b1, b2, b3] < 256 ^ 4 := decU_lt 0 [b0, b1, b2, b3]
  have hhi : high (4) = 4294967295 := by decide
  (refine Fsp.ofs (nx := 0) mixed Tryd.func85 rfl (by simp [Tryd.f85]) ?_; simp -implicitDefEqProofs only [push_cast, Tryd.f85, spanOf, seval])
  refine callE_p hw ?_
  simp -implicitDefEqProofs only [push_cast, seval]
  refine loopC_un 5 ?_
  simp -implicitDefEqProofs only [push_cast, hU, seval]
  have hwr : IntKind.i64.wrap ((decU 0 [b0, b1, b2, b3] : Nat) : Int) = ((decU 0 [b0, b1, b2, b3] : Nat) : Int) := by rw [wrap_i64_id (by omega) (by omega)]
  refine condC_split (fun h => ?_) (fun h => ?_)
  · simp -implicitDefEqProofs only [push_cast, hwr, seval]
    have h' : decide (high (4) < ((decU 0 [b0, b1, b2, b3] : Nat) : Int)) = true := by rw [← hwr]; exact h
    rw [readV, if_pos h', show ((256 : Int) ^ wid (4)) = 4294967296 by decide, wrap_i64_id (by omega) (by omega)]
  · simp -implicitDefEqProofs only [push_cast, hwr, seval]
    have h' : ¬ (decide (high (4) < ((decU 0 [b0, b1, b2, b3] : Nat) : Int)) = true) := by rw [← hwr, h]; simp
    rw [readV, if_neg h']

theorem read_0_m1 (b0 : UInt8) : Fsp Tryd.prog 85 [] 0 [spanOf (-1), .int .i64 0, .str [b0]] [] 0 (.int .i64 (readV 0 (-1) [b0])) := by
  have hw := width_fs (s := -1) (by unfold isSize; omega)
  have hn : ((wid (-1) : Nat) : Int) = 1 := rfl
  rw [hn] at hw
  simp only [spanOf] at hw
  have hU := orU_0_1 b0
  have hlt : decU 0 [b0] < 256 ^ 1 := decU_lt 0 [b0]
  have hhi : high (-1) = 127 := by decide
  (refine Fsp.ofs (nx := 0) mixed Tryd.func85 rfl (by simp [Tryd.f85]) ?_; simp -implicitDefEqProofs only [push_cast, Tryd.f85, spanOf, seval])
  refine callE_p hw ?_
  simp -implicitDefEqProofs only [push_cast, seval]
  refine loopC_un 2 ?_
  simp -implicitDefEqProofs only [push_cast, hU, seval]
  have hwr : IntKind.i64.wrap ((decU 0 [b0] : Nat) : Int) = ((decU 0 [b0] : Nat) : Int) := by rw [wrap_i64_id (by omega) (by omega)]
  refine condC_split (fun h => ?_) (fun h => ?_)
  · simp -implicitDefEqProofs only [push_cast, hwr, seval]
    have h' : decide (high (-1) < ((decU 0 [b0] : Nat) : Int)) = true := by rw [← hwr]; exact h
    rw [readV, if_pos h', show ((256 : Int) ^ wid (-1)) = 256 by decide, wrap_i64_id (by omega) (by omega)]
  · simp -implicitDefEqProofs only [push_cast, hwr, seval]
    have h' : ¬ (decide (high (-1) < ((decU 0 [b0] : Nat) : Int)) = true) := by rw [← hwr, h]; simp
    rw [readV, if_neg h']

theorem read_0_m2 (b0 b1 : UInt8) : Fsp Tryd.prog 85 [] 0 [spanOf (-2), .int .i64 0, .str [b0, b1]] [] 0 (.int .i64 (readV 0 (-2) [b0, b1])) := by
  have hw := width_fs (s := -2) (by unfold isSize; omega)
  have hn : ((wid (-2) : Nat) : Int) = 2 := rfl
  rw [hn] at hw
  simp only [spanOf] at hw
  have hU := orU_0_2 b0 b1
  have hlt : decU 0 [b0, b1] < 256 ^ 2 := decU_lt 0 [b0, b1]
  have hhi : high (-2) = 32767 := by decide
  (refine Fsp.ofs (nx := 0) mixed Tryd.func85 rfl (by simp [Tryd.f85]) ?_; simp -implicitDefEqProofs only [push_cast, Tryd.f85, spanOf, seval])
  refine callE_p hw ?_
  simp -implicitDefEqProofs only [push_cast, seval]
  refine loopC_un 3 ?_
  simp -implicitDefEqProofs only [push_cast, hU, seval]
  have hwr : IntKind.i64.wrap ((decU 0 [b0, b1] : Nat) : Int) = ((decU 0 [b0, b1] : Nat) : Int) := by rw [wrap_i64_id (by omega) (by omega)]
  refine condC_split (fun h => ?_) (fun h => ?_)
  · simp -implicitDefEqProofs only [push_cast, hwr, seval]
    have h' : decide (high (-2) < ((decU 0 [b0, b1] : Nat) : Int)) = true := by rw [← hwr]; exact h
    rw [readV, if_pos h', show ((256 : Int) ^ wid (-2)) = 65536 by decide, wrap_i64_id (by omega) (by omega)]
  · simp -implicitDefEqProofs only [push_cast, hwr, seval]
    have h' : ¬ (decide (high (-2) < ((decU 0 [b0, b1] : Nat) : Int)) = true) := by rw [← hwr, h]; simp
    rw [readV, if_neg h']

theorem read_0_m4 (b0 b1 b2 b3 : UInt8) : Fsp Tryd.prog 85 [] 0 [spanOf (-4), .int .i64 0, .str [b0, b1, b2, b3]] [] 0 (.int .i64 (readV 0 (-4) [b0, b1, b2, b3])) := by
  have hw := width_fs (s := -4) (by unfold isSize; omega)
  have hn : ((wid (-4) : Nat) : Int) = 4 := rfl
  rw [hn] at hw
  simp only [spanOf] at hw
  have hU := orU_0_4 b0 b1 b2 b3
  have hlt : decU 0 [b0, b1, b2, b3] < 256 ^ 4 := decU_lt 0 [b0, b1, b2, b3]
  have hhi : high (-4) = 2147483647 := by decide
  (refine Fsp.ofs (nx := 0) mixed Tryd.func85 rfl (by simp [Tryd.f85]) ?_; simp -implicitDefEqProofs only [push_cast, Tryd.f85, spanOf, seval])
  refine callE_p hw ?_
  simp -implicitDefEqProofs only [push_cast, seval]
  refine loopC_un 5 ?_
  simp -implicitDefEqProofs only [push_cast, hU, seval]
  have hwr : IntKind.i64.wrap ((decU 0 [b0, b1, b2, b3] : Nat) : Int) = ((decU 0 [b0, b1, b2, b3] : Nat) : Int) := by rw [wrap_i64_id (by omega) (by omega)]
  refine condC_split (fun h => ?_) (fun h => ?_)
  · simp -implicitDefEqProofs only [push_cast, hwr, seval]
    have h' : decide (high (-4) < ((decU 0 [b0, b1, b2, b3] : Nat) : Int)) = true := by rw [← hwr]; exact h
    rw [readV, if_pos h', show ((256 : Int) ^ wid (-4)) = 4294967296 by decide, wrap_i64_id (by omega) (by omega)]
  · simp -implicitDefEqProofs only [push_cast, hwr, seval]
    have h' : ¬ (decide (high (-4) < ((decU 0 [b0, b1, b2, b3] : Nat) : Int)) = true) := by rw [← hwr, h]; simp
    rw [readV, if_neg h']

theorem read_1_1 (b0 : UInt8) : Fsp Tryd.prog 85 [] 0 [spanOf (1), .int .i64 1, .str [b0]] [] 0 (.int .i64 (readV 1 (1) [b0])) := by
  have hw := width_fs (s := 1) (by unfold isSize; omega)
  have hn : ((wid (1) : Nat) : Int) = 1 := rfl
  rw [hn] at hw
  simp only [spanOf] at hw
  have hU := orU_1_1 b0
  have hlt : decU 1 [b0] < 256 ^ 1 := decU_lt 1 [b0]
  have hhi : high (1) = 255 := by decide
  (refine Fsp.ofs (nx := 0) mixed Tryd.func85 rfl (by simp [Tryd.f85]) ?_; simp -implicitDefEqProofs only [push_cast, Tryd.f85, spanOf, seval])
  refine callE_p hw ?_
  simp -implicitDefEqProofs only [push_cast, seval]
  refine loopC_un 2 ?_
  simp -implicitDefEqProofs only [push_cast, hU, seval]
  have hwr : IntKind.i64.wrap ((decU 1 [b0] : Nat) : Int) = ((decU 1 [b0] : Nat) : Int) := by rw [wrap_i64_id (by omega) (by omega)]
  refine condC_split (fun h => ?_) (fun h => ?_)
  · simp -implicitDefEqProofs only [push_cast, hwr, seval]
    have h' : decide (high (1) < ((decU 1 [b0] : Nat) : Int)) = true := by rw [← hwr]; exact h
    rw [readV, if_pos h', show ((256 : Int) ^ wid (1)) = 256 by decide, wrap_i64_id (by omega) (by omega)]
  · simp -implicitDefEqProofs only [push_cast, hwr, seval]
    have h' : ¬ (decide (high (1) < ((decU 1 [b0] : Nat) : Int)) = true) := by rw [← hwr, h]; simp
    rw [readV, if_neg h']

theorem read_1_2 (b0 b1 : UInt8) : Fsp Tryd.prog 85 [] 0 [spanOf (2), .int .i64 1, .str [b0, b1]] [] 0 (.int .i64 (readV 1 (2) [b0, b1])) := by
  have hw := width_fs (s := 2) (by unfold isSize; omega)
  have hn : ((wid (2) : Nat) : Int) = 2 := rfl
  rw [hn] at hw
  simp only [spanOf] at hw
  have hU := orU_1_2 b0 b1
  have hlt : decU 1 [b0, b1] < 256 ^ 2 := decU_lt 1 [b0, b1]
  have hhi : high (2) = 65535 := by decide
  (refine Fsp.ofs (nx := 0) mixed Tryd.func85 rfl (by simp [Tryd.f85]) ?_; simp -implicitDefEqProofs only [push_cast, Tryd.f85, spanOf, seval])
  refine callE_p hw ?_
  simp -implicitDefEqProofs only [push_cast, seval]
  refine loopC_un 3 ?_
  simp -implicitDefEqProofs only [push_cast, hU, seval]
  have hwr : IntKind.i64.wrap ((decU 1 [b0, b1] : Nat) : Int) = ((decU 1 [b0, b1] : Nat) : Int) := by rw [wrap_i64_id (by omega) (by omega)]
  refine condC_split (fun h => ?_) (fun h => ?_)
  · simp -implicitDefEqProofs only [push_cast, hwr, seval]
    have h' : decide (high (2) < ((decU 1 [b0, b1] : Nat) : Int)) = true := by rw [← hwr]; exact h
    rw [readV, if_pos h', show ((256 : Int) ^ wid (2)) = 65536 by decide, wrap_i64_id (by omega) (by omega)]
  · simp -implicitDefEqProofs only [push_cast, hwr, seval]
    have h' : ¬ (decide (high (2) < ((decU 1 [b0, b1] : Nat) : Int)) = true) := by rw [← hwr, h]; simp
    rw [readV, if_neg h']

theorem read_1_4 (b0 b1 b2 b3 : UInt8) : Fsp Tryd.prog 85 [] 0 [spanOf (4), .int .i64 1, .str [b0, b1, b2, b3]] [] 0 (.int .i64 (readV 1 (4) [b0, b1, b2, b3])) := by
  have hw := width_fs (s := 4) (by unfold isSize; omega)
  have hn : ((wid (4) : Nat) : Int) = 4 := rfl
  rw [hn] at hw
  simp only [spanOf] at hw
  have hU := orU_1_4 b0 b1 b2 b3
  have hlt : decU 1 [b0, b1, b2, b3] < 256 ^ 4 := decU_lt 1 [b0, b1, b2, b3]
  have hhi : high (4) = 4294967295 := by decide
  (refine Fsp.ofs (nx := 0) mixed Tryd.func85 rfl (by simp [Tryd.f85]) ?_; simp -implicitDefEqProofs only [push_cast, Tryd.f85, spanOf, seval])
  refine callE_p hw ?_
  simp -implicitDefEqProofs only [push_cast, seval]
  refine loopC_un 5 ?_
  simp -implicitDefEqProofs only [push_cast, hU, seval]
  have hwr : IntKind.i64.wrap ((decU 1 [b0, b1, b2, b3] : Nat) : Int) = ((decU 1 [b0, b1, b2, b3] : Nat) : Int) := by rw [wrap_i64_id (by omega) (by omega)]
  refine condC_split (fun h => ?_) (fun h => ?_)
  · simp -implicitDefEqProofs only [push_cast, hwr, seval]
    have h' : decide (high (4) < ((decU 1 [b0, b1, b2, b3] : Nat) : Int)) = true := by rw [← hwr]; exact h
    rw [readV, if_pos h', show ((256 : Int) ^ wid (4)) = 4294967296 by decide, wrap_i64_id (by omega) (by omega)]
  · simp -implicitDefEqProofs only [push_cast, hwr, seval]
    have h' : ¬ (decide (high (4) < ((decU 1 [b0, b1, b2, b3] : Nat) : Int)) = true) := by rw [← hwr, h]; simp
    rw [readV, if_neg h']

theorem read_1_m1 (b0 : UInt8) : Fsp Tryd.prog 85 [] 0 [spanOf (-1), .int .i64 1, .str [b0]] [] 0 (.int .i64 (readV 1 (-1) [b0])) := by
  have hw := width_fs (s := -1) (by unfold isSize; omega)
  have hn : ((wid (-1) : Nat) : Int) = 1 := rfl
  rw [hn] at hw
  simp only [spanOf] at hw
  have hU := orU_1_1 b0
  have hlt : decU 1 [b0] < 256 ^ 1 := decU_lt 1 [b0]
  have hhi : high (-1) = 127 := by decide
  (refine Fsp.ofs (nx := 0) mixed Tryd.func85 rfl (by simp [Tryd.f85]) ?_; simp -implicitDefEqProofs only [push_cast, Tryd.f85, spanOf, seval])
  refine callE_p hw ?_
  simp -implicitDefEqProofs only [push_cast, seval]
  refine loopC_un 2 ?_
  simp -implicitDefEqProofs only [push_cast, hU, seval]
  have hwr : IntKind.i64.wrap ((decU 1 [b0] : Nat) : Int) = ((decU 1 [b0] : Nat) : Int) := by rw [wrap_i64_id (by omega) (by omega)]
  refine condC_split (fun h => ?_) (fun h => ?_)
  · simp -implicitDefEqProofs only [push_cast, hwr, seval]
    have h' : decide (high (-1) < ((decU 1 [b0] : Nat) : Int)) = true := by rw [← hwr]; exact h
    rw [readV, if_pos h', show ((256 : Int) ^ wid (-1)) = 256 by decide, wrap_i64_id (by omega) (by omega)]
  · simp -implicitDefEqProofs only [push_cast, hwr, seval]
    have h' : ¬ (decide (high (-1) < ((decU 1 [b0] : Nat) : Int)) = true) := by rw [← hwr, h]; simp
    rw [readV, if_neg h']

theorem read_1_m2 (b0 b1 : UInt8) : Fsp Tryd.prog 85 [] 0 [spanOf (-2), .int .i64 1, .str [b0, b1]] [] 0 (.int .i64 (readV 1 (-2) [b0, b1])) := by
  have hw := width_fs (s := -2) (by unfold isSize; omega)
  have hn : ((wid (-2) : Nat) : Int) = 2 := rfl
  rw [hn] at hw
  simp only [spanOf] at hw
  have hU := orU_1_2 b0 b1
  have hlt : decU 1 [b0, b1] < 256 ^ 2 := decU_lt 1 [b0, b1]
  have hhi : high (-2) = 32767 := by decide
  (refine Fsp.ofs (nx := 0) mixed Tryd.func85 rfl (by simp [Tryd.f85]) ?_; simp -implicitDefEqProofs only [push_cast, Tryd.f85, spanOf, seval])
  refine callE_p hw ?_
  simp -implicitDefEqProofs only [push_cast, seval]
  refine loopC_un 3 ?_
  simp -implicitDefEqProofs only [push_cast, hU, seval]
  have hwr : IntKind.i64.wrap ((decU 1 [b0, b1] : Nat) : Int) = ((decU 1 [b0, b1] : Nat) : Int) := by rw [wrap_i64_id (by omega) (by omega)]
  refine condC_split (fun h => ?_) (fun h => ?_)
  · simp -implicitDefEqProofs only [push_cast, hwr, seval]
    have h' : decide (high (-2) < ((decU 1 [b0, b1] : Nat) : Int)) = true := by rw [← hwr]; exact h
    rw [readV, if_pos h', show ((256 : Int) ^ wid (-2)) = 65536 by decide, wrap_i64_id (by omega) (by omega)]
  · simp -implicitDefEqProofs only [push_cast, hwr, seval]
    have h' : ¬ (decide (high (-2) < ((decU 1 [b0, b1] : Nat) : Int)) = true) := by rw [← hwr, h]; simp
    rw [readV, if_neg h']

theorem read_1_m4 (b0 b1 b2 b3 : UInt8) : Fsp Tryd.prog 85 [] 0 [spanOf (-4), .int .i64 1, .str [b0, b1, b2, b3]] [] 0 (.int .i64 (readV 1 (-4) [b0, b1, b2, b3])) := by
  have hw := width_fs (s := -4) (by unfold isSize; omega)
  have hn : ((wid (-4) : Nat) : Int) = 4 := rfl
  rw [hn] at hw
  simp only [spanOf] at hw
  have hU := orU_1_4 b0 b1 b2 b3
  have hlt : decU 1 [b0, b1, b2, b3] < 256 ^ 4 := decU_lt 1 [b0, b1, b2, b3]
  have hhi : high (-4) = 2147483647 := by decide
  (refine Fsp.ofs (nx := 0) mixed Tryd.func85 rfl (by simp [Tryd.f85]) ?_; simp -implicitDefEqProofs only [push_cast, Tryd.f85, spanOf, seval])
  refine callE_p hw ?_
  simp -implicitDefEqProofs only [push_cast, seval]
  refine loopC_un 5 ?_
  simp -implicitDefEqProofs only [push_cast, hU, seval]
  have hwr : IntKind.i64.wrap ((decU 1 [b0, b1, b2, b3] : Nat) : Int) = ((decU 1 [b0, b1, b2, b3] : Nat) : Int) := by rw [wrap_i64_id (by omega) (by omega)]
  refine condC_split (fun h => ?_) (fun h => ?_)
  · simp -implicitDefEqProofs only [push_cast, hwr, seval]
    have h' : decide (high (-4) < ((decU 1 [b0, b1, b2, b3] : Nat) : Int)) = true := by rw [← hwr]; exact h
    rw [readV, if_pos h', show ((256 : Int) ^ wid (-4)) = 4294967296 by decide, wrap_i64_id (by omega) (by omega)]
  · simp -implicitDefEqProofs only [push_cast, hwr, seval]
    have h' : ¬ (decide (high (-4) < ((decU 1 [b0, b1, b2, b3] : Nat) : Int)) = true) := by rw [← hwr, h]; simp
    rw [readV, if_neg h']

theorem read_fs {o s : Int} (ho : isOrder o) (hs : isSize s) (b : List UInt8) (hb : b.length = wid s) : Fsp Tryd.prog 85 [] 0 [spanOf s, .int .i64 o, .str b] [] 0 (.int .i64 (readV o s b)) := by
  rcases ho with rfl | rfl <;> rcases hs with rfl | rfl | rfl | rfl | rfl | rfl
  · match b, hb with
    | [b0], _ => exact read_0_1 b0
  · match b, hb with
    | [b0, b1], _ => exact read_0_2 b0 b1
  · match b, hb with
    | [b0, b1, b2, b3], _ => exact read_0_4 b0 b1 b2 b3
  · match b, hb with
    | [b0], _ => exact read_0_m1 b0
  · match b, hb with
    | [b0, b1], _ => exact read_0_m2 b0 b1
  · match b, hb with
    | [b0, b1, b2, b3], _ => exact read_0_m4 b0 b1 b2 b3
  · match b, hb with
    | [b0], _ => exact read_1_1 b0
  · match b, hb with
    | [b0, b1], _ => exact read_1_2 b0 b1
  · match b, hb with
    | [b0, b1, b2, b3], _ => exact read_1_4 b0 b1 b2 b3
  · match b, hb with
    | [b0], _ => exact read_1_m1 b0
  · match b, hb with
    | [b0, b1], _ => exact read_1_m2 b0 b1
  · match b, hb with
    | [b0, b1, b2, b3], _ => exact read_1_m4 b0 b1 b2 b3
def getV (o s : Int) (b : List UInt8) : Int := if b.length = wid s then readV o s b else 0
def getE (s : Int) (b : List UInt8) : Int := if b.length < wid s then 3 else if wid s < b.length then 4 else 0
set_option maxHeartbeats 1000000 in
theorem get_fs {o s : Int} (ho : isOrder o) (hs : isSize s) (b : List UInt8) : Fsp Tryd.prog 73 [] 0 [.int .i64 o, .int .i64 s, .str b] [] 0 (.tup [.int .i64 (getV o s b), .int .i64 (getE s b)]) := by
  have hk := known_fs ho hs
  have hw := width_fs hs
  simp only [spanOf] at hk hw
  (refine Fsp.ofs (nx := 0) mixed Tryd.func73 rfl (by simp [Tryd.f73]) ?_; simp -implicitDefEqProofs only [push_cast, Tryd.f73, seval])
  refine callE_p hk ?_
  simp -implicitDefEqProofs only [push_cast, seval]
  refine callE_p hw ?_
  simp -implicitDefEqProofs only [push_cast, seval]
  refine condC_split (fun h => ?_) (fun h => ?_)
  · have h1 : b.length < wid s := by simp at h; omega
    rw [show getV o s b = 0 by rw [getV, if_neg (by omega)], show getE s b = 3 by rw [getE, if_pos h1]]
    simp -implicitDefEqProofs only [push_cast, seval]
    simp [wkL, res2, res1, PV.weak, PV.el]
  · have h1 : wid s ≤ b.length := by simp at h; omega
    simp -implicitDefEqProofs only [push_cast, seval]
    refine callE_p hw ?_
    simp -implicitDefEqProofs only [push_cast, seval]
    refine condC_split (fun h2 => ?_) (fun h2 => ?_)
    · have h3 : wid s < b.length := by simp at h2; omega
      rw [show getV o s b = 0 by rw [getV, if_neg (by omega)], show getE s b = 4 by rw [getE, if_neg (by omega), if_pos h3]]
      simp -implicitDefEqProofs only [push_cast, seval]
      simp [wkL, res2, res1, PV.weak, PV.el]
    · have h3 : b.length = wid s := by simp at h2; omega
      have hr := read_fs ho hs b h3
      simp only [spanOf] at hr
      rw [show getV o s b = readV o s b by rw [getV, if_pos h3], show getE s b = 0 by rw [getE, if_neg (by omega), if_neg (by omega)]]
      simp -implicitDefEqProofs only [push_cast, seval]
      refine callE_p hr ?_
      simp -implicitDefEqProofs only [push_cast, seval]
      simp [wkL, res2, res1, PV.weak, PV.el]

end Go.Proofs.Sh

/- Package format: what Get takes number by number. -/
set_option maxRecDepth 100000
set_option linter.unusedSimpArgs false
set_option linter.unusedVariables false
namespace Go.Proofs.Sh
open Go.Pv

theorem wide_fs {z : Int} (hs : isSize z) : Fsp Tryd.prog 80 [] 0 [.int .i64 z] [] 0 (.int .i64 (wid z : Nat)) := by
  rcases hs with rfl | rfl | rfl | rfl | rfl | rfl <;> exact run0_fs (by kernel_rfl)
/-- Where one stands, and what is wrong. -/
structure Cu where
  a : Nat
  e : Int
def num (o : Int) (s : List UInt8) (z : Int) (c : Cu) : Int × Cu :=
  if c.e = 0 then
    if s.length < c.a + wid z then (0, ⟨c.a, 3⟩) else (readV o z ((s.drop c.a).take (wid z)), ⟨c.a + wid z, 0⟩)
  else (0, c)
theorem num_le {o : Int} {s : List UInt8} {z : Int} {c : Cu} (h : c.a ≤ s.length) : (num o s z c).2.a ≤ s.length := by
  unfold num
  split
  · split
    · exact h
    · simp only; omega
  · exact h
set_option maxHeartbeats 1000000 in
theorem numGet_fs {o z : Int} (ho : isOrder o) (hz : isSize z) (s : List UInt8) (hl : s.length ≤ 1000000) (c : Cu) (hc : c.a ≤ s.length) :
    Fsp Tryd.prog 79 [[.int .i64 c.e], [.str s], [.int .i64 c.a], [.int .i64 o]] 0 [.int .i64 z, .box 0 0, .box 1 0, .box 2 0, .box 3 0] [[.int .i64 (num o s z c).2.e], [.str s], [.int .i64 (num o s z c).2.a], [.int .i64 o]] 0 (.int .i64 (num o s z c).1) := by
  obtain ⟨a, e⟩ := c
  simp only at hc
  have hw := wide_fs hz
  have hwp := wid_pos hz
  cases h0 : (e == 0)
  · have hne : ¬ e = 0 := by simpa using h0
    have hne2 : (e != 0) = true := by simp [hne]
    have hnum : num o s z ⟨a, e⟩ = (0, ⟨a, e⟩) := by rw [num, if_neg hne]
    rw [hnum]
    (refine Fsp.of (nx := 4) mixed Tryd.func79 rfl (by decide) (by first | exact Nat.le_refl _ | simp) (by simp [Tryd.f79]) ⟨by simp, by simp⟩ ?_; simp -implicitDefEqProofs only [push_cast, Tryd.f79, seval])
    refine callE_p hw ?_
    simp -implicitDefEqProofs only [push_cast, h0, hne2, seval]
    exact endK_box [] [0, 1, 2, 3] rfl rfl (by simp [PS.lv, lkp_hit, lkp_miss, lkp_nil]) rfl rfl (by rfl) (fun i j ps h1 h2 => by (rcases i with _ | _ | _ | _ | i <;> simp at h1 h2 <;> (subst h1; subst h2; exact ⟨_, rfl, (by (repeat' (first | exact wkL_nil | refine wkL_cons ?_ ?_)); all_goals (first | rfl | exact ⟨rfl, rfl⟩ | exact ⟨rfl, rfl, rfl⟩ | exact .inl rfl))⟩))) ⟨by simp [resOk, PS.get, lkp_hit, lkp_miss, PS.ev], by simp [resPV, PS.get, lkp_hit, lkp_miss, PS.ev], by simp [resOf, resPV, one', res3, res2, res1, PS.get, lkp_hit, lkp_miss, PS.ev, PV.weak, PV.el, wkL]⟩
  · obtain rfl : e = 0 := by simpa using h0
    have hsub : IntKind.i64.wrap ((s.length : Int) - (a : Int)) = ((s.length - a : Nat) : Int) := by rw [wrap_i64_id (by omega) (by omega)]; omega
    cases h1 : decide (s.length < a + wid z)
    · have h1' : ¬ s.length < a + wid z := by simpa using h1
      obtain ⟨b, hb⟩ : ∃ b, b = a + wid z := ⟨_, rfl⟩
      have hadd : IntKind.i64.wrap ((a : Int) + (wid z : Int)) = (b : Int) := by rw [wrap_i64_id (by omega) (by omega)]; omega
      have hba : b - a = wid z := by omega
      have hnum : num o s z ⟨a, 0⟩ = (readV o z ((s.drop a).take (wid z)), ⟨a + wid z, 0⟩) := by rw [num, if_pos rfl, if_neg h1']
      have hlen : ((s.drop a).take (wid z)).length = wid z := by simp; omega
      have hd : decide (((s.length - a : Nat) : Int) < ((wid z : Nat) : Int)) = false := by simp; omega
      have hg := get_fs ho hz ((s.drop a).take (wid z))
      rw [show getV o z ((s.drop a).take (wid z)) = readV o z ((s.drop a).take (wid z)) by rw [getV, if_pos hlen], show getE z ((s.drop a).take (wid z)) = 0 by rw [getE, if_neg (by omega), if_neg (by omega)]] at hg
      rw [hnum, ← hb]
      (refine Fsp.of (nx := 4) mixed Tryd.func79 rfl (by decide) (by first | exact Nat.le_refl _ | simp) (by simp [Tryd.f79]) ⟨by simp, by simp⟩ ?_; simp -implicitDefEqProofs only [push_cast, Tryd.f79, seval])
      refine callE_p hw ?_
      simp -implicitDefEqProofs only [push_cast, hsub, hd, hadd, hba, seval]
      (repeat (first | refine ⟨by omega, ?_⟩ | refine ⟨by (unfold drawOk; kernel_rfl), ?_⟩))
      refine callE_p hg ?_
      simp -implicitDefEqProofs only [push_cast, hsub, hd, hadd, hba, seval]
      (repeat (first | refine ⟨by omega, ?_⟩ | refine ⟨by (unfold drawOk; kernel_rfl), ?_⟩))
      exact endK_box [] [0, 1, 2, 3] rfl rfl (by simp [PS.lv, lkp_hit, lkp_miss, lkp_nil]) rfl rfl (by rfl) (fun i j ps h1 h2 => by (rcases i with _ | _ | _ | _ | i <;> simp at h1 h2 <;> (subst h1; subst h2; exact ⟨_, rfl, (by (repeat' (first | exact wkL_nil | refine wkL_cons ?_ ?_)); all_goals (first | rfl | exact ⟨rfl, rfl⟩ | exact ⟨rfl, rfl, rfl⟩ | exact .inl rfl))⟩))) ⟨by simp [resOk, PS.get, lkp_hit, lkp_miss, PS.ev], by simp [resPV, PS.get, lkp_hit, lkp_miss, PS.ev], by simp [resOf, resPV, one', res3, res2, res1, PS.get, lkp_hit, lkp_miss, PS.ev, PV.weak, PV.el, wkL]⟩
    · have h1' : s.length < a + wid z := by simpa using h1
      have hd : decide (((s.length - a : Nat) : Int) < ((wid z : Nat) : Int)) = true := by simp; omega
      have hnum : num o s z ⟨a, 0⟩ = (0, ⟨a, 3⟩) := by rw [num, if_pos rfl, if_pos h1']
      rw [hnum]
      (refine Fsp.of (nx := 4) mixed Tryd.func79 rfl (by decide) (by first | exact Nat.le_refl _ | simp) (by simp [Tryd.f79]) ⟨by simp, by simp⟩ ?_; simp -implicitDefEqProofs only [push_cast, Tryd.f79, seval])
      refine callE_p hw ?_
      simp -implicitDefEqProofs only [push_cast, hsub, hd, seval]
      exact endK_box [] [0, 1, 2, 3] rfl rfl (by simp [PS.lv, lkp_hit, lkp_miss, lkp_nil]) rfl rfl (by rfl) (fun i j ps h1 h2 => by (rcases i with _ | _ | _ | _ | i <;> simp at h1 h2 <;> (subst h1; subst h2; exact ⟨_, rfl, (by (repeat' (first | exact wkL_nil | refine wkL_cons ?_ ?_)); all_goals (first | rfl | exact ⟨rfl, rfl⟩ | exact ⟨rfl, rfl, rfl⟩ | exact .inl rfl))⟩))) ⟨by simp [resOk, PS.get, lkp_hit, lkp_miss, PS.ev], by simp [resPV, PS.get, lkp_hit, lkp_miss, PS.ev], by simp [resOf, resPV, one', res3, res2, res1, PS.get, lkp_hit, lkp_miss, PS.ev, PV.weak, PV.el, wkL]⟩

/-- What fills up to a number that four divides. -/
def filP (s : List UInt8) : Nat → Nat → Cu
  | 0, a => ⟨a, 0⟩
  | k + 1, a => if a = s.length then ⟨a, 3⟩ else if s.getD a 0 = 0 then filP s k (a + 1) else ⟨a, 2⟩
def fil (s : List UInt8) (c : Cu) : Cu := if c.e = 0 then filP s (padN c.a) c.a else c
theorem padN_0 {a : Nat} : padN a = 0 ↔ a % 4 = 0 := by unfold padN; omega
theorem padN_s {a : Nat} (h : a % 4 ≠ 0) : padN a = padN (a + 1) + 1 := by unfold padN; omega
theorem fil_bad {s : List UInt8} {c : Cu} (h : c.e ≠ 0) : fil s c = c := by rw [fil, if_neg h]
theorem fil_end {s : List UInt8} {a : Nat} (h : a % 4 = 0) : fil s ⟨a, 0⟩ = ⟨a, 0⟩ := by rw [fil, if_pos rfl, padN_0.2 h]; rfl
theorem fil_short {s : List UInt8} {a : Nat} (h : a % 4 ≠ 0) (ha : a = s.length) : fil s ⟨a, 0⟩ = ⟨a, 3⟩ := by rw [fil, if_pos rfl, padN_s h, filP, if_pos ha]
theorem fil_form {s : List UInt8} {a : Nat} (h : a % 4 ≠ 0) (ha : a ≠ s.length) (hs : s.getD a 0 ≠ 0) : fil s ⟨a, 0⟩ = ⟨a, 2⟩ := by rw [fil, if_pos rfl, padN_s h, filP, if_neg ha, if_neg hs]
theorem fil_step {s : List UInt8} {a : Nat} (h : a % 4 ≠ 0) (ha : a ≠ s.length) (hs : s.getD a 0 = 0) : fil s ⟨a, 0⟩ = fil s ⟨a + 1, 0⟩ := by rw [fil, if_pos rfl, padN_s h, filP, if_neg ha, if_pos hs, fil, if_pos rfl]
structure FlS (s : List UInt8) (r : Cu) where
  c : Cu
  h : c.a ≤ s.length
  e : fil s c = r
def FlS.st {s : List UInt8} {r : Cu} (x : FlS s r) : PS := { n := 22, env := [(0, .box 0 0), (1, .box 1 0), (2, .box 2 0)], objs := [(0, some [.int .i64 x.c.e]), (1, some [.int .i64 x.c.a]), (2, some [.str s])], live := [], nxt := 4 }
set_option maxHeartbeats 2000000 in
theorem fillGet_fs (s : List UInt8) (hl : s.length ≤ 1000000) (c : Cu) (hc : c.a ≤ s.length) :
    Fsp Tryd.prog 81 [[.int .i64 c.e], [.int .i64 c.a], [.str s]] 0 [.box 0 0, .box 1 0, .box 2 0] [[.int .i64 (fil s c).e], [.int .i64 (fil s c).a], [.str s]] 0 (.tup []) := by
  (refine Fsp.of (nx := 3) mixed Tryd.func81 rfl (by decide) (by first | exact Nat.le_refl _ | simp) (by simp [Tryd.f81]) ⟨by simp, by simp⟩ ?_; simp -implicitDefEqProofs only [push_cast, Tryd.f81, seval])
  refine loopC_of (α := FlS s (fil s c)) FlS.st (fun x => if x.c.e = 0 then s.length - x.c.a + 1 else 0) ⟨c, hc, rfl⟩ ?_ ?_
  · (simp only [FlS.st]; exact Wk.by _ _ _ [(0, 0), (1, 1), (2, 2)] [] [] (by simp) (by simp [wkV, PV.el, PV.weak, PS.get, PS.obj, PS.lv, lkp_hit, lkp_miss, lkp_nil, lko]) (by simp [PS.get, PS.obj, PS.lv, lkp_hit, lkp_miss, lkp_nil, lko, wkL, wkC, PV.weak]) (by simp [PS.get, PS.obj, PS.lv, lkp_hit, lkp_miss, lkp_nil, lko]) (by rfl) (by rfl) (by simp [lko]) (by simp) (by simp) (by simp) (fun i hi => by rcases i with _ | _ | _ | i <;> first | rfl | (exfalso; omega)))
  · rintro ⟨⟨a, e⟩, ha, he⟩
    simp only at ha
    cases h0 : (e == 0)
    · have hne : ¬ e = 0 := by simpa using h0
      have hr : fil s c = ⟨a, e⟩ := by rw [← he, fil_bad hne]
      simp -implicitDefEqProofs only [push_cast, FlS.st, h0, seval]
      rw [hr]
      exact endK_box [] [0, 1, 2] rfl rfl (by simp [PS.lv, lkp_hit, lkp_miss, lkp_nil]) rfl rfl (by rfl) (fun i j ps h1 h2 => by (rcases i with _ | _ | _ | i <;> simp at h1 h2 <;> (subst h1; subst h2; exact ⟨_, rfl, (by (repeat' (first | exact wkL_nil | refine wkL_cons ?_ ?_)); all_goals (first | rfl | exact ⟨rfl, rfl⟩ | exact ⟨rfl, rfl, rfl⟩ | exact .inl rfl))⟩))) ⟨by simp [resOk, PS.get, lkp_hit, lkp_miss, PS.ev], by simp [resPV, PS.get, lkp_hit, lkp_miss, PS.ev], by simp [resOf, resPV, one', res3, res2, res1, PS.get, lkp_hit, lkp_miss, PS.ev, PV.weak, PV.el, wkL]⟩
    · obtain rfl : e = 0 := by simpa using h0
      obtain ⟨m, hm⟩ : ∃ m, m = a % 4 := ⟨_, rfl⟩
      have htm : Int.tmod (a : Int) 4 = (m : Int) := by rw [Int.tmod_eq_emod_of_nonneg (by omega)]; omega
      have hwm : IntKind.i64.wrap (m : Int) = (m : Int) := by rw [wrap_i64_id (by omega) (by omega)]
      cases h1 : ((m : Int) != 0)
      · have h1' : a % 4 = 0 := by simp at h1; omega
        have hr : fil s c = ⟨a, 0⟩ := by rw [← he, fil_end h1']
        simp -implicitDefEqProofs only [push_cast, FlS.st, htm, hwm, h1, seval]
        rw [hr]
        exact endK_box [] [0, 1, 2] rfl rfl (by simp [PS.lv, lkp_hit, lkp_miss, lkp_nil]) rfl rfl (by rfl) (fun i j ps h1 h2 => by (rcases i with _ | _ | _ | i <;> simp at h1 h2 <;> (subst h1; subst h2; exact ⟨_, rfl, (by (repeat' (first | exact wkL_nil | refine wkL_cons ?_ ?_)); all_goals (first | rfl | exact ⟨rfl, rfl⟩ | exact ⟨rfl, rfl, rfl⟩ | exact .inl rfl))⟩))) ⟨by simp [resOk, PS.get, lkp_hit, lkp_miss, PS.ev], by simp [resPV, PS.get, lkp_hit, lkp_miss, PS.ev], by simp [resOf, resPV, one', res3, res2, res1, PS.get, lkp_hit, lkp_miss, PS.ev, PV.weak, PV.el, wkL]⟩
      · have h1' : a % 4 ≠ 0 := by simp at h1; omega
        cases h2 : ((a : Int) == (s.length : Int))
        · have h2' : a ≠ s.length := by simp at h2; omega
          have hlt : a < s.length := by omega
          cases h3 : (((s.getD a 0).toNat : Int) != 0)
          · have h3' : s.getD a 0 = 0 := by
              simp at h3
              exact UInt8.toNat_inj.1 (by rw [List.getD_eq_getElem?_getD]; simpa using h3)
            have hadd : IntKind.i64.wrap ((a : Int) + 1) = ((a + 1 : Nat) : Int) := by rw [wrap_i64_id (by omega) (by omega)]; omega
            simp -implicitDefEqProofs only [push_cast, FlS.st, htm, hwm, h1, h2, h3, seval]
            (repeat (first | refine ⟨by omega, ?_⟩ | refine ⟨by (unfold drawOk; kernel_rfl), ?_⟩))
            rw [hadd]
            refine ⟨⟨⟨a + 1, 0⟩, by simp only; omega, by rw [← he, fil_step h1' h2' h3']⟩, by simp; omega, ?_⟩
            (simp only [FlS.st]; exact Wk.by _ _ _ [(0, 0), (1, 1), (2, 2)] [] [] (by simp) (by simp [wkV, PV.el, PV.weak, PS.get, PS.obj, PS.lv, lkp_hit, lkp_miss, lkp_nil, lko]) (by simp [PS.get, PS.obj, PS.lv, lkp_hit, lkp_miss, lkp_nil, lko, wkL, wkC, PV.weak]) (by simp [PS.get, PS.obj, PS.lv, lkp_hit, lkp_miss, lkp_nil, lko]) (by rfl) (by rfl) (by simp [lko]) (by simp) (by simp) (by simp) (fun i hi => by rcases i with _ | _ | _ | i <;> first | rfl | (exfalso; omega)))
          · have h3' : s.getD a 0 ≠ 0 := by
              intro h
              rw [h] at h3; exact absurd h3 (by decide)
            simp -implicitDefEqProofs only [push_cast, FlS.st, htm, hwm, h1, h2, h3, seval]
            (repeat (first | refine ⟨by omega, ?_⟩ | refine ⟨by (unfold drawOk; kernel_rfl), ?_⟩))
            refine ⟨⟨⟨a, 2⟩, ha, by rw [← he, fil_form h1' h2' h3', fil_bad (by simp)]⟩, by simp, ?_⟩
            (simp only [FlS.st]; exact Wk.by _ _ _ [(0, 0), (1, 1), (2, 2)] [] [] (by simp) (by simp [wkV, PV.el, PV.weak, PS.get, PS.obj, PS.lv, lkp_hit, lkp_miss, lkp_nil, lko]) (by simp [PS.get, PS.obj, PS.lv, lkp_hit, lkp_miss, lkp_nil, lko, wkL, wkC, PV.weak]) (by simp [PS.get, PS.obj, PS.lv, lkp_hit, lkp_miss, lkp_nil, lko]) (by rfl) (by rfl) (by simp [lko]) (by simp) (by simp) (by simp) (fun i hi => by rcases i with _ | _ | _ | i <;> first | rfl | (exfalso; omega)))
        · have h2' : a = s.length := by simp at h2; omega
          simp -implicitDefEqProofs only [push_cast, FlS.st, htm, hwm, h1, h2, seval]
          refine ⟨⟨⟨a, 3⟩, ha, by rw [← he, fil_short h1' h2', fil_bad (by simp)]⟩, by simp, ?_⟩
          (simp only [FlS.st]; exact Wk.by _ _ _ [(0, 0), (1, 1), (2, 2)] [] [] (by simp) (by simp [wkV, PV.el, PV.weak, PS.get, PS.obj, PS.lv, lkp_hit, lkp_miss, lkp_nil, lko]) (by simp [PS.get, PS.obj, PS.lv, lkp_hit, lkp_miss, lkp_nil, lko, wkL, wkC, PV.weak]) (by simp [PS.get, PS.obj, PS.lv, lkp_hit, lkp_miss, lkp_nil, lko]) (by rfl) (by rfl) (by simp [lko]) (by simp) (by simp) (by simp) (fun i hi => by rcases i with _ | _ | _ | i <;> first | rfl | (exfalso; omega)))

end Go.Proofs.Sh

/- Package format: body. -/
set_option maxRecDepth 100000
set_option linter.unusedSimpArgs false
set_option linter.unusedVariables false
namespace Go.Proofs.Sh
open Go.Pv

def nums (o : Int) (s : List UInt8) : List Int → Cu → List Int × Cu
  | [], c => ([], c)
  | z :: F, c => ((num o s z c).1 :: (nums o s F (num o s z c).2).1, (nums o s F (num o s z c).2).2)
theorem nums_snoc (o : Int) (s : List UInt8) (z : Int) : ∀ (F : List Int) (c : Cu), nums o s (F ++ [z]) c = ((nums o s F c).1 ++ [(num o s z (nums o s F c).2).1], (num o s z (nums o s F c).2).2)
  | [], c => rfl
  | y :: F, c => by
    show ((num o s y c).1 :: (nums o s (F ++ [z]) (num o s y c).2).1, (nums o s (F ++ [z]) (num o s y c).2).2) = _
    rw [nums_snoc o s z F]; rfl
theorem nums_le {o : Int} {s : List UInt8} : ∀ (F : List Int) {c : Cu}, c.a ≤ s.length → (nums o s F c).2.a ≤ s.length
  | [], c, h => h
  | z :: F, c, h => nums_le F (num_le h)
theorem nums_length {o : Int} {s : List UInt8} : ∀ (F : List Int) (c : Cu), (nums o s F c).1.length = F.length
  | [], c => rfl
  | z :: F, c => congrArg (· + 1) (nums_length F _)
theorem take_snoc {F : List Int} {k : Nat} (h : k < F.length) : F.take (k + 1) = F.take k ++ [F.getD k 0] := by
  rw [List.take_add_one, List.getElem?_eq_getElem h, List.getD_eq_getElem?_getD, List.getElem?_eq_getElem h]; rfl
theorem ints_snoc (l : List Int) (n : Int) : ints (l ++ [n]) = ints l ++ [.int .i64 n] := by simp [ints]
def stB (o : Int) (s : List UInt8) (b : Bool) (c : Cu) : Bool × List UInt8 × Cu :=
  if b = true then
    if (num o s 4 c).2.e = 0 then
      if ((s.length - (num o s 4 c).2.a : Nat) : Int) < (num o s 4 c).1 then (false, [], ⟨(num o s 4 c).2.a, 3⟩)
      else (true, (s.drop (num o s 4 c).2.a).take (num o s 4 c).1.toNat, fil s ⟨(num o s 4 c).2.a + (num o s 4 c).1.toNat, 0⟩)
    else (false, [], (num o s 4 c).2)
  else (true, [], c)
def stL (o : Int) (s : List UInt8) (z : Int) (c : Cu) : List Int × Cu :=
  if z = 0 then ([], c)
  else if (num o s 4 c).2.e = 0 then
    if ((s.length - (num o s 4 c).2.a : Nat) : Int) < (num o s 4 c).1 * wid z then ([], ⟨(num o s 4 c).2.a, 3⟩)
    else ((nums o s (List.replicate (num o s 4 c).1.toNat z) (num o s 4 c).2).1, fil s (nums o s (List.replicate (num o s 4 c).1.toNat z) (num o s 4 c).2).2)
  else ([], (num o s 4 c).2)
def body (o : Int) (s : List UInt8) (f : Fm) (c : Cu) : Fd × Cu :=
  if (stB o s f.B (fil s (nums o s f.F c).2)).1 = true then
    (⟨(nums o s f.F c).1, (stB o s f.B (fil s (nums o s f.F c).2)).2.1, (stL o s f.L (stB o s f.B (fil s (nums o s f.F c).2)).2.2).1⟩, (stL o s f.L (stB o s f.B (fil s (nums o s f.F c).2)).2.2).2)
  else (⟨(nums o s f.F c).1, [], []⟩, (stB o s f.B (fil s (nums o s f.F c).2)).2.2)
theorem filP_le {s : List UInt8} : ∀ (k a : Nat), a ≤ s.length → (filP s k a).a ≤ s.length
  | 0, a, h => h
  | k + 1, a, h => by
    unfold filP
    split
    · exact h
    · split
      · exact filP_le k (a + 1) (by omega)
      · exact h
theorem fil_le {s : List UInt8} {c : Cu} (h : c.a ≤ s.length) : (fil s c).a ≤ s.length := by
  unfold fil
  split
  · exact filP_le _ _ h
  · exact h
theorem decU_le (o : Int) {b : List UInt8} (h : b.length = 4) : decU o b < 4294967296 := by
  have := decU_lt o b
  rw [h] at this
  exact this
theorem num4 {o : Int} {s : List UInt8} (ho : isOrder o) (c : Cu) : 0 ≤ (num o s 4 c).1 ∧ (num o s 4 c).1 < 4294967296 := by
  unfold num
  split
  · split
    · exact ⟨by simp, by simp⟩
    · rename_i h1
      have hlen : ((s.drop c.a).take (wid 4)).length = 4 := by
        have : wid 4 = 4 := rfl
        rw [this] at h1 ⊢
        simp; omega
      have := decU_le o hlen
      rw [readV, if_neg (by simp [high]; omega)]
      omega
  · exact ⟨by simp, by simp⟩
structure G1S (f : Fm) where
  k : Nat
  h : k ≤ f.F.length
def G1S.st (o : Int) (s : List UInt8) (f : Fm) (c : Cu) (x : G1S f) : PS := { n := 129, env := [(21, .int .i64 x.k), (20, .int .i64 f.F.length), (19, .sl 1 (ints f.F)), (1, .str s), (2, .box 2 0), (3, .box 0 0), (4, .fn 79 [.box 0 0, .box 1 0, .box 2 0, .box 3 0]), (5, .fn 81 [.box 0 0, .box 2 0, .box 1 0]), (6, .box 4 0), (12, .box 5 0), (13, .box 6 0)], objs := [(0, some [.int .i64 ((nums o s (f.F.take x.k) c).2).e]), (1, some [.str s]), (2, some [.int .i64 ((nums o s (f.F.take x.k) c).2).a]), (3, some [.int .i64 o]), (4, some [.sl 1 (ints f.F), .bool f.B, .int .i64 f.L]), (5, some [.nilsl, .str [], .nilsl]), (6, some [.slt 1 (ints (nums o s (f.F.take x.k) c).1) 50, .str [], .nilsl])], live := [(50, true)], nxt := 60 }
structure G2S (n : Nat) where
  k : Nat
  h : k ≤ n
def G2S.st (o : Int) (s : List UInt8) (f : Fm) (ns : List Int) (bb : List UInt8) (a n : Nat) (x : G2S n) : PS := { n := 129, env := [(114, .int .i64 x.k), (113, .int .i64 n), (1, .str s), (2, .box 2 0), (3, .box 0 0), (4, .fn 79 [.box 0 0, .box 1 0, .box 2 0, .box 3 0]), (5, .fn 81 [.box 0 0, .box 2 0, .box 1 0]), (6, .box 4 0), (12, .box 5 0), (13, .box 6 0)], objs := [(0, some [.int .i64 ((nums o s (List.replicate x.k f.L) ⟨a, 0⟩).2).e]), (1, some [.str s]), (2, some [.int .i64 ((nums o s (List.replicate x.k f.L) ⟨a, 0⟩).2).a]), (3, some [.int .i64 o]), (4, some [.sl 1 (ints f.F), .bool f.B, .int .i64 f.L]), (5, some [.nilsl, .str [], .nilsl]), (6, some [.slt 1 (ints ns) 50, .str bb, .slt 1 (ints (nums o s (List.replicate x.k f.L) ⟨a, 0⟩).1) 51])], live := [(50, true), (51, true)], nxt := 60 }
set_option maxHeartbeats 8000000 in
theorem body_fs {o : Int} (ho : isOrder o) (s : List UInt8) (hl : s.length ≤ 1000000) (f : Fm) (h : f.Ok) (c : Cu) (hc : c.a ≤ s.length) :
    Fsp Tryd.prog 82 [[.int .i64 c.e], [.str s], [.int .i64 c.a], [.int .i64 o]] 0 [f.pv, .str s, .box 2 0, .box 0 0, .fn 79 [.box 0 0, .box 1 0, .box 2 0, .box 3 0], .fn 81 [.box 0 0, .box 2 0, .box 1 0]]
      [[.int .i64 (body o s f c).2.e], [.str s], [.int .i64 (body o s f c).2.a], [.int .i64 o]] 0 (body o s f c).1.pv := by
  (refine Fsp.of (nx := 4) mixed Tryd.func82 rfl (by decide) (by first | exact Nat.le_refl _ | simp) (by simp [Tryd.f82]) ⟨by simp, by simp⟩ ?_; simp -implicitDefEqProofs only [push_cast, Tryd.f82, Fm.pv, ints_length, seval])
  refine loopC_of (α := G1S f) (G1S.st o s f c) (fun x => f.F.length - x.k) ⟨0, by omega⟩ ?_ ?_
  · (simp only [G1S.st, List.take_zero, nums]; exact Wk.by _ _ _ [(0, 0), (1, 1), (2, 2), (3, 3), (4, 4), (5, 8), (6, 12)] [] [50] (by simp) (by simp [wkV, PV.el, PV.weak, PS.get, PS.obj, PS.lv, lkp_hit, lkp_miss, lkp_nil, lko, wkL, wkC, res1, ints]) (by simp [PS.get, PS.obj, PS.lv, lkp_hit, lkp_miss, lkp_nil, lko, wkL, wkC, PV.weak, wkL, wkC, res1, ints]) (by simp [PS.get, PS.obj, PS.lv, lkp_hit, lkp_miss, lkp_nil, lko]) (by rfl) (by rfl) (by simp [lko]) (by simp) (by simp) (by simp) (fun i hi => by rcases i with _ | _ | _ | _ | i <;> first | rfl | (exfalso; omega)))
  · rintro ⟨k, hk⟩
    have hle := nums_le (o := o) (s := s) (f.F.take k) hc
    have hnl := nums_length (o := o) (s := s) (f.F.take k) c
    simp -implicitDefEqProofs only [push_cast, G1S.st, ints_length, seval]
    refine condC_split (fun h1 => ?_) (fun h1 => ?_)
    · have hlt : k < f.F.length := by simp at h1; omega
      have hg := ints_at hlt
      have hz : isSize (f.F.getD k 0) := by
        rw [List.getD_eq_getElem?_getD, List.getElem?_eq_getElem hlt, Option.getD_some]
        exact h.s _ (List.getElem_mem _)
      have hn := numGet_fs ho hz s hl (nums o s (f.F.take k) c).2 hle
      have hsn := nums_snoc o s (f.F.getD k 0) (f.F.take k) c
      rw [← take_snoc hlt] at hsn
      have hkl : (f.F.take k).length = k := by simp; omega
      have hfn := h.n
      generalize nums o s (f.F.take k) c = p at *
      generalize hq : num o s (f.F.getD k 0) p.2 = q at *
      have hwr : IntKind.i64.wrap ((k : Int) + 1) = ((k + 1 : Nat) : Int) := by (rw [wrap_i64_id (by omega) (by omega)]; rfl)
      simp -implicitDefEqProofs only [push_cast, hg, ints_length, seval]
      (repeat (first | refine ⟨by omega, ?_⟩ | refine ⟨by (unfold drawOk; kernel_rfl), ?_⟩))
      refine callE_box hn [0, 1, 2, 3] [] (by rfl) (by rfl) (by rfl) (by rfl) (by rfl) (by rfl) (fun i j cs h1 h2 => by (rcases i with _ | _ | _ | _ | i <;> simp at h1 h2 <;> (subst h1; subst h2; exact ⟨_, rfl, (by (repeat' (first | exact wkL_nil | refine wkL_cons ?_ ?_)); all_goals (first | exact .inl ⟨_, _, _, _, rfl, rfl, rfl⟩ | exact .inr (.inr (.inr (.inr (.inl ⟨_, _, _, rfl, rfl, rfl⟩)))) | exact .inr (.inr (.inr (.inr (.inr (.inl ⟨_, _, _, _, rfl, rfl, rfl⟩))))) | exact .inr (.inr (.inr (.inr (.inr (.inr ⟨_, _, rfl, rfl, rfl⟩))))) | exact .inr (.inl rfl) | exact .inr (.inr (.inl ⟨_, _, _, rfl, rfl, rfl⟩))))⟩))) (by simp [PS.lv, lkp_hit, lkp_miss, lkp_nil]) (by (repeat' (first | exact wkL_nil | refine wkL_cons ?_ ?_)); all_goals (first | exact .inl ⟨_, _, _, rfl, rfl, rfl⟩ | exact .inr (.inl rfl) | exact .inr (.inr (.inl ⟨_, _, _, _, rfl, rfl, rfl⟩)) | exact .inr (.inr (.inr (.inl ⟨_, _, _, rfl, rfl, rfl, (wkL_get (by (repeat' (first | exact wkL_nil | refine wkL_cons ?_ ?_)); all_goals (first | exact .inl ⟨_, _, _, rfl, rfl, rfl⟩ | exact .inr rfl))).2⟩))) | exact .inr (.inr (.inr (.inr (.inl ⟨_, _, rfl, rfl, rfl⟩)))) | exact .inr (.inr (.inr (.inr (.inr ⟨_, _, rfl, rfl, wkL_get (by (repeat' (first | exact wkL_nil | refine wkL_cons ?_ ?_)); all_goals (first | exact .inr rfl | exact .inl ⟨_, _, rfl, rfl, rfl⟩))⟩)))))) (by decide) (by simp) (by rfl) (by simp [tokLt1]) (fun _ => by rfl) (by first | rfl | simp [gdOk, newToks]) ?_
      simp -implicitDefEqProofs only [push_cast, hg, ints_length, seval]
      (repeat (first | refine ⟨by omega, ?_⟩ | refine ⟨by simp [maxLen, ints_length]; omega, ?_⟩ | refine ⟨by (unfold drawOk; kernel_rfl), ?_⟩))
      rw [hwr]
      refine ⟨⟨k + 1, by omega⟩, by simp only; omega, ?_⟩
      (simp only [G1S.st, hsn, ints_snoc]; exact Wk.by _ _ _ [(0, 0), (1, 1), (2, 2), (3, 3), (4, 4), (5, 5), (6, 6)] [(50, 100)] [] (by simp) (by simp [wkV, PV.el, PV.weak, PS.get, PS.obj, PS.lv, lkp_hit, lkp_miss, lkp_nil, lko, wkL, wkC, res1, ints]) (by simp [PS.get, PS.obj, PS.lv, lkp_hit, lkp_miss, lkp_nil, lko, wkL, wkC, PV.weak, wkL, wkC, res1, ints]) (by simp [PS.get, PS.obj, PS.lv, lkp_hit, lkp_miss, lkp_nil, lko]) (by rfl) (by rfl) (by simp [lko]) (by simp) (by simp) (by simp) (fun i hi => by rcases i with _ | _ | _ | _ | i <;> first | rfl | (exfalso; omega)))
    · have hke : k = f.F.length := by simp at h1; omega
      subst hke
      rw [List.take_length] at hle hnl
      have hfl := fillGet_fs s hl (nums o s f.F c).2 hle
      have hbd : body o s f c = if (stB o s f.B (fil s (nums o s f.F c).2)).1 = true then
          (⟨(nums o s f.F c).1, (stB o s f.B (fil s (nums o s f.F c).2)).2.1, (stL o s f.L (stB o s f.B (fil s (nums o s f.F c).2)).2.2).1⟩, (stL o s f.L (stB o s f.B (fil s (nums o s f.F c).2)).2.2).2)
        else (⟨(nums o s f.F c).1, [], []⟩, (stB o s f.B (fil s (nums o s f.F c).2)).2.2) := rfl
      have hc1 := fil_le hle
      have hfn := h.n
      simp -implicitDefEqProofs only [push_cast, List.take_length, ints_length, seval]
      generalize nums o s f.F c = p at *
      refine callE_box hfl [0, 2, 1] [] (by rfl) (by rfl) (by rfl) (by rfl) (by rfl) (by rfl) (fun i j cs h1 h2 => by (rcases i with _ | _ | _ | i <;> simp at h1 h2 <;> (subst h1; subst h2; exact ⟨_, rfl, (by (repeat' (first | exact wkL_nil | refine wkL_cons ?_ ?_)); all_goals (first | exact .inl ⟨_, _, _, _, rfl, rfl, rfl⟩ | exact .inr (.inr (.inr (.inr (.inl ⟨_, _, _, rfl, rfl, rfl⟩)))) | exact .inr (.inr (.inr (.inr (.inr (.inl ⟨_, _, _, _, rfl, rfl, rfl⟩))))) | exact .inr (.inr (.inr (.inr (.inr (.inr ⟨_, _, rfl, rfl, rfl⟩))))) | exact .inr (.inl rfl) | exact .inr (.inr (.inl ⟨_, _, _, rfl, rfl, rfl⟩))))⟩))) (by simp [PS.lv, lkp_hit, lkp_miss, lkp_nil]) (by (repeat' (first | exact wkL_nil | refine wkL_cons ?_ ?_)); all_goals (first | exact .inl ⟨_, _, _, rfl, rfl, rfl⟩ | exact .inr (.inl rfl) | exact .inr (.inr (.inl ⟨_, _, _, _, rfl, rfl, rfl⟩)) | exact .inr (.inr (.inr (.inl ⟨_, _, _, rfl, rfl, rfl, (wkL_get (by (repeat' (first | exact wkL_nil | refine wkL_cons ?_ ?_)); all_goals (first | exact .inl ⟨_, _, _, rfl, rfl, rfl⟩ | exact .inr rfl))).2⟩))) | exact .inr (.inr (.inr (.inr (.inl ⟨_, _, rfl, rfl, rfl⟩)))) | exact .inr (.inr (.inr (.inr (.inr ⟨_, _, rfl, rfl, wkL_get (by (repeat' (first | exact wkL_nil | refine wkL_cons ?_ ?_)); all_goals (first | exact .inr rfl | exact .inl ⟨_, _, rfl, rfl, rfl⟩))⟩)))))) (by decide) (by simp) (by rfl) (by simp [tokLt1]) (fun _ => by rfl) (by first | rfl | simp [gdOk, newToks]) ?_
      generalize fil s p.2 = c1 at *
      cases hB : f.B
      · rw [show stB o s f.B c1 = (true, [], c1) by rw [stB, hB]; rfl] at hbd
        rw [if_pos rfl] at hbd
        rw [hbd]
        simp -implicitDefEqProofs only [push_cast, hB, ints_length, seval]
        cases hL : (f.L != 0)
        · have hL0 : f.L = 0 := by simpa using hL
          rw [stL, if_pos hL0]
          simp -implicitDefEqProofs only [push_cast, hL, ints_length, seval]
          exact endK_cell (id := 5) (ps := [_, _, _]) (qs := [_, _, _]) [0, 1, 2, 3] (by simp [PS.get, PS.obj, PS.lv, PS.ev, PV.un, PV.el, PV.weak, lkp_hit, lkp_miss, lkp_nil]) (by simp [PS.obj, lkp_hit, lkp_miss, lkp_nil]; exact ⟨rfl, rfl, rfl⟩) (by simp [ldOk, tk_94, tsz_94]) (by simp only [ldPV, tk_94, tsz_94, TK.isAgg]; rfl) (by simp [wkL, res1, PV.weak, ints]) rfl rfl (by rfl) (fun i j ps h1 h2 => by (rcases i with _ | _ | _ | _ | i <;> simp at h1 h2 <;> (subst h1; subst h2; exact ⟨_, rfl, (by (repeat' (first | exact wkL_nil | refine wkL_cons ?_ ?_)); all_goals (first | rfl | exact ⟨rfl, rfl⟩ | exact ⟨rfl, rfl, rfl⟩ | exact .inl rfl))⟩)))
        · have hL0 : ¬ f.L = 0 := by simpa using hL
          have hz : isSize f.L := by
            rcases h.l with e | e
            · exact absurd e hL0
            · exact e
          have hn5 := numGet_fs ho (z := 4) (by unfold isSize; omega) s hl c1 hc1
          have hr1 := num4 (o := o) (s := s) ho c1
          have hr2 := num_le (o := o) (z := 4) hc1
          rw [stL, if_neg hL0]
          simp -implicitDefEqProofs only [push_cast, hL, ints_length, seval]
          generalize num o s 4 c1 = r at *
          refine callE_box hn5 [0, 1, 2, 3] [] (by rfl) (by rfl) (by rfl) (by rfl) (by rfl) (by rfl) (fun i j cs h1 h2 => by (rcases i with _ | _ | _ | _ | i <;> simp at h1 h2 <;> (subst h1; subst h2; exact ⟨_, rfl, (by (repeat' (first | exact wkL_nil | refine wkL_cons ?_ ?_)); all_goals (first | exact .inl ⟨_, _, _, _, rfl, rfl, rfl⟩ | exact .inr (.inr (.inr (.inr (.inl ⟨_, _, _, rfl, rfl, rfl⟩)))) | exact .inr (.inr (.inr (.inr (.inr (.inl ⟨_, _, _, _, rfl, rfl, rfl⟩))))) | exact .inr (.inr (.inr (.inr (.inr (.inr ⟨_, _, rfl, rfl, rfl⟩))))) | exact .inr (.inl rfl) | exact .inr (.inr (.inl ⟨_, _, _, rfl, rfl, rfl⟩))))⟩))) (by simp [PS.lv, lkp_hit, lkp_miss, lkp_nil]) (by (repeat' (first | exact wkL_nil | refine wkL_cons ?_ ?_)); all_goals (first | exact .inl ⟨_, _, _, rfl, rfl, rfl⟩ | exact .inr (.inl rfl) | exact .inr (.inr (.inl ⟨_, _, _, _, rfl, rfl, rfl⟩)) | exact .inr (.inr (.inr (.inl ⟨_, _, _, rfl, rfl, rfl, (wkL_get (by (repeat' (first | exact wkL_nil | refine wkL_cons ?_ ?_)); all_goals (first | exact .inl ⟨_, _, _, rfl, rfl, rfl⟩ | exact .inr rfl))).2⟩))) | exact .inr (.inr (.inr (.inr (.inl ⟨_, _, rfl, rfl, rfl⟩)))) | exact .inr (.inr (.inr (.inr (.inr ⟨_, _, rfl, rfl, wkL_get (by (repeat' (first | exact wkL_nil | refine wkL_cons ?_ ?_)); all_goals (first | exact .inr rfl | exact .inl ⟨_, _, rfl, rfl, rfl⟩))⟩)))))) (by decide) (by simp) (by rfl) (by simp [tokLt1]) (fun _ => by rfl) (by first | rfl | simp [gdOk, newToks]) ?_
          obtain ⟨r1, a4, e4⟩ := r
          simp only at hr1 hr2
          obtain ⟨n2, rfl⟩ := Int.eq_ofNat_of_zero_le hr1.1
          obtain ⟨m2, hm2⟩ : ∃ m2, m2 = s.length - a4 := ⟨_, rfl⟩
          simp only [← hm2]
          cases h5 : (e4 == 0)
          · have hne : ¬ e4 = 0 := by simpa using h5
            have hne5 : (e4 != 0) = true := by simp [hne]
            rw [if_neg hne]
            simp -implicitDefEqProofs only [push_cast, h5, hne5, hL, seval]
            (repeat (refine callE_no ?_; simp -implicitDefEqProofs only [push_cast, h5, hne5, hL, seval]))
            (repeat (first | refine ⟨by omega, ?_⟩ | refine ⟨by (unfold drawOk; kernel_rfl), ?_⟩))
            exact endK_cell (id := 5) (ps := [_, _, _]) (qs := [_, _, _]) [0, 1, 2, 3] (by simp [PS.get, PS.obj, PS.lv, PS.ev, PV.un, PV.el, PV.weak, lkp_hit, lkp_miss, lkp_nil]) (by simp [PS.obj, lkp_hit, lkp_miss, lkp_nil]; exact ⟨rfl, rfl, rfl⟩) (by simp [ldOk, tk_94, tsz_94]) (by simp only [ldPV, tk_94, tsz_94, TK.isAgg]; rfl) (by simp [wkL, res1, PV.weak, ints]) rfl rfl (by rfl) (fun i j ps h1 h2 => by (rcases i with _ | _ | _ | _ | i <;> simp at h1 h2 <;> (subst h1; subst h2; exact ⟨_, rfl, (by (repeat' (first | exact wkL_nil | refine wkL_cons ?_ ?_)); all_goals (first | rfl | exact ⟨rfl, rfl⟩ | exact ⟨rfl, rfl, rfl⟩ | exact .inl rfl))⟩)))
          · obtain rfl : e4 = 0 := by simpa using h5
            have hw := wide_fs hz
            have hwp := wid_pos hz
            have hsub2 : IntKind.i64.wrap ((s.length : Int) - (a4 : Int)) = (m2 : Int) := by rw [wrap_i64_id (by omega) (by omega)]; omega
            obtain ⟨M, hM⟩ : ∃ M, M = n2 * wid f.L := ⟨_, rfl⟩
            have hM4 : M ≤ n2 * 4 := by rw [hM]; exact Nat.mul_le_mul_left _ hwp.2
            have hM1 : n2 * 1 ≤ M := by rw [hM]; exact Nat.mul_le_mul_left _ hwp.1
            have hmul : IntKind.i64.wrap ((n2 : Int) * (wid f.L : Int)) = (M : Int) := by
              rw [show (n2 : Int) * (wid f.L : Int) = (M : Int) by rw [hM]; exact (Int.natCast_mul _ _).symm, wrap_i64_id (by omega) (by omega)]
            rw [if_pos rfl, show (n2 : Int) * (wid f.L : Int) = (M : Int) by rw [hM]; exact (Int.natCast_mul _ _).symm]
            cases h6 : decide ((m2 : Int) < (M : Int))
            · have h6' : ¬ (m2 : Int) < (M : Int) := by simpa using h6
              have hr3 := nums_le (o := o) (s := s) (List.replicate n2 f.L) (c := ⟨a4, 0⟩) hr2
              rw [if_neg h6']
              simp only [Int.toNat_natCast]
              simp -implicitDefEqProofs only [push_cast, hsub2, hmul, hL, h6, ints_length, seval]
              refine callE_p hw ?_
              simp -implicitDefEqProofs only [push_cast, hsub2, hmul, hL, h6, ints_length, seval]
              refine ⟨by (unfold drawOk; kernel_rfl), by omega, by omega, ?_⟩
              refine loopC_of (α := G2S n2) (G2S.st o s f p.1 [] a4 n2) (fun x => n2 - x.k) ⟨0, by omega⟩ ?_ ?_
              · (simp only [G2S.st, List.replicate_zero, nums]; exact Wk.by _ _ _ [(0, 0), (1, 1), (2, 2), (3, 3), (4, 4), (5, 5), (6, 6)] [(50, 50), (51, 196)] [] (by simp) (by simp [wkV, PV.el, PV.weak, PS.get, PS.obj, PS.lv, lkp_hit, lkp_miss, lkp_nil, lko, wkL, wkC, res1, ints, hB]) (by simp [PS.get, PS.obj, PS.lv, lkp_hit, lkp_miss, lkp_nil, lko, wkL, wkC, PV.weak, wkL, wkC, res1, ints, hB]) (by simp [PS.get, PS.obj, PS.lv, lkp_hit, lkp_miss, lkp_nil, lko]) (by rfl) (by rfl) (by simp [lko]) (by simp) (by simp) (by simp) (fun i hi => by rcases i with _ | _ | _ | _ | i <;> first | rfl | (exfalso; omega)))
              · rintro ⟨k, hk⟩
                have hle3 := nums_le (o := o) (s := s) (List.replicate k f.L) (c := ⟨a4, 0⟩) hr2
                have hnl3 := nums_length (o := o) (s := s) (List.replicate k f.L) ⟨a4, 0⟩
                rw [List.length_replicate] at hnl3
                simp -implicitDefEqProofs only [push_cast, G2S.st, ints_length, seval]
                refine condC_split (fun h7 => ?_) (fun h7 => ?_)
                · have hlt : k < n2 := by simp at h7; omega
                  have hn := numGet_fs ho hz s hl (nums o s (List.replicate k f.L) ⟨a4, 0⟩).2 hle3
                  have hsn := nums_snoc o s f.L (List.replicate k f.L) ⟨a4, 0⟩
                  rw [← List.replicate_succ'] at hsn
                  generalize nums o s (List.replicate k f.L) ⟨a4, 0⟩ = p3 at *
                  generalize hq3 : num o s f.L p3.2 = q3 at *
                  have hwr : IntKind.i64.wrap ((k : Int) + 1) = ((k + 1 : Nat) : Int) := by (rw [wrap_i64_id (by omega) (by omega)]; rfl)
                  simp -implicitDefEqProofs only [push_cast, G2S.st, h7, ints_length, seval]
                  (repeat (first | refine ⟨by omega, ?_⟩ | refine ⟨by (unfold drawOk; kernel_rfl), ?_⟩))
                  refine callE_box hn [0, 1, 2, 3] [] (by rfl) (by rfl) (by rfl) (by rfl) (by rfl) (by rfl) (fun i j cs h1 h2 => by (rcases i with _ | _ | _ | _ | i <;> simp at h1 h2 <;> (subst h1; subst h2; exact ⟨_, rfl, (by (repeat' (first | exact wkL_nil | refine wkL_cons ?_ ?_)); all_goals (first | exact .inl ⟨_, _, _, _, rfl, rfl, rfl⟩ | exact .inr (.inr (.inr (.inr (.inl ⟨_, _, _, rfl, rfl, rfl⟩)))) | exact .inr (.inr (.inr (.inr (.inr (.inl ⟨_, _, _, _, rfl, rfl, rfl⟩))))) | exact .inr (.inr (.inr (.inr (.inr (.inr ⟨_, _, rfl, rfl, rfl⟩))))) | exact .inr (.inl rfl) | exact .inr (.inr (.inl ⟨_, _, _, rfl, rfl, rfl⟩))))⟩))) (by simp [PS.lv, lkp_hit, lkp_miss, lkp_nil]) (by (repeat' (first | exact wkL_nil | refine wkL_cons ?_ ?_)); all_goals (first | exact .inl ⟨_, _, _, rfl, rfl, rfl⟩ | exact .inr (.inl rfl) | exact .inr (.inr (.inl ⟨_, _, _, _, rfl, rfl, rfl⟩)) | exact .inr (.inr (.inr (.inl ⟨_, _, _, rfl, rfl, rfl, (wkL_get (by (repeat' (first | exact wkL_nil | refine wkL_cons ?_ ?_)); all_goals (first | exact .inl ⟨_, _, _, rfl, rfl, rfl⟩ | exact .inr rfl))).2⟩))) | exact .inr (.inr (.inr (.inr (.inl ⟨_, _, rfl, rfl, rfl⟩)))) | exact .inr (.inr (.inr (.inr (.inr ⟨_, _, rfl, rfl, wkL_get (by (repeat' (first | exact wkL_nil | refine wkL_cons ?_ ?_)); all_goals (first | exact .inr rfl | exact .inl ⟨_, _, rfl, rfl, rfl⟩))⟩)))))) (by decide) (by simp) (by rfl) (by simp [tokLt1]) (fun _ => by rfl) (by first | rfl | simp [gdOk, newToks]) ?_
                  simp -implicitDefEqProofs only [push_cast, G2S.st, h7, ints_length, seval]
                  (repeat (first | refine ⟨by omega, ?_⟩ | refine ⟨by simp [maxLen, ints_length]; omega, ?_⟩ | refine ⟨by (unfold drawOk; kernel_rfl), ?_⟩))
                  rw [hwr]
                  refine ⟨⟨k + 1, by omega⟩, by simp only; omega, ?_⟩
                  (simp only [G2S.st, hsn, ints_snoc]; exact Wk.by _ _ _ [(0, 0), (1, 1), (2, 2), (3, 3), (4, 4), (5, 5), (6, 6)] [(50, 50), (51, 92)] [] (by simp) (by simp [wkV, PV.el, PV.weak, PS.get, PS.obj, PS.lv, lkp_hit, lkp_miss, lkp_nil, lko, wkL, wkC, res1, ints, hB]) (by simp [PS.get, PS.obj, PS.lv, lkp_hit, lkp_miss, lkp_nil, lko, wkL, wkC, PV.weak, wkL, wkC, res1, ints, hB]) (by simp [PS.get, PS.obj, PS.lv, lkp_hit, lkp_miss, lkp_nil, lko]) (by rfl) (by rfl) (by simp [lko]) (by simp) (by simp) (by simp) (fun i hi => by rcases i with _ | _ | _ | _ | i <;> first | rfl | (exfalso; omega)))
                · have hke : k = n2 := by simp at h7; omega
                  subst hke
                  have hfl3 := fillGet_fs s hl (nums o s (List.replicate k f.L) ⟨a4, 0⟩).2 hle3
                  simp -implicitDefEqProofs only [push_cast, G2S.st, h7, ints_length, seval]
                  generalize nums o s (List.replicate k f.L) ⟨a4, 0⟩ = p3 at *
                  refine callE_box hfl3 [0, 2, 1] [] (by rfl) (by rfl) (by rfl) (by rfl) (by rfl) (by rfl) (fun i j cs h1 h2 => by (rcases i with _ | _ | _ | i <;> simp at h1 h2 <;> (subst h1; subst h2; exact ⟨_, rfl, (by (repeat' (first | exact wkL_nil | refine wkL_cons ?_ ?_)); all_goals (first | exact .inl ⟨_, _, _, _, rfl, rfl, rfl⟩ | exact .inr (.inr (.inr (.inr (.inl ⟨_, _, _, rfl, rfl, rfl⟩)))) | exact .inr (.inr (.inr (.inr (.inr (.inl ⟨_, _, _, _, rfl, rfl, rfl⟩))))) | exact .inr (.inr (.inr (.inr (.inr (.inr ⟨_, _, rfl, rfl, rfl⟩))))) | exact .inr (.inl rfl) | exact .inr (.inr (.inl ⟨_, _, _, rfl, rfl, rfl⟩))))⟩))) (by simp [PS.lv, lkp_hit, lkp_miss, lkp_nil]) (by (repeat' (first | exact wkL_nil | refine wkL_cons ?_ ?_)); all_goals (first | exact .inl ⟨_, _, _, rfl, rfl, rfl⟩ | exact .inr (.inl rfl) | exact .inr (.inr (.inl ⟨_, _, _, _, rfl, rfl, rfl⟩)) | exact .inr (.inr (.inr (.inl ⟨_, _, _, rfl, rfl, rfl, (wkL_get (by (repeat' (first | exact wkL_nil | refine wkL_cons ?_ ?_)); all_goals (first | exact .inl ⟨_, _, _, rfl, rfl, rfl⟩ | exact .inr rfl))).2⟩))) | exact .inr (.inr (.inr (.inr (.inl ⟨_, _, rfl, rfl, rfl⟩)))) | exact .inr (.inr (.inr (.inr (.inr ⟨_, _, rfl, rfl, wkL_get (by (repeat' (first | exact wkL_nil | refine wkL_cons ?_ ?_)); all_goals (first | exact .inr rfl | exact .inl ⟨_, _, rfl, rfl, rfl⟩))⟩)))))) (by decide) (by simp) (by rfl) (by simp [tokLt1]) (fun _ => by rfl) (by first | rfl | simp [gdOk, newToks]) ?_
                  simp -implicitDefEqProofs only [push_cast, G2S.st, h7, ints_length, seval]
                  exact endK_cell (id := 5) (ps := [_, _, _]) (qs := [_, _, _]) [0, 1, 2, 3] (by simp [PS.get, PS.obj, PS.lv, PS.ev, PV.un, PV.el, PV.weak, lkp_hit, lkp_miss, lkp_nil]) (by simp [PS.obj, lkp_hit, lkp_miss, lkp_nil]; exact ⟨rfl, rfl, rfl⟩) (by simp [ldOk, tk_94, tsz_94]) (by simp only [ldPV, tk_94, tsz_94, TK.isAgg]; rfl) (by simp [wkL, res1, PV.weak, ints]) rfl rfl (by rfl) (fun i j ps h1 h2 => by (rcases i with _ | _ | _ | _ | i <;> simp at h1 h2 <;> (subst h1; subst h2; exact ⟨_, rfl, (by (repeat' (first | exact wkL_nil | refine wkL_cons ?_ ?_)); all_goals (first | rfl | exact ⟨rfl, rfl⟩ | exact ⟨rfl, rfl, rfl⟩ | exact .inl rfl))⟩)))
            · have h6' : (m2 : Int) < (M : Int) := by simpa using h6
              rw [if_pos h6']
              simp -implicitDefEqProofs only [push_cast, hsub2, hmul, hL, h6, ints_length, seval]
              refine callE_p hw ?_
              simp -implicitDefEqProofs only [push_cast, hsub2, hmul, hL, h6, ints_length, seval]
              (repeat (first | refine ⟨by omega, ?_⟩ | refine ⟨by (unfold drawOk; kernel_rfl), ?_⟩))
              exact endK_cell (id := 5) (ps := [_, _, _]) (qs := [_, _, _]) [0, 1, 2, 3] (by simp [PS.get, PS.obj, PS.lv, PS.ev, PV.un, PV.el, PV.weak, lkp_hit, lkp_miss, lkp_nil]) (by simp [PS.obj, lkp_hit, lkp_miss, lkp_nil]; exact ⟨rfl, rfl, rfl⟩) (by simp [ldOk, tk_94, tsz_94]) (by simp only [ldPV, tk_94, tsz_94, TK.isAgg]; rfl) (by simp [wkL, res1, PV.weak, ints]) rfl rfl (by rfl) (fun i j ps h1 h2 => by (rcases i with _ | _ | _ | _ | i <;> simp at h1 h2 <;> (subst h1; subst h2; exact ⟨_, rfl, (by (repeat' (first | exact wkL_nil | refine wkL_cons ?_ ?_)); all_goals (first | rfl | exact ⟨rfl, rfl⟩ | exact ⟨rfl, rfl, rfl⟩ | exact .inl rfl))⟩)))
      · have hn4 := numGet_fs ho (z := 4) (by unfold isSize; omega) s hl c1 hc1
        have hq1 := num4 (o := o) (s := s) ho c1
        have hq2 := num_le (o := o) (z := 4) hc1
        rw [stB, if_pos hB] at hbd
        simp -implicitDefEqProofs only [push_cast, hB, ints_length, seval]
        generalize num o s 4 c1 = q at *
        refine callE_box hn4 [0, 1, 2, 3] [] (by rfl) (by rfl) (by rfl) (by rfl) (by rfl) (by rfl) (fun i j cs h1 h2 => by (rcases i with _ | _ | _ | _ | i <;> simp at h1 h2 <;> (subst h1; subst h2; exact ⟨_, rfl, (by (repeat' (first | exact wkL_nil | refine wkL_cons ?_ ?_)); all_goals (first | exact .inl ⟨_, _, _, _, rfl, rfl, rfl⟩ | exact .inr (.inr (.inr (.inr (.inl ⟨_, _, _, rfl, rfl, rfl⟩)))) | exact .inr (.inr (.inr (.inr (.inr (.inl ⟨_, _, _, _, rfl, rfl, rfl⟩))))) | exact .inr (.inr (.inr (.inr (.inr (.inr ⟨_, _, rfl, rfl, rfl⟩))))) | exact .inr (.inl rfl) | exact .inr (.inr (.inl ⟨_, _, _, rfl, rfl, rfl⟩))))⟩))) (by simp [PS.lv, lkp_hit, lkp_miss, lkp_nil]) (by (repeat' (first | exact wkL_nil | refine wkL_cons ?_ ?_)); all_goals (first | exact .inl ⟨_, _, _, rfl, rfl, rfl⟩ | exact .inr (.inl rfl) | exact .inr (.inr (.inl ⟨_, _, _, _, rfl, rfl, rfl⟩)) | exact .inr (.inr (.inr (.inl ⟨_, _, _, rfl, rfl, rfl, (wkL_get (by (repeat' (first | exact wkL_nil | refine wkL_cons ?_ ?_)); all_goals (first | exact .inl ⟨_, _, _, rfl, rfl, rfl⟩ | exact .inr rfl))).2⟩))) | exact .inr (.inr (.inr (.inr (.inl ⟨_, _, rfl, rfl, rfl⟩)))) | exact .inr (.inr (.inr (.inr (.inr ⟨_, _, rfl, rfl, wkL_get (by (repeat' (first | exact wkL_nil | refine wkL_cons ?_ ?_)); all_goals (first | exact .inr rfl | exact .inl ⟨_, _, rfl, rfl, rfl⟩))⟩)))))) (by decide) (by simp) (by rfl) (by simp [tokLt1]) (fun _ => by rfl) (by first | rfl | simp [gdOk, newToks]) ?_
        obtain ⟨q1, a2, e2⟩ := q
        simp only at hq1 hq2 hbd
        obtain ⟨n, rfl⟩ := Int.eq_ofNat_of_zero_le hq1.1
        obtain ⟨m, hm⟩ : ∃ m, m = s.length - a2 := ⟨_, rfl⟩
        rw [← hm] at hbd
        cases h0 : (e2 == 0)
        · have hne : ¬ e2 = 0 := by simpa using h0
          have hne2 : (e2 != 0) = true := by simp [hne]
          rw [if_neg hne, if_neg (by simp)] at hbd
          rw [hbd]
          simp -implicitDefEqProofs only [push_cast, h0, hne2, ints_length, seval]
          (repeat (refine callE_no ?_; simp -implicitDefEqProofs only [push_cast, h0, hne2, seval]))
          exact endK_cell (id := 5) (ps := [_, _, _]) (qs := [_, _, _]) [0, 1, 2, 3] (by simp [PS.get, PS.obj, PS.lv, PS.ev, PV.un, PV.el, PV.weak, lkp_hit, lkp_miss, lkp_nil]) (by simp [PS.obj, lkp_hit, lkp_miss, lkp_nil]; exact ⟨rfl, rfl, rfl⟩) (by simp [ldOk, tk_94, tsz_94]) (by simp only [ldPV, tk_94, tsz_94, TK.isAgg]; rfl) (by simp [wkL, res1, PV.weak, ints]) rfl rfl (by rfl) (fun i j ps h1 h2 => by (rcases i with _ | _ | _ | _ | i <;> simp at h1 h2 <;> (subst h1; subst h2; exact ⟨_, rfl, (by (repeat' (first | exact wkL_nil | refine wkL_cons ?_ ?_)); all_goals (first | rfl | exact ⟨rfl, rfl⟩ | exact ⟨rfl, rfl, rfl⟩ | exact .inl rfl))⟩)))
        · obtain rfl : e2 = 0 := by simpa using h0
          have hsub : IntKind.i64.wrap ((s.length : Int) - (a2 : Int)) = (m : Int) := by rw [wrap_i64_id (by omega) (by omega)]; omega
          rw [if_pos rfl] at hbd
          cases h2 : decide ((m : Int) < (n : Int))
          · have h2' : ¬ (m : Int) < (n : Int) := by simpa using h2
            obtain ⟨b, hb⟩ : ∃ b, b = a2 + n := ⟨_, rfl⟩
            have hadd : IntKind.i64.wrap ((a2 : Int) + (n : Int)) = (b : Int) := by rw [wrap_i64_id (by omega) (by omega)]; omega
            have hba : b - a2 = n := by omega
            have hbl : b ≤ s.length := by omega
            rw [if_neg h2', if_pos rfl] at hbd
            simp only [Int.toNat_natCast] at hbd
            rw [← hb] at hbd
            have hfl2 := fillGet_fs s hl ⟨b, 0⟩ hbl
            have hc3 := fil_le (s := s) (c := ⟨b, 0⟩) hbl
            generalize fil s ⟨b, 0⟩ = c3 at *
            rw [hbd]
            simp -implicitDefEqProofs only [push_cast, h0, h2, hsub, hadd, hba, seval]
            (repeat (first | refine ⟨by omega, ?_⟩ | refine ⟨by (unfold drawOk; kernel_rfl), ?_⟩))
            refine callE_box hfl2 [0, 2, 1] [] (by rfl) (by rfl) (by rfl) (by rfl) (by rfl) (by rfl) (fun i j cs h1 h2 => by (rcases i with _ | _ | _ | i <;> simp at h1 h2 <;> (subst h1; subst h2; exact ⟨_, rfl, (by (repeat' (first | exact wkL_nil | refine wkL_cons ?_ ?_)); all_goals (first | exact .inl ⟨_, _, _, _, rfl, rfl, rfl⟩ | exact .inr (.inr (.inr (.inr (.inl ⟨_, _, _, rfl, rfl, rfl⟩)))) | exact .inr (.inr (.inr (.inr (.inr (.inl ⟨_, _, _, _, rfl, rfl, rfl⟩))))) | exact .inr (.inr (.inr (.inr (.inr (.inr ⟨_, _, rfl, rfl, rfl⟩))))) | exact .inr (.inl rfl) | exact .inr (.inr (.inl ⟨_, _, _, rfl, rfl, rfl⟩))))⟩))) (by simp [PS.lv, lkp_hit, lkp_miss, lkp_nil]) (by (repeat' (first | exact wkL_nil | refine wkL_cons ?_ ?_)); all_goals (first | exact .inl ⟨_, _, _, rfl, rfl, rfl⟩ | exact .inr (.inl rfl) | exact .inr (.inr (.inl ⟨_, _, _, _, rfl, rfl, rfl⟩)) | exact .inr (.inr (.inr (.inl ⟨_, _, _, rfl, rfl, rfl, (wkL_get (by (repeat' (first | exact wkL_nil | refine wkL_cons ?_ ?_)); all_goals (first | exact .inl ⟨_, _, _, rfl, rfl, rfl⟩ | exact .inr rfl))).2⟩))) | exact .inr (.inr (.inr (.inr (.inl ⟨_, _, rfl, rfl, rfl⟩)))) | exact .inr (.inr (.inr (.inr (.inr ⟨_, _, rfl, rfl, wkL_get (by (repeat' (first | exact wkL_nil | refine wkL_cons ?_ ?_)); all_goals (first | exact .inr rfl | exact .inl ⟨_, _, rfl, rfl, rfl⟩))⟩)))))) (by decide) (by simp) (by rfl) (by simp [tokLt1]) (fun _ => by rfl) (by first | rfl | simp [gdOk, newToks]) ?_
            simp -implicitDefEqProofs only [push_cast, h0, h2, hsub, hadd, hba, seval]
            cases hL : (f.L != 0)
            · have hL0 : f.L = 0 := by simpa using hL
              rw [stL, if_pos hL0]
              simp -implicitDefEqProofs only [push_cast, hL, ints_length, seval]
              exact endK_cell (id := 5) (ps := [_, _, _]) (qs := [_, _, _]) [0, 1, 2, 3] (by simp [PS.get, PS.obj, PS.lv, PS.ev, PV.un, PV.el, PV.weak, lkp_hit, lkp_miss, lkp_nil]) (by simp [PS.obj, lkp_hit, lkp_miss, lkp_nil]; exact ⟨rfl, rfl, rfl⟩) (by simp [ldOk, tk_94, tsz_94]) (by simp only [ldPV, tk_94, tsz_94, TK.isAgg]; rfl) (by simp [wkL, res1, PV.weak, ints]) rfl rfl (by rfl) (fun i j ps h1 h2 => by (rcases i with _ | _ | _ | _ | i <;> simp at h1 h2 <;> (subst h1; subst h2; exact ⟨_, rfl, (by (repeat' (first | exact wkL_nil | refine wkL_cons ?_ ?_)); all_goals (first | rfl | exact ⟨rfl, rfl⟩ | exact ⟨rfl, rfl, rfl⟩ | exact .inl rfl))⟩)))
            · have hL0 : ¬ f.L = 0 := by simpa using hL
              have hz : isSize f.L := by
                rcases h.l with e | e
                · exact absurd e hL0
                · exact e
              have hn5 := numGet_fs ho (z := 4) (by unfold isSize; omega) s hl c3 hc3
              have hr1 := num4 (o := o) (s := s) ho c3
              have hr2 := num_le (o := o) (z := 4) hc3
              rw [stL, if_neg hL0]
              simp -implicitDefEqProofs only [push_cast, hL, ints_length, seval]
              generalize num o s 4 c3 = r at *
              refine callE_box hn5 [0, 1, 2, 3] [] (by rfl) (by rfl) (by rfl) (by rfl) (by rfl) (by rfl) (fun i j cs h1 h2 => by (rcases i with _ | _ | _ | _ | i <;> simp at h1 h2 <;> (subst h1; subst h2; exact ⟨_, rfl, (by (repeat' (first | exact wkL_nil | refine wkL_cons ?_ ?_)); all_goals (first | exact .inl ⟨_, _, _, _, rfl, rfl, rfl⟩ | exact .inr (.inr (.inr (.inr (.inl ⟨_, _, _, rfl, rfl, rfl⟩)))) | exact .inr (.inr (.inr (.inr (.inr (.inl ⟨_, _, _, _, rfl, rfl, rfl⟩))))) | exact .inr (.inr (.inr (.inr (.inr (.inr ⟨_, _, rfl, rfl, rfl⟩))))) | exact .inr (.inl rfl) | exact .inr (.inr (.inl ⟨_, _, _, rfl, rfl, rfl⟩))))⟩))) (by simp [PS.lv, lkp_hit, lkp_miss, lkp_nil]) (by (repeat' (first | exact wkL_nil | refine wkL_cons ?_ ?_)); all_goals (first | exact .inl ⟨_, _, _, rfl, rfl, rfl⟩ | exact .inr (.inl rfl) | exact .inr (.inr (.inl ⟨_, _, _, _, rfl, rfl, rfl⟩)) | exact .inr (.inr (.inr (.inl ⟨_, _, _, rfl, rfl, rfl, (wkL_get (by (repeat' (first | exact wkL_nil | refine wkL_cons ?_ ?_)); all_goals (first | exact .inl ⟨_, _, _, rfl, rfl, rfl⟩ | exact .inr rfl))).2⟩))) | exact .inr (.inr (.inr (.inr (.inl ⟨_, _, rfl, rfl, rfl⟩)))) | exact .inr (.inr (.inr (.inr (.inr ⟨_, _, rfl, rfl, wkL_get (by (repeat' (first | exact wkL_nil | refine wkL_cons ?_ ?_)); all_goals (first | exact .inr rfl | exact .inl ⟨_, _, rfl, rfl, rfl⟩))⟩)))))) (by decide) (by simp) (by rfl) (by simp [tokLt1]) (fun _ => by rfl) (by first | rfl | simp [gdOk, newToks]) ?_
              obtain ⟨r1, a4, e4⟩ := r
              simp only at hr1 hr2
              obtain ⟨n2, rfl⟩ := Int.eq_ofNat_of_zero_le hr1.1
              obtain ⟨m2, hm2⟩ : ∃ m2, m2 = s.length - a4 := ⟨_, rfl⟩
              simp only [← hm2]
              cases h5 : (e4 == 0)
              · have hne : ¬ e4 = 0 := by simpa using h5
                have hne5 : (e4 != 0) = true := by simp [hne]
                rw [if_neg hne]
                simp -implicitDefEqProofs only [push_cast, h5, hne5, hL, seval]
                (repeat (refine callE_no ?_; simp -implicitDefEqProofs only [push_cast, h5, hne5, hL, seval]))
                (repeat (first | refine ⟨by omega, ?_⟩ | refine ⟨by (unfold drawOk; kernel_rfl), ?_⟩))
                exact endK_cell (id := 5) (ps := [_, _, _]) (qs := [_, _, _]) [0, 1, 2, 3] (by simp [PS.get, PS.obj, PS.lv, PS.ev, PV.un, PV.el, PV.weak, lkp_hit, lkp_miss, lkp_nil]) (by simp [PS.obj, lkp_hit, lkp_miss, lkp_nil]; exact ⟨rfl, rfl, rfl⟩) (by simp [ldOk, tk_94, tsz_94]) (by simp only [ldPV, tk_94, tsz_94, TK.isAgg]; rfl) (by simp [wkL, res1, PV.weak, ints]) rfl rfl (by rfl) (fun i j ps h1 h2 => by (rcases i with _ | _ | _ | _ | i <;> simp at h1 h2 <;> (subst h1; subst h2; exact ⟨_, rfl, (by (repeat' (first | exact wkL_nil | refine wkL_cons ?_ ?_)); all_goals (first | rfl | exact ⟨rfl, rfl⟩ | exact ⟨rfl, rfl, rfl⟩ | exact .inl rfl))⟩)))
              · obtain rfl : e4 = 0 := by simpa using h5
                have hw := wide_fs hz
                have hwp := wid_pos hz
                have hsub2 : IntKind.i64.wrap ((s.length : Int) - (a4 : Int)) = (m2 : Int) := by rw [wrap_i64_id (by omega) (by omega)]; omega
                obtain ⟨M, hM⟩ : ∃ M, M = n2 * wid f.L := ⟨_, rfl⟩
                have hM4 : M ≤ n2 * 4 := by rw [hM]; exact Nat.mul_le_mul_left _ hwp.2
                have hM1 : n2 * 1 ≤ M := by rw [hM]; exact Nat.mul_le_mul_left _ hwp.1
                have hmul : IntKind.i64.wrap ((n2 : Int) * (wid f.L : Int)) = (M : Int) := by
                  rw [show (n2 : Int) * (wid f.L : Int) = (M : Int) by rw [hM]; exact (Int.natCast_mul _ _).symm, wrap_i64_id (by omega) (by omega)]
                rw [if_pos rfl, show (n2 : Int) * (wid f.L : Int) = (M : Int) by rw [hM]; exact (Int.natCast_mul _ _).symm]
                cases h6 : decide ((m2 : Int) < (M : Int))
                · have h6' : ¬ (m2 : Int) < (M : Int) := by simpa using h6
                  have hr3 := nums_le (o := o) (s := s) (List.replicate n2 f.L) (c := ⟨a4, 0⟩) hr2
                  rw [if_neg h6']
                  simp only [Int.toNat_natCast]
                  simp -implicitDefEqProofs only [push_cast, hsub2, hmul, hL, h6, ints_length, seval]
                  refine callE_p hw ?_
                  simp -implicitDefEqProofs only [push_cast, hsub2, hmul, hL, h6, ints_length, seval]
                  refine ⟨by (unfold drawOk; kernel_rfl), by omega, by omega, ?_⟩
                  refine loopC_of (α := G2S n2) (G2S.st o s f p.1 (List.take n (List.drop a2 s)) a4 n2) (fun x => n2 - x.k) ⟨0, by omega⟩ ?_ ?_
                  · (simp only [G2S.st, List.replicate_zero, nums]; exact Wk.by _ _ _ [(0, 0), (1, 1), (2, 2), (3, 3), (4, 4), (5, 5), (6, 6)] [(50, 50), (51, 364)] [] (by simp) (by simp [wkV, PV.el, PV.weak, PS.get, PS.obj, PS.lv, lkp_hit, lkp_miss, lkp_nil, lko, wkL, wkC, res1, ints, hB]) (by simp [PS.get, PS.obj, PS.lv, lkp_hit, lkp_miss, lkp_nil, lko, wkL, wkC, PV.weak, wkL, wkC, res1, ints, hB]) (by simp [PS.get, PS.obj, PS.lv, lkp_hit, lkp_miss, lkp_nil, lko]) (by rfl) (by rfl) (by simp [lko]) (by simp) (by simp) (by simp) (fun i hi => by rcases i with _ | _ | _ | _ | i <;> first | rfl | (exfalso; omega)))
                  · rintro ⟨k, hk⟩
                    have hle3 := nums_le (o := o) (s := s) (List.replicate k f.L) (c := ⟨a4, 0⟩) hr2
                    have hnl3 := nums_length (o := o) (s := s) (List.replicate k f.L) ⟨a4, 0⟩
                    rw [List.length_replicate] at hnl3
                    simp -implicitDefEqProofs only [push_cast, G2S.st, ints_length, seval]
                    refine condC_split (fun h7 => ?_) (fun h7 => ?_)
                    · have hlt : k < n2 := by simp at h7; omega
                      have hn := numGet_fs ho hz s hl (nums o s (List.replicate k f.L) ⟨a4, 0⟩).2 hle3
                      have hsn := nums_snoc o s f.L (List.replicate k f.L) ⟨a4, 0⟩
                      rw [← List.replicate_succ'] at hsn
                      generalize nums o s (List.replicate k f.L) ⟨a4, 0⟩ = p3 at *
                      generalize hq3 : num o s f.L p3.2 = q3 at *
                      have hwr : IntKind.i64.wrap ((k : Int) + 1) = ((k + 1 : Nat) : Int) := by (rw [wrap_i64_id (by omega) (by omega)]; rfl)
                      simp -implicitDefEqProofs only [push_cast, G2S.st, h7, ints_length, seval]
                      (repeat (first | refine ⟨by omega, ?_⟩ | refine ⟨by (unfold drawOk; kernel_rfl), ?_⟩))
                      refine callE_box hn [0, 1, 2, 3] [] (by rfl) (by rfl) (by rfl) (by rfl) (by rfl) (by rfl) (fun i j cs h1 h2 => by (rcases i with _ | _ | _ | _ | i <;> simp at h1 h2 <;> (subst h1; subst h2; exact ⟨_, rfl, (by (repeat' (first | exact wkL_nil | refine wkL_cons ?_ ?_)); all_goals (first | exact .inl ⟨_, _, _, _, rfl, rfl, rfl⟩ | exact .inr (.inr (.inr (.inr (.inl ⟨_, _, _, rfl, rfl, rfl⟩)))) | exact .inr (.inr (.inr (.inr (.inr (.inl ⟨_, _, _, _, rfl, rfl, rfl⟩))))) | exact .inr (.inr (.inr (.inr (.inr (.inr ⟨_, _, rfl, rfl, rfl⟩))))) | exact .inr (.inl rfl) | exact .inr (.inr (.inl ⟨_, _, _, rfl, rfl, rfl⟩))))⟩))) (by simp [PS.lv, lkp_hit, lkp_miss, lkp_nil]) (by (repeat' (first | exact wkL_nil | refine wkL_cons ?_ ?_)); all_goals (first | exact .inl ⟨_, _, _, rfl, rfl, rfl⟩ | exact .inr (.inl rfl) | exact .inr (.inr (.inl ⟨_, _, _, _, rfl, rfl, rfl⟩)) | exact .inr (.inr (.inr (.inl ⟨_, _, _, rfl, rfl, rfl, (wkL_get (by (repeat' (first | exact wkL_nil | refine wkL_cons ?_ ?_)); all_goals (first | exact .inl ⟨_, _, _, rfl, rfl, rfl⟩ | exact .inr rfl))).2⟩))) | exact .inr (.inr (.inr (.inr (.inl ⟨_, _, rfl, rfl, rfl⟩)))) | exact .inr (.inr (.inr (.inr (.inr ⟨_, _, rfl, rfl, wkL_get (by (repeat' (first | exact wkL_nil | refine wkL_cons ?_ ?_)); all_goals (first | exact .inr rfl | exact .inl ⟨_, _, rfl, rfl, rfl⟩))⟩)))))) (by decide) (by simp) (by rfl) (by simp [tokLt1]) (fun _ => by rfl) (by first | rfl | simp [gdOk, newToks]) ?_
                      simp -implicitDefEqProofs only [push_cast, G2S.st, h7, ints_length, seval]
                      (repeat (first | refine ⟨by omega, ?_⟩ | refine ⟨by simp [maxLen, ints_length]; omega, ?_⟩ | refine ⟨by (unfold drawOk; kernel_rfl), ?_⟩))
                      rw [hwr]
                      refine ⟨⟨k + 1, by omega⟩, by simp only; omega, ?_⟩
                      (simp only [G2S.st, hsn, ints_snoc]; exact Wk.by _ _ _ [(0, 0), (1, 1), (2, 2), (3, 3), (4, 4), (5, 5), (6, 6)] [(50, 50), (51, 92)] [] (by simp) (by simp [wkV, PV.el, PV.weak, PS.get, PS.obj, PS.lv, lkp_hit, lkp_miss, lkp_nil, lko, wkL, wkC, res1, ints, hB]) (by simp [PS.get, PS.obj, PS.lv, lkp_hit, lkp_miss, lkp_nil, lko, wkL, wkC, PV.weak, wkL, wkC, res1, ints, hB]) (by simp [PS.get, PS.obj, PS.lv, lkp_hit, lkp_miss, lkp_nil, lko]) (by rfl) (by rfl) (by simp [lko]) (by simp) (by simp) (by simp) (fun i hi => by rcases i with _ | _ | _ | _ | i <;> first | rfl | (exfalso; omega)))
                    · have hke : k = n2 := by simp at h7; omega
                      subst hke
                      have hfl3 := fillGet_fs s hl (nums o s (List.replicate k f.L) ⟨a4, 0⟩).2 hle3
                      simp -implicitDefEqProofs only [push_cast, G2S.st, h7, ints_length, seval]
                      generalize nums o s (List.replicate k f.L) ⟨a4, 0⟩ = p3 at *
                      refine callE_box hfl3 [0, 2, 1] [] (by rfl) (by rfl) (by rfl) (by rfl) (by rfl) (by rfl) (fun i j cs h1 h2 => by (rcases i with _ | _ | _ | i <;> simp at h1 h2 <;> (subst h1; subst h2; exact ⟨_, rfl, (by (repeat' (first | exact wkL_nil | refine wkL_cons ?_ ?_)); all_goals (first | exact .inl ⟨_, _, _, _, rfl, rfl, rfl⟩ | exact .inr (.inr (.inr (.inr (.inl ⟨_, _, _, rfl, rfl, rfl⟩)))) | exact .inr (.inr (.inr (.inr (.inr (.inl ⟨_, _, _, _, rfl, rfl, rfl⟩))))) | exact .inr (.inr (.inr (.inr (.inr (.inr ⟨_, _, rfl, rfl, rfl⟩))))) | exact .inr (.inl rfl) | exact .inr (.inr (.inl ⟨_, _, _, rfl, rfl, rfl⟩))))⟩))) (by simp [PS.lv, lkp_hit, lkp_miss, lkp_nil]) (by (repeat' (first | exact wkL_nil | refine wkL_cons ?_ ?_)); all_goals (first | exact .inl ⟨_, _, _, rfl, rfl, rfl⟩ | exact .inr (.inl rfl) | exact .inr (.inr (.inl ⟨_, _, _, _, rfl, rfl, rfl⟩)) | exact .inr (.inr (.inr (.inl ⟨_, _, _, rfl, rfl, rfl, (wkL_get (by (repeat' (first | exact wkL_nil | refine wkL_cons ?_ ?_)); all_goals (first | exact .inl ⟨_, _, _, rfl, rfl, rfl⟩ | exact .inr rfl))).2⟩))) | exact .inr (.inr (.inr (.inr (.inl ⟨_, _, rfl, rfl, rfl⟩)))) | exact .inr (.inr (.inr (.inr (.inr ⟨_, _, rfl, rfl, wkL_get (by (repeat' (first | exact wkL_nil | refine wkL_cons ?_ ?_)); all_goals (first | exact .inr rfl | exact .inl ⟨_, _, rfl, rfl, rfl⟩))⟩)))))) (by decide) (by simp) (by rfl) (by simp [tokLt1]) (fun _ => by rfl) (by first | rfl | simp [gdOk, newToks]) ?_
                      simp -implicitDefEqProofs only [push_cast, G2S.st, h7, ints_length, seval]
                      exact endK_cell (id := 5) (ps := [_, _, _]) (qs := [_, _, _]) [0, 1, 2, 3] (by simp [PS.get, PS.obj, PS.lv, PS.ev, PV.un, PV.el, PV.weak, lkp_hit, lkp_miss, lkp_nil]) (by simp [PS.obj, lkp_hit, lkp_miss, lkp_nil]; exact ⟨rfl, rfl, rfl⟩) (by simp [ldOk, tk_94, tsz_94]) (by simp only [ldPV, tk_94, tsz_94, TK.isAgg]; rfl) (by simp [wkL, res1, PV.weak, ints]) rfl rfl (by rfl) (fun i j ps h1 h2 => by (rcases i with _ | _ | _ | _ | i <;> simp at h1 h2 <;> (subst h1; subst h2; exact ⟨_, rfl, (by (repeat' (first | exact wkL_nil | refine wkL_cons ?_ ?_)); all_goals (first | rfl | exact ⟨rfl, rfl⟩ | exact ⟨rfl, rfl, rfl⟩ | exact .inl rfl))⟩)))
                · have h6' : (m2 : Int) < (M : Int) := by simpa using h6
                  rw [if_pos h6']
                  simp -implicitDefEqProofs only [push_cast, hsub2, hmul, hL, h6, ints_length, seval]
                  refine callE_p hw ?_
                  simp -implicitDefEqProofs only [push_cast, hsub2, hmul, hL, h6, ints_length, seval]
                  (repeat (first | refine ⟨by omega, ?_⟩ | refine ⟨by (unfold drawOk; kernel_rfl), ?_⟩))
                  exact endK_cell (id := 5) (ps := [_, _, _]) (qs := [_, _, _]) [0, 1, 2, 3] (by simp [PS.get, PS.obj, PS.lv, PS.ev, PV.un, PV.el, PV.weak, lkp_hit, lkp_miss, lkp_nil]) (by simp [PS.obj, lkp_hit, lkp_miss, lkp_nil]; exact ⟨rfl, rfl, rfl⟩) (by simp [ldOk, tk_94, tsz_94]) (by simp only [ldPV, tk_94, tsz_94, TK.isAgg]; rfl) (by simp [wkL, res1, PV.weak, ints]) rfl rfl (by rfl) (fun i j ps h1 h2 => by (rcases i with _ | _ | _ | _ | i <;> simp at h1 h2 <;> (subst h1; subst h2; exact ⟨_, rfl, (by (repeat' (first | exact wkL_nil | refine wkL_cons ?_ ?_)); all_goals (first | rfl | exact ⟨rfl, rfl⟩ | exact ⟨rfl, rfl, rfl⟩ | exact .inl rfl))⟩)))
          · have h2' : (m : Int) < (n : Int) := by simpa using h2
            rw [if_pos h2', if_neg (by simp)] at hbd
            rw [hbd]
            simp -implicitDefEqProofs only [push_cast, h0, h2, hsub, seval]
            exact endK_cell (id := 5) (ps := [_, _, _]) (qs := [_, _, _]) [0, 1, 2, 3] (by simp [PS.get, PS.obj, PS.lv, PS.ev, PV.un, PV.el, PV.weak, lkp_hit, lkp_miss, lkp_nil]) (by simp [PS.obj, lkp_hit, lkp_miss, lkp_nil]; exact ⟨rfl, rfl, rfl⟩) (by simp [ldOk, tk_94, tsz_94]) (by simp only [ldPV, tk_94, tsz_94, TK.isAgg]; rfl) (by simp [wkL, res1, PV.weak, ints]) rfl rfl (by rfl) (fun i j ps h1 h2 => by (rcases i with _ | _ | _ | _ | i <;> simp at h1 h2 <;> (subst h1; subst h2; exact ⟨_, rfl, (by (repeat' (first | exact wkL_nil | refine wkL_cons ?_ ?_)); all_goals (first | rfl | exact ⟨rfl, rfl⟩ | exact ⟨rfl, rfl, rfl⟩ | exact .inl rfl))⟩)))

end Go.Proofs.Sh

/- Package format: Get. -/
set_option maxRecDepth 100000
set_option linter.unusedSimpArgs false
set_option linter.unusedVariables false
namespace Go.Proofs.Sh
open Go.Pv

def fd0 : Fd := ⟨[], [], []⟩
/-- What is wrong behind the last field. -/
def getX (s : List UInt8) (c : Cu) : Int := if c.e = 0 ∧ c.a < s.length then 2 else c.e
def getF (o : Int) (f : Fm) (s : List UInt8) : Fd × Int :=
  if 65536 < s.length then (fd0, 4)
  else if getX s (body o s f ⟨0, 0⟩).2 = 0 then ((body o s f ⟨0, 0⟩).1, 0) else (fd0, getX s (body o s f ⟨0, 0⟩).2)
def getR (o : Int) (f : Fm) (s : List UInt8) : PV := .tup [(getF o f s).1.pv, .int .i64 (getF o f s).2]
set_option maxHeartbeats 4000000 in
theorem formGet_fs {o : Int} (ho : isOrder o) (f : Fm) (h : f.Ok) (s : List UInt8) (hl : s.length ≤ 1000000) : Fsp Tryd.prog 59 [] 0 [.int .i64 o, f.pv, .str s] [] 0 (getR o f s) := by
  have hk := known_form ho f h
  have hb := body_fs ho s hl f h ⟨0, 0⟩ (Nat.zero_le _)
  simp only [Fm.pv] at hk hb
  rw [getR]
  (refine Fsp.ofs (nx := 0) mixed Tryd.func59 rfl (by simp [Tryd.f59]) ?_; simp -implicitDefEqProofs only [push_cast, Tryd.f59, Fm.pv, seval])
  refine callE_p hk ?_
  simp -implicitDefEqProofs only [push_cast, seval]
  refine condC_split (fun h1 => ?_) (fun h1 => ?_)
  · have h1' : 65536 < s.length := by simp at h1; omega
    rw [show getF o f s = (fd0, 4) by rw [getF, if_pos h1']]
    simp -implicitDefEqProofs only [push_cast, seval]
    exact ⟨_, rfl, by simp [wkL, res2, res1, PV.weak, PV.el, fd0, Fd.pv, ints]⟩
  · have h1' : ¬ 65536 < s.length := by simp at h1; omega
    rw [getF, if_neg h1']
    generalize body o s f ⟨0, 0⟩ = b at *
    simp -implicitDefEqProofs only [push_cast, seval]
    refine callE_box hb [64, 8, 56, 0] [] (by rfl) (by rfl) (by rfl) (by rfl) (by rfl) (by rfl) (fun i j cs h1 h2 => by (rcases i with _ | _ | _ | _ | i <;> simp at h1 h2 <;> (subst h1; subst h2; exact ⟨_, rfl, (by (repeat' (first | exact wkL_nil | refine wkL_cons ?_ ?_)); all_goals (first | exact .inl ⟨_, _, _, _, rfl, rfl, rfl⟩ | exact .inr (.inr (.inr (.inr (.inl ⟨_, _, _, rfl, rfl, rfl⟩)))) | exact .inr (.inr (.inr (.inr (.inr (.inl ⟨_, _, _, _, rfl, rfl, rfl⟩))))) | exact .inr (.inr (.inr (.inr (.inr (.inr ⟨_, _, rfl, rfl, rfl⟩))))) | exact .inr (.inl rfl) | exact .inr (.inr (.inl ⟨_, _, _, rfl, rfl, rfl⟩))))⟩))) (by simp [PS.lv, lkp_hit, lkp_miss, lkp_nil]) (by (repeat' (first | exact wkL_nil | refine wkL_cons ?_ ?_)); all_goals (first | exact .inl ⟨_, _, _, rfl, rfl, rfl⟩ | exact .inr (.inl rfl) | exact .inr (.inr (.inr (.inl ⟨_, _, _, rfl, rfl, rfl, fun i q p h1 h2 => by (rcases i with _ | _ | _ | _ | i <;> simp at h1 h2 <;> (subst h1; subst h2; exact .inl ⟨_, _, _, rfl, rfl, rfl⟩))⟩))))) (by decide) (by simp) (by rfl) (by simp [tokLt1]) (fun _ => by rfl) (by first | rfl | simp [gdOk, newToks]) ?_
    obtain ⟨x, a, e⟩ := b
    simp only [Fd.pv]
    cases h2 : (e == 0)
    · have hne : ¬ e = 0 := by simpa using h2
      have hne2 : (e != 0) = true := by simp [hne]
      rw [show getX s ⟨a, e⟩ = e by rw [getX, if_neg (fun h => hne h.1)], if_neg hne]
      simp -implicitDefEqProofs only [push_cast, h2, hne2, seval]
      (try refine ⟨by (unfold drawOk; kernel_rfl), ?_⟩)
      exact ⟨_, rfl, by simp [wkL, res2, res1, PV.weak, PV.el, fd0, Fd.pv, ints]⟩
    · obtain rfl : e = 0 := by simpa using h2
      cases h3 : decide ((a : Int) < (s.length : Int))
      · have h3' : ¬ a < s.length := by simp at h3; omega
        rw [show getX s ⟨a, 0⟩ = 0 by rw [getX, if_neg (fun h => h3' h.2)], if_pos rfl]
        simp -implicitDefEqProofs only [push_cast, h2, h3, seval]
        exact ⟨_, rfl, by simp [wkL, res2, res1, PV.weak, PV.el, fd0, Fd.pv, ints]⟩
      · have h3' : a < s.length := by simp at h3; omega
        rw [show getX s ⟨a, 0⟩ = 2 by rw [getX, if_pos ⟨rfl, h3'⟩], if_neg (by decide)]
        simp -implicitDefEqProofs only [push_cast, h2, h3, seval]
        (try refine ⟨by (unfold drawOk; kernel_rfl), ?_⟩)
        exact ⟨_, rfl, by simp [wkL, res2, res1, PV.weak, PV.el, fd0, Fd.pv, ints]⟩

end Go.Proofs.Sh
