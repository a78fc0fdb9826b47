/- Layers 1 and 2 as plain data: the bytes of numbers. No program. -/
import Derived.Test.YtplaaagcbleflaaDoorPvBs
set_option linter.unusedVariables false
namespace Go.Proofs.Sh
open Go.Pv
/-- A number's byte at a place. -/
def byteAt (v : Int) (k : Nat) : UInt8 := UInt8.ofNat ((v / 256 ^ k) % 256).toNat
/-- A number's bytes. -/
def encB (o : Int) (n : Nat) (v : Int) : List UInt8 := (List.range n).map fun i => byteAt v (if (o == 1) = true then n - 1 - i else i)
theorem encB_length (o : Int) (n : Nat) (v : Int) : (encB o n v).length = n := by simp [encB]
theorem wrap_u64 (v : Int) : IntKind.u64.wrap v = v % 18446744073709551616 := by
  simp only [IntKind.wrap, IntKind.signed, IntKind.bits, Bool.false_and]; rfl
theorem wrap_u8 (v : Int) : IntKind.u8.wrap v = v % 256 := by
  simp only [IntKind.wrap, IntKind.signed, IntKind.bits, Bool.false_and]; rfl
theorem byteAt_toNat (v : Int) (k : Nat) : ((byteAt v k).toNat : Int) = (v / 256 ^ k) % 256 := by
  have h1 : 0 ≤ (v / 256 ^ k) % 256 := Int.emod_nonneg _ (by omega)
  have h2 : (v / 256 ^ k) % 256 < 256 := Int.emod_lt_of_pos _ (by omega)
  unfold byteAt
  rw [UInt8.toNat_ofNat']
  omega
theorem byte0 (v : Int) : IntKind.u8.wrap ((IntKind.u64.wrap v).fdiv 1) = ((byteAt v 0).toNat : Int) := by
  rw [byteAt_toNat, wrap_u64, wrap_u8, Int.fdiv_eq_ediv_of_nonneg _ (by omega)]; omega
theorem byte1 (v : Int) : IntKind.u8.wrap ((IntKind.u64.wrap v).fdiv 256) = ((byteAt v 1).toNat : Int) := by
  rw [byteAt_toNat, wrap_u64, wrap_u8, Int.fdiv_eq_ediv_of_nonneg _ (by omega)]; omega
theorem byte2 (v : Int) : IntKind.u8.wrap ((IntKind.u64.wrap v).fdiv 65536) = ((byteAt v 2).toNat : Int) := by
  rw [byteAt_toNat, wrap_u64, wrap_u8, Int.fdiv_eq_ediv_of_nonneg _ (by omega)]; omega
theorem byte3 (v : Int) : IntKind.u8.wrap ((IntKind.u64.wrap v).fdiv 16777216) = ((byteAt v 3).toNat : Int) := by
  rw [byteAt_toNat, wrap_u64, wrap_u8, Int.fdiv_eq_ediv_of_nonneg _ (by omega)]; omega
/-- The sizes that a number may have, and what numbers there are of each. -/
def low (s : Int) : Int := if s = -1 then -128 else if s = -2 then -32768 else if s = -4 then -2147483648 else 0
def high (s : Int) : Int := if s = 1 then 255 else if s = 2 then 65535 else if s = 4 then 4294967295 else if s = -1 then 127 else if s = -2 then 32767 else 2147483647
def isSize (s : Int) : Prop := s = 1 ∨ s = 2 ∨ s = 4 ∨ s = -1 ∨ s = -2 ∨ s = -4
def isOrder (o : Int) : Prop := o = 0 ∨ o = 1
def wid (s : Int) : Nat := s.natAbs
def fitsN (s v : Int) : Bool := decide (low s ≤ v) && decide (v ≤ high s)
theorem wid_pos {s : Int} (h : isSize s) : 1 ≤ wid s ∧ wid s ≤ 4 := by rcases h with rfl | rfl | rfl | rfl | rfl | rfl <;> decide
end Go.Proofs.Sh
