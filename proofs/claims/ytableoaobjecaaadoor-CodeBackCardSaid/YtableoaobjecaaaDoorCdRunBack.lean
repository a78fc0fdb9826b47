/- CodeBack at every code of a request, run by the kernel. -/
import Derived.Test.YtableoaobjecaaaDoorCdAwake
namespace Go.Proofs.Cd
open Go.Pv
theorem runBack_1 : lawAll Tryd.prog cl3 (fun f => Nat.beq f 43 || Nat.beq f 63) 60 10 4 6 1 = true := by kernel_rfl
theorem runBack_7 : lawAll Tryd.prog cl3 (fun f => Nat.beq f 43 || Nat.beq f 63) 60 10 4 6 7 = true := by kernel_rfl
theorem runBack_13 : lawAll Tryd.prog cl3 (fun f => Nat.beq f 43 || Nat.beq f 63) 60 10 4 6 13 = true := by kernel_rfl
theorem runBack_19 : lawAll Tryd.prog cl3 (fun f => Nat.beq f 43 || Nat.beq f 63) 60 10 4 6 19 = true := by kernel_rfl
theorem runBack_25 : lawAll Tryd.prog cl3 (fun f => Nat.beq f 43 || Nat.beq f 63) 60 10 4 6 25 = true := by kernel_rfl
theorem runBack_31 : lawAll Tryd.prog cl3 (fun f => Nat.beq f 43 || Nat.beq f 63) 60 10 4 6 31 = true := by kernel_rfl
theorem runBack_37 : lawAll Tryd.prog cl3 (fun f => Nat.beq f 43 || Nat.beq f 63) 60 10 4 6 37 = true := by kernel_rfl
theorem runBack_43 : lawAll Tryd.prog cl3 (fun f => Nat.beq f 43 || Nat.beq f 63) 60 10 4 6 43 = true := by kernel_rfl
theorem runBack_49 : lawAll Tryd.prog cl3 (fun f => Nat.beq f 43 || Nat.beq f 63) 60 10 4 6 49 = true := by kernel_rfl
theorem runBack_55 : lawAll Tryd.prog cl3 (fun f => Nat.beq f 43 || Nat.beq f 63) 60 10 4 4 55 = true := by kernel_rfl
theorem runBack (k : Nat) (h1 : 1 ≤ k) (h2 : k ≤ 58) : Fsp Tryd.prog 4 [] 0 [.int .i64 (.ofNat k)] [] 0 (.bool true) := by
  by_cases h11 : k < 7
  · exact lawAll_at mixed cl3_ok runBack_1 (by omega) (by omega)
  by_cases h17 : k < 13
  · exact lawAll_at mixed cl3_ok runBack_7 (by omega) (by omega)
  by_cases h23 : k < 19
  · exact lawAll_at mixed cl3_ok runBack_13 (by omega) (by omega)
  by_cases h29 : k < 25
  · exact lawAll_at mixed cl3_ok runBack_19 (by omega) (by omega)
  by_cases h35 : k < 31
  · exact lawAll_at mixed cl3_ok runBack_25 (by omega) (by omega)
  by_cases h41 : k < 37
  · exact lawAll_at mixed cl3_ok runBack_31 (by omega) (by omega)
  by_cases h47 : k < 43
  · exact lawAll_at mixed cl3_ok runBack_37 (by omega) (by omega)
  by_cases h53 : k < 49
  · exact lawAll_at mixed cl3_ok runBack_43 (by omega) (by omega)
  by_cases h59 : k < 55
  · exact lawAll_at mixed cl3_ok runBack_49 (by omega) (by omega)
  by_cases h65 : k < 59
  · exact lawAll_at mixed cl3_ok runBack_55 (by omega) (by omega)
  omega
end Go.Proofs.Cd
