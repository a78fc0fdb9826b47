/- CodeFields at every code of a request, run by the kernel. -/
import Derived.Test.YtableoaobjecaaaDoorCdAwake
namespace Go.Proofs.Cd
open Go.Pv
theorem runFields_1 : lawAll Tryd.prog cl3 (fun f => Nat.beq f 43 || Nat.beq f 63) 60 10 3 6 1 = true := by kernel_rfl
theorem runFields_7 : lawAll Tryd.prog cl3 (fun f => Nat.beq f 43 || Nat.beq f 63) 60 10 3 6 7 = true := by kernel_rfl
theorem runFields_13 : lawAll Tryd.prog cl3 (fun f => Nat.beq f 43 || Nat.beq f 63) 60 10 3 6 13 = true := by kernel_rfl
theorem runFields_19 : lawAll Tryd.prog cl3 (fun f => Nat.beq f 43 || Nat.beq f 63) 60 10 3 6 19 = true := by kernel_rfl
theorem runFields_25 : lawAll Tryd.prog cl3 (fun f => Nat.beq f 43 || Nat.beq f 63) 60 10 3 6 25 = true := by kernel_rfl
theorem runFields_31 : lawAll Tryd.prog cl3 (fun f => Nat.beq f 43 || Nat.beq f 63) 60 10 3 6 31 = true := by kernel_rfl
theorem runFields_37 : lawAll Tryd.prog cl3 (fun f => Nat.beq f 43 || Nat.beq f 63) 60 10 3 6 37 = true := by kernel_rfl
theorem runFields_43 : lawAll Tryd.prog cl3 (fun f => Nat.beq f 43 || Nat.beq f 63) 60 10 3 6 43 = true := by kernel_rfl
theorem runFields_49 : lawAll Tryd.prog cl3 (fun f => Nat.beq f 43 || Nat.beq f 63) 60 10 3 6 49 = true := by kernel_rfl
theorem runFields_55 : lawAll Tryd.prog cl3 (fun f => Nat.beq f 43 || Nat.beq f 63) 60 10 3 4 55 = true := by kernel_rfl
theorem runFields (k : Nat) (h1 : 1 ≤ k) (h2 : k ≤ 58) : Fsp Tryd.prog 3 [] 0 [.int .i64 (.ofNat k)] [] 0 (.bool true) := by
  by_cases h11 : k < 7
  · exact lawAll_at mixed cl3_ok runFields_1 (by omega) (by omega)
  by_cases h17 : k < 13
  · exact lawAll_at mixed cl3_ok runFields_7 (by omega) (by omega)
  by_cases h23 : k < 19
  · exact lawAll_at mixed cl3_ok runFields_13 (by omega) (by omega)
  by_cases h29 : k < 25
  · exact lawAll_at mixed cl3_ok runFields_19 (by omega) (by omega)
  by_cases h35 : k < 31
  · exact lawAll_at mixed cl3_ok runFields_25 (by omega) (by omega)
  by_cases h41 : k < 37
  · exact lawAll_at mixed cl3_ok runFields_31 (by omega) (by omega)
  by_cases h47 : k < 43
  · exact lawAll_at mixed cl3_ok runFields_37 (by omega) (by omega)
  by_cases h53 : k < 49
  · exact lawAll_at mixed cl3_ok runFields_43 (by omega) (by omega)
  by_cases h59 : k < 55
  · exact lawAll_at mixed cl3_ok runFields_49 (by omega) (by omega)
  by_cases h65 : k < 59
  · exact lawAll_at mixed cl3_ok runFields_55 (by omega) (by omega)
  omega
end Go.Proofs.Cd
