/- CodeForms at every code of a request, run by the kernel. -/
import Derived.Test.YtableoaobjecaaaDoorCdAwake
namespace Go.Proofs.Cd
open Go.Pv
theorem runForms_1 : lawAll Tryd.prog cl3 (fun f => Nat.beq f 43 || Nat.beq f 63) 60 10 7 6 1 = true := by kernel_rfl
theorem runForms_7 : lawAll Tryd.prog cl3 (fun f => Nat.beq f 43 || Nat.beq f 63) 60 10 7 6 7 = true := by kernel_rfl
theorem runForms_13 : lawAll Tryd.prog cl3 (fun f => Nat.beq f 43 || Nat.beq f 63) 60 10 7 6 13 = true := by kernel_rfl
theorem runForms_19 : lawAll Tryd.prog cl3 (fun f => Nat.beq f 43 || Nat.beq f 63) 60 10 7 6 19 = true := by kernel_rfl
theorem runForms_25 : lawAll Tryd.prog cl3 (fun f => Nat.beq f 43 || Nat.beq f 63) 60 10 7 6 25 = true := by kernel_rfl
theorem runForms_31 : lawAll Tryd.prog cl3 (fun f => Nat.beq f 43 || Nat.beq f 63) 60 10 7 6 31 = true := by kernel_rfl
theorem runForms_37 : lawAll Tryd.prog cl3 (fun f => Nat.beq f 43 || Nat.beq f 63) 60 10 7 6 37 = true := by kernel_rfl
theorem runForms_43 : lawAll Tryd.prog cl3 (fun f => Nat.beq f 43 || Nat.beq f 63) 60 10 7 6 43 = true := by kernel_rfl
theorem runForms_49 : lawAll Tryd.prog cl3 (fun f => Nat.beq f 43 || Nat.beq f 63) 60 10 7 6 49 = true := by kernel_rfl
theorem runForms_55 : lawAll Tryd.prog cl3 (fun f => Nat.beq f 43 || Nat.beq f 63) 60 10 7 4 55 = true := by kernel_rfl
theorem runForms (k : Nat) (h1 : 1 ≤ k) (h2 : k ≤ 58) : Fsp Tryd.prog 7 [] 0 [.int .i64 (.ofNat k)] [] 0 (.bool true) := by
  by_cases h11 : k < 7
  · exact lawAll_at mixed cl3_ok runForms_1 (by omega) (by omega)
  by_cases h17 : k < 13
  · exact lawAll_at mixed cl3_ok runForms_7 (by omega) (by omega)
  by_cases h23 : k < 19
  · exact lawAll_at mixed cl3_ok runForms_13 (by omega) (by omega)
  by_cases h29 : k < 25
  · exact lawAll_at mixed cl3_ok runForms_19 (by omega) (by omega)
  by_cases h35 : k < 31
  · exact lawAll_at mixed cl3_ok runForms_25 (by omega) (by omega)
  by_cases h41 : k < 37
  · exact lawAll_at mixed cl3_ok runForms_31 (by omega) (by omega)
  by_cases h47 : k < 43
  · exact lawAll_at mixed cl3_ok runForms_37 (by omega) (by omega)
  by_cases h53 : k < 49
  · exact lawAll_at mixed cl3_ok runForms_43 (by omega) (by omega)
  by_cases h59 : k < 55
  · exact lawAll_at mixed cl3_ok runForms_49 (by omega) (by omega)
  by_cases h65 : k < 59
  · exact lawAll_at mixed cl3_ok runForms_55 (by omega) (by omega)
  omega
end Go.Proofs.Cd
