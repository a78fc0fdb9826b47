/- A part of the proof. -/
import Derived.Test.YtjhkaanphpcepaaLkPacket
set_option maxRecDepth 100000
namespace Go.Proofs.Lk
open Go.Pv
noncomputable def run0 (f : Nat) (args : List PV) := runI Try.prog noCl (fun _ => false) 12 4 f [] 0 args
theorem run0_fs {f : Nat} {args : List PV} {r : PV} (h : run0 f args = some ([], 0, r)) : Fsp Try.prog f [] 0 args [] 0 r := runI_ok mixed (noCl_ok _) _ _ _ _ _ _ _ h
theorem size4 : Fsp Try.prog 43 [] 0 [.int .i64 4] [] 0 (.int .i64 4) := run0_fs (by kernel_rfl)
theorem size2 : Fsp Try.prog 43 [] 0 [.int .i64 2] [] 0 (.int .i64 2) := run0_fs (by kernel_rfl)
theorem least4 : Fsp Try.prog 44 [] 0 [.int .i64 4] [] 0 (.int .i64 0) := run0_fs (by kernel_rfl)
theorem least2 : Fsp Try.prog 44 [] 0 [.int .i64 2] [] 0 (.int .i64 0) := run0_fs (by kernel_rfl)
theorem most4 : Fsp Try.prog 45 [] 0 [.int .i64 4] [] 0 (.int .i64 4294967295) := run0_fs (by kernel_rfl)
theorem most2 : Fsp Try.prog 45 [] 0 [.int .i64 2] [] 0 (.int .i64 65535) := run0_fs (by kernel_rfl)
theorem turned4 (a b c d : UInt8) : Fsp Try.prog 47 [] 0 [.str [a, b, c, d]] [] 0 (.str [d, c, b, a]) := run0_fs (by kernel_rfl)
theorem turned2 (a b : UInt8) : Fsp Try.prog 47 [] 0 [.str [a, b]] [] 0 (.str [b, a]) := run0_fs (by kernel_rfl)
end Go.Proofs.Lk
