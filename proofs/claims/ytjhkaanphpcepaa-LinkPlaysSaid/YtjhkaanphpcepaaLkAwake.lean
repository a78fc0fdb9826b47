/- A part of the proof. -/
import Derived.Test.YtjhkaanphpcepaaPvV
import Derived.Test.YtjhkaanphpcepaaLkShelf
namespace Go.Proofs.Lk
open Go.Pv
theorem mixed : Try.prog.follows .mixedOrders = true := by kernel_rfl
theorem clOk : (strCl 48).Ok Try.prog := strCl_ok ⟨Try.f48, Try.func48, by kernel_rfl, by kernel_rfl⟩ fun s w h => Try.stringslite_Clone s w h
theorem awake_fs : Fsp Try.prog 9 [] 0 [] [] 0 (.bool true) := ranTrue mixed clOk (wbf := fun f => Nat.beq f 33) (n := 40) (d := 10) (by kernel_rfl)
end Go.Proofs.Lk
