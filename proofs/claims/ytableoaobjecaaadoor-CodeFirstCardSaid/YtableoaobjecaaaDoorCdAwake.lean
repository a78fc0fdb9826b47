/- The closed part awake() of the laws of layer 3: it tells true. -/
import Derived.Test.YtableoaobjecaaaDoorCdTab
namespace Go.Proofs.Cd
open Go.Pv
theorem awake_fs : Fsp Tryd.prog 17 [] 0 [] [] 0 (.bool true) := ranTrue mixed cl2_ok (wbf := fun f => Nat.beq f 43 || Nat.beq f 63) (n := 60) (d := 10) (by kernel_rfl)
def cl3 : Cl := orCl (fnCl 17 (nullary (.bool true))) cl2
theorem cl3_ok : cl3.Ok Tryd.prog := orCl_ok (nullary_ok awake_fs) cl2_ok
end Go.Proofs.Cd
