/- ProxyDies. -/
import Derived.Test.YtoemcdgebkkcoaaGreatDoorPxBaseZ
set_option maxRecDepth 100000
namespace Go.Proofs.Sh
open Go.Pv
theorem dies_fs : Fsp Tryz.prog 4 [] 0 [] [] 0 (.bool true) := ranTrueJ mixed orc_ok (wbf := pwb) (n := 400) (d := 60) (by kernel_rfl)
end Go.Proofs.Sh
