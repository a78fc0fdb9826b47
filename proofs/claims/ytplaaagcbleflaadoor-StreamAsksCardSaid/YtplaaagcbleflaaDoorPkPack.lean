/- The requests' forms: the tables, each run by the kernel. -/
import Derived.Test.YtplaaagcbleflaaDoorPkPut
import Derived.Test.YtplaaagcbleflaaDoorPvYb
set_option maxRecDepth 100000
set_option linter.unusedSimpArgs false
set_option linter.unusedVariables false
namespace Go.Proofs.Sh
open Go.Pv

def earlyT : PV := .agg [.str [], .str [], .str [], .str [99, 114, 101, 97, 116, 101, 45, 119, 105, 110, 100, 111, 119], .str [105, 100, 52, 32, 112, 97, 114, 101, 110, 116, 52, 32, 120, 45, 50, 32, 121, 45, 50, 32, 119, 50, 32, 104, 50, 32, 98, 97, 99, 107, 49, 32, 98, 97, 99, 107, 105, 110, 103, 49, 32, 111, 118, 101, 114, 114, 105, 100, 101, 49], .str [], .str [100, 101, 115, 116, 114, 111, 121, 45, 119, 105, 110, 100, 111, 119], .str [105, 100, 52], .str [], .str [109, 97, 112, 45, 119, 105, 110, 100, 111, 119], .str [105, 100, 52], .str [], .str [117, 110, 109, 97, 112, 45, 119, 105, 110, 100, 111, 119], .str [105, 100, 52], .str [], .str [99, 111, 110, 102, 105, 103, 117, 114, 101, 45, 119, 105, 110, 100, 111, 119], .str [105, 100, 52, 32, 109, 97, 115, 107, 49, 32, 120, 45, 50, 32, 121, 45, 50, 32, 119, 50, 32, 104, 50, 32, 115, 105, 98, 108, 105, 110, 103, 52, 32, 109, 111, 100, 101, 49], .str [], .str [114, 101, 112, 97, 114, 101, 110, 116, 45, 119, 105, 110, 100, 111, 119], .str [105, 100, 52, 32, 112, 97, 114, 101, 110, 116, 52, 32, 120, 45, 50, 32, 121, 45, 50], .str [], .str [99, 104, 97, 110, 103, 101, 45, 119, 105, 110, 100, 111, 119], .str [105, 100, 52, 32, 109, 97, 115, 107, 50, 32, 98, 97, 99, 107, 49, 32, 103, 114, 97, 118, 105, 116, 121, 49, 32, 98, 105, 116, 115, 49, 32, 111, 118, 101, 114, 114, 105, 100, 101, 49, 32, 115, 116, 111, 112, 52, 32, 101, 118, 101, 110, 116, 115, 52], .str [], .str [115, 104, 97, 112, 101, 45, 119, 105, 110, 100, 111, 119], .str [105, 100, 52, 32, 115, 104, 97, 112, 101, 100, 49, 32, 76, 45, 50], .str [], .str [103, 101, 116, 45, 103, 101, 111, 109, 101, 116, 114, 121], .str [105, 100, 52], .str [112, 97, 114, 101, 110, 116, 52, 32, 120, 45, 50, 32, 121, 45, 50, 32, 119, 50, 32, 104, 50, 32, 109, 97, 112, 112, 101, 100, 49, 32, 118, 105, 101, 119, 97, 98, 108, 101, 49], .str [113, 117, 101, 114, 121, 45, 116, 114, 101, 101], .str [105, 100, 52], .str [112, 97, 114, 101, 110, 116, 52, 32, 76, 52], .str [105, 110, 116, 101, 114, 110, 45, 97, 116, 111, 109], .str [111, 110, 108, 121, 49, 32, 66], .str [97, 116, 111, 109, 52], .str [97, 116, 111, 109, 45, 110, 97, 109, 101], .str [97, 116, 111, 109, 52], .str [66], .str [99, 104, 97, 110, 103, 101, 45, 112, 114, 111, 112, 101, 114, 116, 121], .str [105, 100, 52, 32, 110, 97, 109, 101, 52, 32, 116, 121, 112, 101, 52, 32, 102, 111, 114, 109, 97, 116, 49, 32, 109, 111, 100, 101, 49, 32, 76, 52], .str [], .str [100, 101, 108, 101, 116, 101, 45, 112, 114, 111, 112, 101, 114, 116, 121], .str [105, 100, 52, 32, 110, 97, 109, 101, 52], .str [], .str [103, 101, 116, 45, 112, 114, 111, 112, 101, 114, 116, 121], .str [105, 100, 52, 32, 110, 97, 109, 101, 52, 32, 116, 121, 112, 101, 52, 32, 111, 102, 102, 115, 101, 116, 52, 32, 108, 101, 110, 103, 116, 104, 52, 32, 114, 101, 109, 111, 118, 101, 49], .str [116, 121, 112, 101, 52, 32, 102, 111, 114, 109, 97, 116, 49, 32, 108, 101, 102, 116, 52, 32, 76, 52], .str [108, 105, 115, 116, 45, 112, 114, 111, 112, 101, 114, 116, 105, 101, 115], .str [105, 100, 52], .str [76, 52], .str [99, 114, 101, 97, 116, 101, 45, 112, 105, 120, 109, 97, 112], .str [105, 100, 52, 32, 119, 50, 32, 104, 50, 32, 102, 105, 108, 108, 49], .str [], .str [102, 114, 101, 101, 45, 112, 105, 120, 109, 97, 112], .str [105, 100, 52], .str [], .str [99, 114, 101, 97, 116, 101, 45, 112, 101, 110], .str [105, 100, 52], .str [], .str [99, 104, 97, 110, 103, 101, 45, 112, 101, 110], .str [105, 100, 52, 32, 109, 97, 115, 107, 49, 32, 102, 117, 110, 99, 49, 32, 112, 108, 97, 110, 101, 115, 49, 32, 102, 111, 114, 101, 49, 32, 98, 97, 99, 107, 49, 32, 102, 111, 110, 116, 52], .str [], .str [99, 108, 105, 112, 45, 112, 101, 110], .str [105, 100, 52, 32, 120, 45, 50, 32, 121, 45, 50, 32, 99, 108, 105, 112, 112, 101, 100, 49, 32, 76, 45, 50], .str [], .str [102, 114, 101, 101, 45, 112, 101, 110], .str [105, 100, 52], .str [], .str [111, 112, 101, 110, 45, 102, 111, 110, 116], .str [105, 100, 52, 32, 66], .str [], .str [99, 108, 111, 115, 101, 45, 102, 111, 110, 116], .str [105, 100, 52], .str [], .str [113, 117, 101, 114, 121, 45, 102, 111, 110, 116], .str [105, 100, 52], .str [97, 115, 99, 101, 110, 116, 49, 32, 100, 101, 115, 99, 101, 110, 116, 49, 32, 76, 49], .str [99, 108, 101, 97, 114, 45, 97, 114, 101, 97], .str [105, 100, 52, 32, 120, 45, 50, 32, 121, 45, 50, 32, 119, 50, 32, 104, 50, 32, 101, 120, 112, 111, 115, 101, 49], .str [], .str [99, 111, 112, 121, 45, 97, 114, 101, 97], .str [115, 114, 99, 52, 32, 100, 115, 116, 52, 32, 112, 101, 110, 52, 32, 115, 120, 45, 50, 32, 115, 121, 45, 50, 32, 100, 120, 45, 50, 32, 100, 121, 45, 50, 32, 119, 50, 32, 104, 50, 32, 101, 120, 112, 111, 115, 101, 49], .str [], .str [100, 114, 97, 119, 45, 112, 111, 105, 110, 116, 115], .str [100, 115, 116, 52, 32, 112, 101, 110, 52, 32, 76, 45, 50], .str [], .str [100, 114, 97, 119, 45, 108, 105, 110, 101, 115], .str [100, 115, 116, 52, 32, 112, 101, 110, 52, 32, 76, 45, 50], .str []]
def lateT : PV := .agg [.str [], .str [], .str [], .str [], .str [], .str [], .str [], .str [], .str [], .str [], .str [], .str [], .str [], .str [], .str [], .str [], .str [], .str [], .str [], .str [], .str [], .str [], .str [], .str [], .str [], .str [], .str [], .str [], .str [], .str [], .str [], .str [], .str [], .str [], .str [], .str [], .str [], .str [], .str [], .str [], .str [], .str [], .str [], .str [], .str [], .str [], .str [], .str [], .str [], .str [], .str [], .str [], .str [], .str [], .str [], .str [], .str [], .str [], .str [], .str [], .str [], .str [], .str [], .str [], .str [], .str [], .str [], .str [], .str [], .str [], .str [], .str [], .str [], .str [], .str [], .str [], .str [], .str [], .str [], .str [], .str [], .str [], .str [], .str [], .str [], .str [], .str [], .str [], .str [], .str [], .str [102, 105, 108, 108, 45, 114, 101, 99, 116, 115], .str [100, 115, 116, 52, 32, 112, 101, 110, 52, 32, 76, 45, 50], .str [], .str [102, 105, 108, 108, 45, 112, 111, 108, 121], .str [100, 115, 116, 52, 32, 112, 101, 110, 52, 32, 114, 117, 108, 101, 49, 32, 76, 45, 50], .str [], .str [100, 114, 97, 119, 45, 97, 114, 99, 115], .str [100, 115, 116, 52, 32, 112, 101, 110, 52, 32, 76, 45, 50], .str [], .str [102, 105, 108, 108, 45, 97, 114, 99, 115], .str [100, 115, 116, 52, 32, 112, 101, 110, 52, 32, 76, 45, 50], .str [], .str [112, 117, 116, 45, 105, 109, 97, 103, 101], .str [100, 115, 116, 52, 32, 112, 101, 110, 52, 32, 120, 45, 50, 32, 121, 45, 50, 32, 119, 50, 32, 104, 50, 32, 66], .str [], .str [103, 101, 116, 45, 105, 109, 97, 103, 101], .str [115, 114, 99, 52, 32, 120, 45, 50, 32, 121, 45, 50, 32, 119, 50, 32, 104, 50], .str [119, 50, 32, 104, 50, 32, 66], .str [100, 114, 97, 119, 45, 116, 101, 120, 116], .str [100, 115, 116, 52, 32, 112, 101, 110, 52, 32, 120, 45, 50, 32, 121, 45, 50, 32, 111, 112, 97, 113, 117, 101, 49, 32, 66], .str [], .str [115, 101, 116, 45, 102, 111, 99, 117, 115], .str [105, 100, 52, 32, 114, 101, 118, 101, 114, 116, 49, 32, 116, 105, 109, 101, 52], .str [], .str [103, 101, 116, 45, 102, 111, 99, 117, 115], .str [], .str [105, 100, 52, 32, 114, 101, 118, 101, 114, 116, 49], .str [103, 114, 97, 98, 45, 112, 111, 105, 110, 116, 101, 114], .str [105, 100, 52, 32, 111, 119, 110, 101, 114, 49, 32, 101, 118, 101, 110, 116, 115, 52, 32, 112, 111, 105, 110, 116, 101, 114, 49, 32, 107, 101, 121, 98, 111, 97, 114, 100, 49, 32, 116, 105, 109, 101, 52], .str [115, 116, 97, 116, 117, 115, 49], .str [117, 110, 103, 114, 97, 98, 45, 112, 111, 105, 110, 116, 101, 114], .str [116, 105, 109, 101, 52], .str [], .str [103, 114, 97, 98, 45, 98, 117, 116, 116, 111, 110], .str [105, 100, 52, 32, 98, 117, 116, 116, 111, 110, 49, 32, 109, 111, 100, 115, 50, 32, 111, 119, 110, 101, 114, 49, 32, 101, 118, 101, 110, 116, 115, 52, 32, 112, 111, 105, 110, 116, 101, 114, 49, 32, 107, 101, 121, 98, 111, 97, 114, 100, 49], .str [], .str [117, 110, 103, 114, 97, 98, 45, 98, 117, 116, 116, 111, 110], .str [105, 100, 52, 32, 98, 117, 116, 116, 111, 110, 49, 32, 109, 111, 100, 115, 50], .str [], .str [103, 114, 97, 98, 45, 107, 101, 121, 98, 111, 97, 114, 100], .str [105, 100, 52, 32, 111, 119, 110, 101, 114, 49, 32, 112, 111, 105, 110, 116, 101, 114, 49, 32, 107, 101, 121, 98, 111, 97, 114, 100, 49, 32, 116, 105, 109, 101, 52], .str [115, 116, 97, 116, 117, 115, 49], .str [117, 110, 103, 114, 97, 98, 45, 107, 101, 121, 98, 111, 97, 114, 100], .str [116, 105, 109, 101, 52], .str [], .str [103, 114, 97, 98, 45, 107, 101, 121], .str [105, 100, 52, 32, 107, 101, 121, 49, 32, 109, 111, 100, 115, 50, 32, 111, 119, 110, 101, 114, 49, 32, 112, 111, 105, 110, 116, 101, 114, 49, 32, 107, 101, 121, 98, 111, 97, 114, 100, 49], .str [], .str [117, 110, 103, 114, 97, 98, 45, 107, 101, 121], .str [105, 100, 52, 32, 107, 101, 121, 49, 32, 109, 111, 100, 115, 50], .str [], .str [97, 108, 108, 111, 119, 45, 101, 118, 101, 110, 116, 115], .str [109, 111, 100, 101, 49, 32, 116, 105, 109, 101, 52], .str [], .str [113, 117, 101, 114, 121, 45, 112, 111, 105, 110, 116, 101, 114], .str [105, 100, 52], .str [99, 104, 105, 108, 100, 52, 32, 114, 111, 111, 116, 120, 45, 50, 32, 114, 111, 111, 116, 121, 45, 50, 32, 120, 45, 50, 32, 121, 45, 50, 32, 115, 116, 97, 116, 101, 50], .str [119, 97, 114, 112, 45, 112, 111, 105, 110, 116, 101, 114], .str [105, 100, 52, 32, 120, 45, 50, 32, 121, 45, 50], .str [], .str [115, 101, 116, 45, 115, 101, 108, 101, 99, 116, 105, 111, 110], .str [105, 100, 52, 32, 115, 101, 108, 101, 99, 116, 105, 111, 110, 52, 32, 116, 105, 109, 101, 52], .str [], .str [103, 101, 116, 45, 115, 101, 108, 101, 99, 116, 105, 111, 110], .str [115, 101, 108, 101, 99, 116, 105, 111, 110, 52], .str [105, 100, 52], .str [99, 111, 110, 118, 101, 114, 116, 45, 115, 101, 108, 101, 99, 116, 105, 111, 110], .str [114, 101, 113, 117, 101, 115, 116, 111, 114, 52, 32, 115, 101, 108, 101, 99, 116, 105, 111, 110, 52, 32, 116, 97, 114, 103, 101, 116, 52, 32, 112, 114, 111, 112, 101, 114, 116, 121, 52, 32, 116, 105, 109, 101, 52], .str [], .str [115, 101, 110, 100, 45, 101, 118, 101, 110, 116], .str [105, 100, 52, 32, 112, 97, 115, 115, 49, 32, 101, 118, 101, 110, 116, 115, 52, 32, 99, 111, 100, 101, 49, 32, 76, 52], .str [], .str [115, 97, 118, 101, 45, 119, 105, 110, 100, 111, 119], .str [105, 100, 52, 32, 109, 111, 100, 101, 49], .str [], .str [107, 105, 108, 108, 45, 99, 108, 105, 101, 110, 116], .str [105, 100, 52], .str [], .str [103, 114, 97, 98, 45, 115, 101, 114, 118, 101, 114], .str [], .str [], .str [117, 110, 103, 114, 97, 98, 45, 115, 101, 114, 118, 101, 114], .str [], .str [], .str [110, 111, 45, 111, 112], .str [], .str []]
theorem early_fs : Fsp Tryd.prog 75 [] 0 [] [] 0 earlyT := ranIsU mixed anyCl_ok (wbf := fun f => Nat.beq f 77 || Nat.beq f 86) (n := 60) (d := 10) (by kernel_rfl)
theorem late_fs : Fsp Tryd.prog 76 [] 0 [] [] 0 lateT := ranIsU mixed anyCl_ok (wbf := fun f => Nat.beq f 77 || Nat.beq f 86) (n := 60) (d := 10) (by kernel_rfl)
def cl1 : Cl := orCl anyCl (orCl fldCl (orCl (fnCl 75 (nullary earlyT)) (fnCl 76 (nullary lateT))))
theorem cl1_ok : cl1.Ok Tryd.prog := orCl_ok anyCl_ok (orCl_ok fldCl_ok (orCl_ok (nullary_ok early_fs) (nullary_ok late_fs)))
def reqT : List PV :=
  [.agg [.str [], .str [], .str []],
   .agg [.str [99, 114, 101, 97, 116, 101, 45, 119, 105, 110, 100, 111, 119], .str [105, 100, 52, 32, 112, 97, 114, 101, 110, 116, 52, 32, 120, 45, 50, 32, 121, 45, 50, 32, 119, 50, 32, 104, 50, 32, 98, 97, 99, 107, 49, 32, 98, 97, 99, 107, 105, 110, 103, 49, 32, 111, 118, 101, 114, 114, 105, 100, 101, 49], .str []],
   .agg [.str [100, 101, 115, 116, 114, 111, 121, 45, 119, 105, 110, 100, 111, 119], .str [105, 100, 52], .str []],
   .agg [.str [109, 97, 112, 45, 119, 105, 110, 100, 111, 119], .str [105, 100, 52], .str []],
   .agg [.str [117, 110, 109, 97, 112, 45, 119, 105, 110, 100, 111, 119], .str [105, 100, 52], .str []],
   .agg [.str [99, 111, 110, 102, 105, 103, 117, 114, 101, 45, 119, 105, 110, 100, 111, 119], .str [105, 100, 52, 32, 109, 97, 115, 107, 49, 32, 120, 45, 50, 32, 121, 45, 50, 32, 119, 50, 32, 104, 50, 32, 115, 105, 98, 108, 105, 110, 103, 52, 32, 109, 111, 100, 101, 49], .str []],
   .agg [.str [114, 101, 112, 97, 114, 101, 110, 116, 45, 119, 105, 110, 100, 111, 119], .str [105, 100, 52, 32, 112, 97, 114, 101, 110, 116, 52, 32, 120, 45, 50, 32, 121, 45, 50], .str []],
   .agg [.str [99, 104, 97, 110, 103, 101, 45, 119, 105, 110, 100, 111, 119], .str [105, 100, 52, 32, 109, 97, 115, 107, 50, 32, 98, 97, 99, 107, 49, 32, 103, 114, 97, 118, 105, 116, 121, 49, 32, 98, 105, 116, 115, 49, 32, 111, 118, 101, 114, 114, 105, 100, 101, 49, 32, 115, 116, 111, 112, 52, 32, 101, 118, 101, 110, 116, 115, 52], .str []],
   .agg [.str [115, 104, 97, 112, 101, 45, 119, 105, 110, 100, 111, 119], .str [105, 100, 52, 32, 115, 104, 97, 112, 101, 100, 49, 32, 76, 45, 50], .str []],
   .agg [.str [103, 101, 116, 45, 103, 101, 111, 109, 101, 116, 114, 121], .str [105, 100, 52], .str [112, 97, 114, 101, 110, 116, 52, 32, 120, 45, 50, 32, 121, 45, 50, 32, 119, 50, 32, 104, 50, 32, 109, 97, 112, 112, 101, 100, 49, 32, 118, 105, 101, 119, 97, 98, 108, 101, 49]],
   .agg [.str [113, 117, 101, 114, 121, 45, 116, 114, 101, 101], .str [105, 100, 52], .str [112, 97, 114, 101, 110, 116, 52, 32, 76, 52]],
   .agg [.str [105, 110, 116, 101, 114, 110, 45, 97, 116, 111, 109], .str [111, 110, 108, 121, 49, 32, 66], .str [97, 116, 111, 109, 52]],
   .agg [.str [97, 116, 111, 109, 45, 110, 97, 109, 101], .str [97, 116, 111, 109, 52], .str [66]],
   .agg [.str [99, 104, 97, 110, 103, 101, 45, 112, 114, 111, 112, 101, 114, 116, 121], .str [105, 100, 52, 32, 110, 97, 109, 101, 52, 32, 116, 121, 112, 101, 52, 32, 102, 111, 114, 109, 97, 116, 49, 32, 109, 111, 100, 101, 49, 32, 76, 52], .str []],
   .agg [.str [100, 101, 108, 101, 116, 101, 45, 112, 114, 111, 112, 101, 114, 116, 121], .str [105, 100, 52, 32, 110, 97, 109, 101, 52], .str []],
   .agg [.str [103, 101, 116, 45, 112, 114, 111, 112, 101, 114, 116, 121], .str [105, 100, 52, 32, 110, 97, 109, 101, 52, 32, 116, 121, 112, 101, 52, 32, 111, 102, 102, 115, 101, 116, 52, 32, 108, 101, 110, 103, 116, 104, 52, 32, 114, 101, 109, 111, 118, 101, 49], .str [116, 121, 112, 101, 52, 32, 102, 111, 114, 109, 97, 116, 49, 32, 108, 101, 102, 116, 52, 32, 76, 52]],
   .agg [.str [108, 105, 115, 116, 45, 112, 114, 111, 112, 101, 114, 116, 105, 101, 115], .str [105, 100, 52], .str [76, 52]],
   .agg [.str [99, 114, 101, 97, 116, 101, 45, 112, 105, 120, 109, 97, 112], .str [105, 100, 52, 32, 119, 50, 32, 104, 50, 32, 102, 105, 108, 108, 49], .str []],
   .agg [.str [102, 114, 101, 101, 45, 112, 105, 120, 109, 97, 112], .str [105, 100, 52], .str []],
   .agg [.str [99, 114, 101, 97, 116, 101, 45, 112, 101, 110], .str [105, 100, 52], .str []],
   .agg [.str [99, 104, 97, 110, 103, 101, 45, 112, 101, 110], .str [105, 100, 52, 32, 109, 97, 115, 107, 49, 32, 102, 117, 110, 99, 49, 32, 112, 108, 97, 110, 101, 115, 49, 32, 102, 111, 114, 101, 49, 32, 98, 97, 99, 107, 49, 32, 102, 111, 110, 116, 52], .str []],
   .agg [.str [99, 108, 105, 112, 45, 112, 101, 110], .str [105, 100, 52, 32, 120, 45, 50, 32, 121, 45, 50, 32, 99, 108, 105, 112, 112, 101, 100, 49, 32, 76, 45, 50], .str []],
   .agg [.str [102, 114, 101, 101, 45, 112, 101, 110], .str [105, 100, 52], .str []],
   .agg [.str [111, 112, 101, 110, 45, 102, 111, 110, 116], .str [105, 100, 52, 32, 66], .str []],
   .agg [.str [99, 108, 111, 115, 101, 45, 102, 111, 110, 116], .str [105, 100, 52], .str []],
   .agg [.str [113, 117, 101, 114, 121, 45, 102, 111, 110, 116], .str [105, 100, 52], .str [97, 115, 99, 101, 110, 116, 49, 32, 100, 101, 115, 99, 101, 110, 116, 49, 32, 76, 49]],
   .agg [.str [99, 108, 101, 97, 114, 45, 97, 114, 101, 97], .str [105, 100, 52, 32, 120, 45, 50, 32, 121, 45, 50, 32, 119, 50, 32, 104, 50, 32, 101, 120, 112, 111, 115, 101, 49], .str []],
   .agg [.str [99, 111, 112, 121, 45, 97, 114, 101, 97], .str [115, 114, 99, 52, 32, 100, 115, 116, 52, 32, 112, 101, 110, 52, 32, 115, 120, 45, 50, 32, 115, 121, 45, 50, 32, 100, 120, 45, 50, 32, 100, 121, 45, 50, 32, 119, 50, 32, 104, 50, 32, 101, 120, 112, 111, 115, 101, 49], .str []],
   .agg [.str [100, 114, 97, 119, 45, 112, 111, 105, 110, 116, 115], .str [100, 115, 116, 52, 32, 112, 101, 110, 52, 32, 76, 45, 50], .str []],
   .agg [.str [100, 114, 97, 119, 45, 108, 105, 110, 101, 115], .str [100, 115, 116, 52, 32, 112, 101, 110, 52, 32, 76, 45, 50], .str []],
   .agg [.str [102, 105, 108, 108, 45, 114, 101, 99, 116, 115], .str [100, 115, 116, 52, 32, 112, 101, 110, 52, 32, 76, 45, 50], .str []],
   .agg [.str [102, 105, 108, 108, 45, 112, 111, 108, 121], .str [100, 115, 116, 52, 32, 112, 101, 110, 52, 32, 114, 117, 108, 101, 49, 32, 76, 45, 50], .str []],
   .agg [.str [100, 114, 97, 119, 45, 97, 114, 99, 115], .str [100, 115, 116, 52, 32, 112, 101, 110, 52, 32, 76, 45, 50], .str []],
   .agg [.str [102, 105, 108, 108, 45, 97, 114, 99, 115], .str [100, 115, 116, 52, 32, 112, 101, 110, 52, 32, 76, 45, 50], .str []],
   .agg [.str [112, 117, 116, 45, 105, 109, 97, 103, 101], .str [100, 115, 116, 52, 32, 112, 101, 110, 52, 32, 120, 45, 50, 32, 121, 45, 50, 32, 119, 50, 32, 104, 50, 32, 66], .str []],
   .agg [.str [103, 101, 116, 45, 105, 109, 97, 103, 101], .str [115, 114, 99, 52, 32, 120, 45, 50, 32, 121, 45, 50, 32, 119, 50, 32, 104, 50], .str [119, 50, 32, 104, 50, 32, 66]],
   .agg [.str [100, 114, 97, 119, 45, 116, 101, 120, 116], .str [100, 115, 116, 52, 32, 112, 101, 110, 52, 32, 120, 45, 50, 32, 121, 45, 50, 32, 111, 112, 97, 113, 117, 101, 49, 32, 66], .str []],
   .agg [.str [115, 101, 116, 45, 102, 111, 99, 117, 115], .str [105, 100, 52, 32, 114, 101, 118, 101, 114, 116, 49, 32, 116, 105, 109, 101, 52], .str []],
   .agg [.str [103, 101, 116, 45, 102, 111, 99, 117, 115], .str [], .str [105, 100, 52, 32, 114, 101, 118, 101, 114, 116, 49]],
   .agg [.str [103, 114, 97, 98, 45, 112, 111, 105, 110, 116, 101, 114], .str [105, 100, 52, 32, 111, 119, 110, 101, 114, 49, 32, 101, 118, 101, 110, 116, 115, 52, 32, 112, 111, 105, 110, 116, 101, 114, 49, 32, 107, 101, 121, 98, 111, 97, 114, 100, 49, 32, 116, 105, 109, 101, 52], .str [115, 116, 97, 116, 117, 115, 49]],
   .agg [.str [117, 110, 103, 114, 97, 98, 45, 112, 111, 105, 110, 116, 101, 114], .str [116, 105, 109, 101, 52], .str []],
   .agg [.str [103, 114, 97, 98, 45, 98, 117, 116, 116, 111, 110], .str [105, 100, 52, 32, 98, 117, 116, 116, 111, 110, 49, 32, 109, 111, 100, 115, 50, 32, 111, 119, 110, 101, 114, 49, 32, 101, 118, 101, 110, 116, 115, 52, 32, 112, 111, 105, 110, 116, 101, 114, 49, 32, 107, 101, 121, 98, 111, 97, 114, 100, 49], .str []],
   .agg [.str [117, 110, 103, 114, 97, 98, 45, 98, 117, 116, 116, 111, 110], .str [105, 100, 52, 32, 98, 117, 116, 116, 111, 110, 49, 32, 109, 111, 100, 115, 50], .str []],
   .agg [.str [103, 114, 97, 98, 45, 107, 101, 121, 98, 111, 97, 114, 100], .str [105, 100, 52, 32, 111, 119, 110, 101, 114, 49, 32, 112, 111, 105, 110, 116, 101, 114, 49, 32, 107, 101, 121, 98, 111, 97, 114, 100, 49, 32, 116, 105, 109, 101, 52], .str [115, 116, 97, 116, 117, 115, 49]],
   .agg [.str [117, 110, 103, 114, 97, 98, 45, 107, 101, 121, 98, 111, 97, 114, 100], .str [116, 105, 109, 101, 52], .str []],
   .agg [.str [103, 114, 97, 98, 45, 107, 101, 121], .str [105, 100, 52, 32, 107, 101, 121, 49, 32, 109, 111, 100, 115, 50, 32, 111, 119, 110, 101, 114, 49, 32, 112, 111, 105, 110, 116, 101, 114, 49, 32, 107, 101, 121, 98, 111, 97, 114, 100, 49], .str []],
   .agg [.str [117, 110, 103, 114, 97, 98, 45, 107, 101, 121], .str [105, 100, 52, 32, 107, 101, 121, 49, 32, 109, 111, 100, 115, 50], .str []],
   .agg [.str [97, 108, 108, 111, 119, 45, 101, 118, 101, 110, 116, 115], .str [109, 111, 100, 101, 49, 32, 116, 105, 109, 101, 52], .str []],
   .agg [.str [113, 117, 101, 114, 121, 45, 112, 111, 105, 110, 116, 101, 114], .str [105, 100, 52], .str [99, 104, 105, 108, 100, 52, 32, 114, 111, 111, 116, 120, 45, 50, 32, 114, 111, 111, 116, 121, 45, 50, 32, 120, 45, 50, 32, 121, 45, 50, 32, 115, 116, 97, 116, 101, 50]],
   .agg [.str [119, 97, 114, 112, 45, 112, 111, 105, 110, 116, 101, 114], .str [105, 100, 52, 32, 120, 45, 50, 32, 121, 45, 50], .str []],
   .agg [.str [115, 101, 116, 45, 115, 101, 108, 101, 99, 116, 105, 111, 110], .str [105, 100, 52, 32, 115, 101, 108, 101, 99, 116, 105, 111, 110, 52, 32, 116, 105, 109, 101, 52], .str []],
   .agg [.str [103, 101, 116, 45, 115, 101, 108, 101, 99, 116, 105, 111, 110], .str [115, 101, 108, 101, 99, 116, 105, 111, 110, 52], .str [105, 100, 52]],
   .agg [.str [99, 111, 110, 118, 101, 114, 116, 45, 115, 101, 108, 101, 99, 116, 105, 111, 110], .str [114, 101, 113, 117, 101, 115, 116, 111, 114, 52, 32, 115, 101, 108, 101, 99, 116, 105, 111, 110, 52, 32, 116, 97, 114, 103, 101, 116, 52, 32, 112, 114, 111, 112, 101, 114, 116, 121, 52, 32, 116, 105, 109, 101, 52], .str []],
   .agg [.str [115, 101, 110, 100, 45, 101, 118, 101, 110, 116], .str [105, 100, 52, 32, 112, 97, 115, 115, 49, 32, 101, 118, 101, 110, 116, 115, 52, 32, 99, 111, 100, 101, 49, 32, 76, 52], .str []],
   .agg [.str [115, 97, 118, 101, 45, 119, 105, 110, 100, 111, 119], .str [105, 100, 52, 32, 109, 111, 100, 101, 49], .str []],
   .agg [.str [107, 105, 108, 108, 45, 99, 108, 105, 101, 110, 116], .str [105, 100, 52], .str []],
   .agg [.str [103, 114, 97, 98, 45, 115, 101, 114, 118, 101, 114], .str [], .str []],
   .agg [.str [117, 110, 103, 114, 97, 98, 45, 115, 101, 114, 118, 101, 114], .str [], .str []],
   .agg [.str [110, 111, 45, 111, 112], .str [], .str []]]
theorem reqT_ok : (fnCl 53 (atInt reqT)).Ok Tryd.prog := atInt_ok mixed cl1_ok (wbf := fun f => Nat.beq f 77 || Nat.beq f 86) (n := 60) (d := 10) (by kernel_rfl)
def cl2 : Cl := orCl anyCl (orCl fldCl (fnCl 53 (atInt reqT)))
theorem cl2_ok : cl2.Ok Tryd.prog := orCl_ok anyCl_ok (orCl_ok fldCl_ok reqT_ok)
/-- The forms of the requests' fields, from 1 on. -/
def formL : List Fm :=
  [⟨[4, 4, (-2), (-2), 2, 2, 1, 1, 1], false, 0⟩,
   ⟨[4], false, 0⟩,
   ⟨[4], false, 0⟩,
   ⟨[4], false, 0⟩,
   ⟨[4, 1, (-2), (-2), 2, 2, 4, 1], false, 0⟩,
   ⟨[4, 4, (-2), (-2)], false, 0⟩,
   ⟨[4, 2, 1, 1, 1, 1, 4, 4], false, 0⟩,
   ⟨[4, 1], false, (-2)⟩,
   ⟨[4], false, 0⟩,
   ⟨[4], false, 0⟩,
   ⟨[1], true, 0⟩,
   ⟨[4], false, 0⟩,
   ⟨[4, 4, 4, 1, 1], false, 4⟩,
   ⟨[4, 4], false, 0⟩,
   ⟨[4, 4, 4, 4, 4, 1], false, 0⟩,
   ⟨[4], false, 0⟩,
   ⟨[4, 2, 2, 1], false, 0⟩,
   ⟨[4], false, 0⟩,
   ⟨[4], false, 0⟩,
   ⟨[4, 1, 1, 1, 1, 1, 4], false, 0⟩,
   ⟨[4, (-2), (-2), 1], false, (-2)⟩,
   ⟨[4], false, 0⟩,
   ⟨[4], true, 0⟩,
   ⟨[4], false, 0⟩,
   ⟨[4], false, 0⟩,
   ⟨[4, (-2), (-2), 2, 2, 1], false, 0⟩,
   ⟨[4, 4, 4, (-2), (-2), (-2), (-2), 2, 2, 1], false, 0⟩,
   ⟨[4, 4], false, (-2)⟩,
   ⟨[4, 4], false, (-2)⟩,
   ⟨[4, 4], false, (-2)⟩,
   ⟨[4, 4, 1], false, (-2)⟩,
   ⟨[4, 4], false, (-2)⟩,
   ⟨[4, 4], false, (-2)⟩,
   ⟨[4, 4, (-2), (-2), 2, 2], true, 0⟩,
   ⟨[4, (-2), (-2), 2, 2], false, 0⟩,
   ⟨[4, 4, (-2), (-2), 1], true, 0⟩,
   ⟨[4, 1, 4], false, 0⟩,
   ⟨[], false, 0⟩,
   ⟨[4, 1, 4, 1, 1, 4], false, 0⟩,
   ⟨[4], false, 0⟩,
   ⟨[4, 1, 2, 1, 4, 1, 1], false, 0⟩,
   ⟨[4, 1, 2], false, 0⟩,
   ⟨[4, 1, 1, 1, 4], false, 0⟩,
   ⟨[4], false, 0⟩,
   ⟨[4, 1, 2, 1, 1, 1], false, 0⟩,
   ⟨[4, 1, 2], false, 0⟩,
   ⟨[1, 4], false, 0⟩,
   ⟨[4], false, 0⟩,
   ⟨[4, (-2), (-2)], false, 0⟩,
   ⟨[4, 4, 4], false, 0⟩,
   ⟨[4], false, 0⟩,
   ⟨[4, 4, 4, 4, 4], false, 0⟩,
   ⟨[4, 1, 4, 1], false, 4⟩,
   ⟨[4, 1], false, 0⟩,
   ⟨[4], false, 0⟩,
   ⟨[], false, 0⟩,
   ⟨[], false, 0⟩,
   ⟨[], false, 0⟩]
def form0 : PV := .tup [.agg [.sl 1 [], .bool false, .int .i64 0], .bool false]
def formT (f : Fm) : PV := .tup [f.pv, .bool true]
theorem formL_len : formL.length = 58 := by rfl
theorem formL_ran : ranAllF Tryd.prog cl2 (fun f => Nat.beq f 77 || Nat.beq f 86) 60 10 43 (form0 :: formL.map formT) 0 = true := by kernel_rfl
/-- A request's form. -/
def formOf (n : Int) : Option Fm := if 1 ≤ n ∧ n ≤ 58 then formL[(n - 1).toNat]? else none
def formR (n : Int) : PV := match formOf n with | some f => formT f | none => form0

theorem ez_e : aggEq Tryd.prog 104 [.str [], .str [], .str []] [.str [], .str [], .str []] = some true := by kernel_rfl
theorem kt_e : Tryd.prog.keyTypeAt 12 104 = true := by kernel_rfl
theorem eg_e : Tryd.prog.eqGuardType Tryd.prog.depth 104 = false := by kernel_rfl
theorem request_out (n : Int) (h : ¬ (1 ≤ n ∧ n ≤ 58)) : Fsp Tryd.prog 53 [] 0 [.int .i64 n] [] 0 (.agg [.str [], .str [], .str []]) := by
  rcases Int.lt_or_le n 1 with h1 | h1
  · have hd : decide (n < 1) = true := by simpa using h1
    (refine Fsp.of (nx := 0) mixed Tryd.func53 rfl (by decide) (by first | exact Nat.le_refl _ | simp) (by simp [Tryd.f53]) ⟨by decide, by decide⟩ ?_; simp -implicitDefEqProofs only [push_cast, Tryd.f53, hd, Int.reduceBEq, Int.reduceBNe, Int.reduceEq, Int.reduceNe, Int.reducePow, Nat.reduceAdd, Nat.reduceMul, Nat.reduceSub, Nat.reduceLT, Nat.reduceLeDiff, Nat.reduceEqDiff, Nat.reduceBEq, Int.reduceLT, Int.reduceLE, Int.reduceAdd, Int.reduceSub, Int.reduceMul, Int.reduceToNat, Int.reduceNeg, reduceIte, reduceCtorEq, reduceBEq])
  · have hd : decide (n < 1) = false := by simp; omega
    have hd2 : decide (58 < n) = true := by simp; omega
    (refine Fsp.of (nx := 0) mixed Tryd.func53 rfl (by decide) (by first | exact Nat.le_refl _ | simp) (by simp [Tryd.f53]) ⟨by decide, by decide⟩ ?_; simp -implicitDefEqProofs only [push_cast, Tryd.f53, hd, hd2, Int.reduceBEq, Int.reduceBNe, Int.reduceEq, Int.reduceNe, Int.reducePow, Nat.reduceAdd, Nat.reduceMul, Nat.reduceSub, Nat.reduceLT, Nat.reduceLeDiff, Nat.reduceEqDiff, Nat.reduceBEq, Int.reduceLT, Int.reduceLE, Int.reduceAdd, Int.reduceSub, Int.reduceMul, Int.reduceToNat, Int.reduceNeg, reduceIte, reduceCtorEq, reduceBEq])
theorem request_fs (n : Int) : Fsp Tryd.prog 43 [] 0 [.int .i64 n] [] 0 (formR n) := by
  by_cases h : 1 ≤ n ∧ n ≤ 58
  · obtain ⟨k, rfl⟩ : ∃ k : Nat, n = (k : Int) := ⟨n.toNat, by omega⟩
    have hlt : k - 1 < formL.length := by rw [formL_len]; omega
    have hk : (form0 :: formL.map formT)[k]? = some (formT formL[k - 1]) := by
      obtain ⟨j, rfl⟩ : ∃ j, k = j + 1 := ⟨k - 1, by omega⟩
      rw [List.getElem?_cons_succ, List.getElem?_map, List.getElem?_eq_getElem (by simpa using hlt)]
      rfl
    have := ranAllF_at mixed cl2_ok formL_ran hk
    rw [Nat.zero_add] at this
    have e : formR (k : Int) = formT formL[k - 1] := by
      have e2 : formOf (k : Int) = some formL[k - 1] := by
        rw [formOf, if_pos h, show ((k : Int) - 1).toNat = k - 1 by omega, List.getElem?_eq_getElem hlt]
      rw [formR, e2]
    rw [e]; exact this
  · have e : formR n = form0 := by rw [formR, formOf, if_neg h]
    rw [e]
    have hq := request_out n h
    (refine Fsp.of (nx := 0) mixed Tryd.func43 rfl (by decide) (by first | exact Nat.le_refl _ | simp) (by simp [Tryd.f43]) ⟨by decide, by decide⟩ ?_; simp -implicitDefEqProofs only [push_cast, Tryd.f43, Int.reduceBEq, Int.reduceBNe, Int.reduceEq, Int.reduceNe, Int.reducePow, Nat.reduceAdd, Nat.reduceMul, Nat.reduceSub, Nat.reduceLT, Nat.reduceLeDiff, Nat.reduceEqDiff, Nat.reduceBEq, Int.reduceLT, Int.reduceLE, Int.reduceAdd, Int.reduceSub, Int.reduceMul, Int.reduceToNat, Int.reduceNeg, reduceIte, reduceCtorEq, reduceBEq])
    refine callE_pure hq (by rfl) (by rfl) (by rfl) (by decide) (by rfl) (fun _ => by rfl) (by first | rfl | simp [gdOk, newToks]) ?_
    simp -implicitDefEqProofs only [push_cast, ez_e, kt_e, eg_e, Int.reduceBEq, Int.reduceBNe, Int.reduceEq, Int.reduceNe, Int.reducePow, Nat.reduceAdd, Nat.reduceMul, Nat.reduceSub, Nat.reduceLT, Nat.reduceLeDiff, Nat.reduceEqDiff, Nat.reduceBEq, Int.reduceLT, Int.reduceLE, Int.reduceAdd, Int.reduceSub, Int.reduceMul, Int.reduceToNat, Int.reduceNeg, reduceIte, reduceCtorEq, reduceBEq]
    exact ⟨_, rfl, .inr ⟨_, rfl, .inr ⟨.inl rfl, rfl⟩, rfl, rfl, trivial⟩, rfl, trivial⟩
def fmOk (f : Fm) : Bool := decide (f.F.length ≤ 16) && (f.F.all fun s => s == 1 || s == 2 || s == 4 || s == -1 || s == -2 || s == -4) && (f.L == 0 || (f.L == 1 || f.L == 2 || f.L == 4 || f.L == -1 || f.L == -2 || f.L == -4))
theorem fmOk_ok {f : Fm} (h : fmOk f = true) : f.Ok := by
  simp only [fmOk, Bool.and_eq_true, decide_eq_true_eq, List.all_eq_true, Bool.or_eq_true, beq_iff_eq] at h
  obtain ⟨⟨h1, h2⟩, h3⟩ := h
  refine ⟨h1, fun x hx => ?_, ?_⟩
  · have := h2 x hx; unfold isSize; omega
  · unfold isSize; omega
theorem formL_all : formL.all fmOk = true := by decide +kernel
theorem formOf_some {n : Int} {f : Fm} (h : formOf n = some f) : f.Ok ∧ 1 ≤ n ∧ n ≤ 58 := by
  unfold formOf at h
  split at h
  · rename_i hn
    exact ⟨fmOk_ok (List.all_eq_true.1 formL_all f (List.mem_of_getElem? h)), hn⟩
  · cases h

end Go.Proofs.Sh

/- Package pack: Put, Check. -/
set_option maxRecDepth 100000
set_option linter.unusedSimpArgs false
set_option linter.unusedVariables false
namespace Go.Proofs.Sh
open Go.Pv


/-- A request. -/
structure Rq where
  C : Int
  N : List Int
  B : List UInt8
  L : List Int
def Rq.fd (r : Rq) : Fd := ⟨r.N, r.B, r.L⟩
def Rq.pv (r : Rq) : PV := .agg [.int .i64 r.C, .sl 1 (ints r.N), .str r.B, .sl 1 (ints r.L)]
structure Rq.Few (r : Rq) : Prop where
  n : r.N.length ≤ 1000000
  b : r.B.length ≤ 1000000
  l : r.L.length ≤ 1000000
def isOrd (o : Int) : Bool := o == 0 || o == 1
theorem isOrd_of {o : Int} (h : isOrd o = true) : isOrder o := by simpa [isOrd, isOrder] using h
/-- What stands ahead of the fields. -/
def hd (o C : Int) (n : Nat) : List UInt8 := encB o 1 C ++ encB o 1 0 ++ encB o 2 (n : Int)
/-- A request's bytes, and what is wrong with it. -/
def packS (o : Int) (r : Rq) : List UInt8 × Int :=
  if isOrd o = true then
    match formOf r.C with
    | none => ([], 10)
    | some f =>
      if (fitsE f r.fd != 0) = true then ([], fitsE f r.fd)
      else if decide ((65536 : Int) < (fmt o f r.fd).length + 4) = true then ([], 4)
      else (hd o r.C ((fmt o f r.fd).length / 4 + 1) ++ fmt o f r.fd, 0)
  else ([], 8)
def packR (o : Int) (r : Rq) : PV := .tup [.str (packS o r).1, .int .i64 (packS o r).2]
theorem pknown_fs (o : Int) : Fsp Tryd.prog 42 [] 0 [.int .i64 o] [] 0 (.bool (isOrd o)) := by
  cases h0 : (o == 0)
  · (refine Fsp.of (nx := 0) mixed Tryd.func42 rfl (by decide) (by first | exact Nat.le_refl _ | simp) (by simp [Tryd.f42]) ⟨by decide, by decide⟩ ?_; simp -implicitDefEqProofs only [push_cast, Tryd.f42, h0, Int.reduceBEq, Int.reduceBNe, Int.reduceEq, Int.reduceNe, Int.reducePow, Nat.reduceAdd, Nat.reduceMul, Nat.reduceSub, Nat.reduceLT, Nat.reduceLeDiff, Nat.reduceEqDiff, Nat.reduceBEq, Int.reduceLT, Int.reduceLE, Int.reduceAdd, Int.reduceSub, Int.reduceMul, Int.reduceToNat, Int.reduceNeg, reduceIte, reduceCtorEq, reduceBEq])
    simp [isOrd, h0]
  · (refine Fsp.of (nx := 0) mixed Tryd.func42 rfl (by decide) (by first | exact Nat.le_refl _ | simp) (by simp [Tryd.f42]) ⟨by decide, by decide⟩ ?_; simp -implicitDefEqProofs only [push_cast, Tryd.f42, h0, Int.reduceBEq, Int.reduceBNe, Int.reduceEq, Int.reduceNe, Int.reducePow, Nat.reduceAdd, Nat.reduceMul, Nat.reduceSub, Nat.reduceLT, Nat.reduceLeDiff, Nat.reduceEqDiff, Nat.reduceBEq, Int.reduceLT, Int.reduceLE, Int.reduceAdd, Int.reduceSub, Int.reduceMul, Int.reduceToNat, Int.reduceNeg, reduceIte, reduceCtorEq, reduceBEq])
    simp [isOrd, h0]
theorem sum_fs (a b : List UInt8) (h : a.length + b.length ≤ 1000000000) : Fsp Tryd.prog 46 [] 0 [.sl 1 [.str a, .str b]] [] 0 (.int .i64 (a.length + b.length : Nat)) := by
  (refine Fsp.of (nx := 0) mixed Tryd.func46 rfl (by decide) (by first | exact Nat.le_refl _ | simp) (by simp [Tryd.f46]) ⟨by decide, by decide⟩ ?_; simp -implicitDefEqProofs only [push_cast, Tryd.f46, Int.reduceBEq, Int.reduceBNe, Int.reduceEq, Int.reduceNe, Int.reducePow, Nat.reduceAdd, Nat.reduceMul, Nat.reduceSub, Nat.reduceLT, Nat.reduceLeDiff, Nat.reduceEqDiff, Nat.reduceBEq, Int.reduceLT, Int.reduceLE, Int.reduceAdd, Int.reduceSub, Int.reduceMul, Int.reduceToNat, Int.reduceNeg, reduceIte, reduceCtorEq, reduceBEq])
  refine loopC_un 3 ?_
  simp -implicitDefEqProofs only [push_cast, Int.reduceBEq, Int.reduceBNe, Int.reduceEq, Int.reduceNe, Int.reducePow, Nat.reduceAdd, Nat.reduceMul, Nat.reduceSub, Nat.reduceLT, Nat.reduceLeDiff, Nat.reduceEqDiff, Nat.reduceBEq, Int.reduceLT, Int.reduceLE, Int.reduceAdd, Int.reduceSub, Int.reduceMul, Int.reduceToNat, Int.reduceNeg, reduceIte, reduceCtorEq, reduceBEq]
  rw [Int.zero_add, wrap_i64_id (n := (a.length : Int)) (by omega) (by omega), wrap_i64_id (by omega) (by omega)]
  try omega
theorem putS_2 {o : Int} {n : Nat} (h : n ≤ 65535) : putS o 2 (n : Int) = encB o 2 (n : Int) ∧ putE 2 (n : Int) = 0 := by
  have hf : fitsN 2 (n : Int) = true := by simp [fitsN, low, high]; omega
  rw [putS, putE, if_pos hf, if_pos hf]
  exact ⟨rfl, rfl⟩
theorem rowS_1 {o C : Int} (h0 : 1 ≤ C) (h1 : C ≤ 58) : rowS o C 0 = encB o 1 C ++ encB o 1 0 ∧ rowE C 0 = 0 := by
  have hf : (fitsN 1 C && fitsN 1 0) = true := by simp [fitsN, low, high]; omega
  rw [rowS, rowE, if_pos hf, if_pos hf]
  exact ⟨rfl, rfl⟩
theorem packS_some {o : Int} {r : Rq} {f : Fm} (ho : isOrd o = true) (hf : formOf r.C = some f) : packS o r =
      if (fitsE f r.fd != 0) = true then ([], fitsE f r.fd)
      else if decide ((65536 : Int) < (fmt o f r.fd).length + 4) = true then ([], 4)
      else (hd o r.C ((fmt o f r.fd).length / 4 + 1) ++ fmt o f r.fd, 0) := by
  rw [packS, if_pos ho]
  split
  · rename_i h; rw [hf] at h; cases h
  · rename_i f' h; rw [hf] at h; cases h; rfl
theorem packS_err {o : Int} {r : Rq} {f : Fm} (ho : isOrd o = true) (hf : formOf r.C = some f) (hE : (fitsE f r.fd != 0) = true) : packS o r = ([], fitsE f r.fd) := by rw [packS_some ho hf, if_pos hE]
theorem packS_big {o : Int} {r : Rq} {f : Fm} (ho : isOrd o = true) (hf : formOf r.C = some f) (hE : (fitsE f r.fd != 0) = false) (h : (65536 : Int) < (fmt o f r.fd).length + 4) : packS o r = ([], 4) := by
  rw [packS_some ho hf, if_neg (by rw [hE]; simp), if_pos (by simpa using h)]
theorem packS_ok {o : Int} {r : Rq} {f : Fm} (ho : isOrd o = true) (hf : formOf r.C = some f) (hE : (fitsE f r.fd != 0) = false) (h : (fmt o f r.fd).length + 4 ≤ 65536) :
    packS o r = (hd o r.C ((fmt o f r.fd).length / 4 + 1) ++ fmt o f r.fd, 0) := by
  rw [packS_some ho hf, if_neg (by rw [hE]; simp), if_neg (by simp; omega)]
set_option maxHeartbeats 2000000 in
theorem packPut_fs (o : Int) (r : Rq) (hr : r.Few) : Fsp Tryd.prog 31 [] 0 [.int .i64 o, r.pv] [] 0 (packR o r) := by
  have hk := pknown_fs o
  (refine Fsp.of (nx := 0) mixed Tryd.func31 rfl (by decide) (by first | exact Nat.le_refl _ | simp) (by simp [Tryd.f31]) ⟨by decide, by decide⟩ ?_; simp -implicitDefEqProofs only [push_cast, Tryd.f31, Rq.pv, Int.reduceBEq, Int.reduceBNe, Int.reduceEq, Int.reduceNe, Int.reducePow, Nat.reduceAdd, Nat.reduceMul, Nat.reduceSub, Nat.reduceLT, Nat.reduceLeDiff, Nat.reduceEqDiff, Nat.reduceBEq, Int.reduceLT, Int.reduceLE, Int.reduceAdd, Int.reduceSub, Int.reduceMul, Int.reduceToNat, Int.reduceNeg, reduceIte, reduceCtorEq, reduceBEq])
  refine callE_pure hk (by rfl) (by rfl) (by rfl) (by decide) (by rfl) (fun _ => by rfl) (by first | rfl | simp [gdOk, newToks]) ?_
  cases ho : isOrd o
  · simp -implicitDefEqProofs only [push_cast, ho, Int.reduceBEq, Int.reduceBNe, Int.reduceEq, Int.reduceNe, Int.reducePow, Nat.reduceAdd, Nat.reduceMul, Nat.reduceSub, Nat.reduceLT, Nat.reduceLeDiff, Nat.reduceEqDiff, Nat.reduceBEq, Int.reduceLT, Int.reduceLE, Int.reduceAdd, Int.reduceSub, Int.reduceMul, Int.reduceToNat, Int.reduceNeg, reduceIte, reduceCtorEq, reduceBEq]
    simp [packR, packS, ho, wkL, res2, res1, PV.weak, PV.el]
  · have hor := isOrd_of ho
    have hq := request_fs r.C
    simp -implicitDefEqProofs only [push_cast, ho, Int.reduceBEq, Int.reduceBNe, Int.reduceEq, Int.reduceNe, Int.reducePow, Nat.reduceAdd, Nat.reduceMul, Nat.reduceSub, Nat.reduceLT, Nat.reduceLeDiff, Nat.reduceEqDiff, Nat.reduceBEq, Int.reduceLT, Int.reduceLE, Int.reduceAdd, Int.reduceSub, Int.reduceMul, Int.reduceToNat, Int.reduceNeg, reduceIte, reduceCtorEq, reduceBEq]
    cases hf : formOf r.C with
    | none =>
      rw [formR, hf] at hq
      simp only [form0] at hq
      refine callE_pure hq (by rfl) (by rfl) (by rfl) (by decide) (by rfl) (fun _ => by rfl) (by first | rfl | simp [gdOk, newToks]) ?_
      simp -implicitDefEqProofs only [push_cast, Int.reduceBEq, Int.reduceBNe, Int.reduceEq, Int.reduceNe, Int.reducePow, Nat.reduceAdd, Nat.reduceMul, Nat.reduceSub, Nat.reduceLT, Nat.reduceLeDiff, Nat.reduceEqDiff, Nat.reduceBEq, Int.reduceLT, Int.reduceLE, Int.reduceAdd, Int.reduceSub, Int.reduceMul, Int.reduceToNat, Int.reduceNeg, reduceIte, reduceCtorEq, reduceBEq]
      simp [packR, packS, ho, hf, wkL, res2, res1, PV.weak, PV.el]
    | some f =>
      rw [formR, hf] at hq
      simp only [formT, Fm.pv] at hq
      obtain ⟨hok, hc1, hc2⟩ := formOf_some hf
      have hm := format_fs hor f hok r.fd hr.n hr.l hr.b
      simp only [Fm.pv, Fd.pv] at hm
      refine callE_pure hq (by rfl) (by rfl) (by rfl) (by decide) (by rfl) (fun _ => by rfl) (by first | rfl | simp [gdOk, newToks]) ?_
      simp -implicitDefEqProofs only [push_cast, Int.reduceBEq, Int.reduceBNe, Int.reduceEq, Int.reduceNe, Int.reducePow, Nat.reduceAdd, Nat.reduceMul, Nat.reduceSub, Nat.reduceLT, Nat.reduceLeDiff, Nat.reduceEqDiff, Nat.reduceBEq, Int.reduceLT, Int.reduceLE, Int.reduceAdd, Int.reduceSub, Int.reduceMul, Int.reduceToNat, Int.reduceNeg, reduceIte, reduceCtorEq, reduceBEq]
      cases hE : (fitsE f r.fd != 0)
      · cases hM : decide ((65536 : Int) < (fmt o f r.fd).length)
        · rw [fmtR, if_neg (by rw [hE]; simp), if_neg (by rw [hM]; simp)] at hm
          have hfl : (fmt o f r.fd).length ≤ 65536 := by simp at hM; omega
          have hrw := row_fs hor r.C 0
          rw [(rowS_1 hc1 hc2).1, (rowS_1 (o := o) hc1 hc2).2] at hrw
          have hr2 : (encB o 1 r.C ++ encB o 1 0).length = 2 := by simp [encB_length]
          have hsm := sum_fs (encB o 1 r.C ++ encB o 1 0) (fmt o f r.fd) (by omega)
          have hpb := packS_big ho hf hE
          have hpo := packS_ok ho hf hE
          generalize hX : fmt o f r.fd = X at *
          generalize hH : encB o 1 r.C ++ encB o 1 0 = H at *
          refine callE_pure hm (by rfl) (by rfl) (by rfl) (by decide) (by rfl) (fun _ => by rfl) (by first | rfl | simp [gdOk, newToks]) ?_
          simp -implicitDefEqProofs only [push_cast, Int.reduceBEq, Int.reduceBNe, Int.reduceEq, Int.reduceNe, Int.reducePow, Nat.reduceAdd, Nat.reduceMul, Nat.reduceSub, Nat.reduceLT, Nat.reduceLeDiff, Nat.reduceEqDiff, Nat.reduceBEq, Int.reduceLT, Int.reduceLE, Int.reduceAdd, Int.reduceSub, Int.reduceMul, Int.reduceToNat, Int.reduceNeg, reduceIte, reduceCtorEq, reduceBEq]
          refine callE_pure hrw (by rfl) (by rfl) (by rfl) (by decide) (by rfl) (fun _ => by rfl) (by first | rfl | simp [gdOk, newToks]) ?_
          simp -implicitDefEqProofs only [push_cast, Int.reduceBEq, Int.reduceBNe, Int.reduceEq, Int.reduceNe, Int.reducePow, Nat.reduceAdd, Nat.reduceMul, Nat.reduceSub, Nat.reduceLT, Nat.reduceLeDiff, Nat.reduceEqDiff, Nat.reduceBEq, Int.reduceLT, Int.reduceLE, Int.reduceAdd, Int.reduceSub, Int.reduceMul, Int.reduceToNat, Int.reduceNeg, reduceIte, reduceCtorEq, reduceBEq]
          refine callE_pure hsm (by rfl) (by rfl) (by rfl) (by decide) (by rfl) (fun _ => by rfl) (by first | rfl | simp [gdOk, newToks]) ?_
          simp -implicitDefEqProofs only [push_cast, Int.reduceBEq, Int.reduceBNe, Int.reduceEq, Int.reduceNe, Int.reducePow, Nat.reduceAdd, Nat.reduceMul, Nat.reduceSub, Nat.reduceLT, Nat.reduceLeDiff, Nat.reduceEqDiff, Nat.reduceBEq, Int.reduceLT, Int.reduceLE, Int.reduceAdd, Int.reduceSub, Int.reduceMul, Int.reduceToNat, Int.reduceNeg, reduceIte, reduceCtorEq, reduceBEq]
          rw [show IntKind.i64.wrap ((H.length : Int) + (X.length : Int) + 2) = (X.length : Int) + 4 by rw [wrap_i64_id (by omega) (by omega)]; omega]
          refine condC_split (fun h5 => ?_) (fun h5 => ?_)
          · simp -implicitDefEqProofs only [push_cast, Int.reduceBEq, Int.reduceBNe, Int.reduceEq, Int.reduceNe, Int.reducePow, Nat.reduceAdd, Nat.reduceMul, Nat.reduceSub, Nat.reduceLT, Nat.reduceLeDiff, Nat.reduceEqDiff, Nat.reduceBEq, Int.reduceLT, Int.reduceLE, Int.reduceAdd, Int.reduceSub, Int.reduceMul, Int.reduceToNat, Int.reduceNeg, reduceIte, reduceCtorEq, reduceBEq]
            rw [packR, hpb (by simpa using h5)]
            exact ⟨_, rfl, by simp [wkL, res2, res1, PV.weak, PV.el]⟩
          · have h5' : X.length + 4 ≤ 65536 := by simp at h5; omega
            have hpt := put_fs hor (s := 2) (by unfold isSize; omega) ((X.length / 4 + 1 : Nat) : Int)
            rw [(putS_2 (o := o) (n := X.length / 4 + 1) (by omega)).1, (putS_2 (o := o) (n := X.length / 4 + 1) (by omega)).2] at hpt
            have hq4 : IntKind.i64.wrap (Int.tdiv ((X.length : Int) + 4) 4) = ((X.length / 4 + 1 : Nat) : Int) := by
              rw [Int.tdiv_eq_ediv_of_nonneg (by omega), wrap_i64_id (by omega) (by omega)]; omega
            simp -implicitDefEqProofs only [push_cast, hq4, Int.reduceBEq, Int.reduceBNe, Int.reduceEq, Int.reduceNe, Int.reducePow, Nat.reduceAdd, Nat.reduceMul, Nat.reduceSub, Nat.reduceLT, Nat.reduceLeDiff, Nat.reduceEqDiff, Nat.reduceBEq, Int.reduceLT, Int.reduceLE, Int.reduceAdd, Int.reduceSub, Int.reduceMul, Int.reduceToNat, Int.reduceNeg, reduceIte, reduceCtorEq, reduceBEq]
            refine callE_pure hpt (by rfl) (by rfl) (by rfl) (by decide) (by rfl) (fun _ => by rfl) (by first | rfl | simp [gdOk, newToks]) ?_
            simp -implicitDefEqProofs only [push_cast, Int.reduceBEq, Int.reduceBNe, Int.reduceEq, Int.reduceNe, Int.reducePow, Nat.reduceAdd, Nat.reduceMul, Nat.reduceSub, Nat.reduceLT, Nat.reduceLeDiff, Nat.reduceEqDiff, Nat.reduceBEq, Int.reduceLT, Int.reduceLE, Int.reduceAdd, Int.reduceSub, Int.reduceMul, Int.reduceToNat, Int.reduceNeg, reduceIte, reduceCtorEq, reduceBEq]
            rw [packR, hpo (by omega), hd, hH, show (((X.length / 4 + 1 : Nat)) : Int) = (X.length : Int) / 4 + 1 by omega]
            have he2 := encB_length o 2 ((X.length : Int) / 4 + 1)
            (repeat (refine ⟨by first | omega | (simp only [List.length_append]; omega), ?_⟩))
            exact ⟨_, rfl, by simp [wkL, res2, res1, PV.weak, PV.el]⟩
        · rw [fmtR, if_neg (by rw [hE]; simp), if_pos hM] at hm
          have hps := packS_big ho hf hE (by simp at hM; omega)
          refine callE_pure hm (by rfl) (by rfl) (by rfl) (by decide) (by rfl) (fun _ => by rfl) (by first | rfl | simp [gdOk, newToks]) ?_
          simp -implicitDefEqProofs only [push_cast, Int.reduceBEq, Int.reduceBNe, Int.reduceEq, Int.reduceNe, Int.reducePow, Nat.reduceAdd, Nat.reduceMul, Nat.reduceSub, Nat.reduceLT, Nat.reduceLeDiff, Nat.reduceEqDiff, Nat.reduceBEq, Int.reduceLT, Int.reduceLE, Int.reduceAdd, Int.reduceSub, Int.reduceMul, Int.reduceToNat, Int.reduceNeg, reduceIte, reduceCtorEq, reduceBEq]
          rw [packR, hps]
          exact ⟨_, rfl, by simp [wkL, res2, res1, PV.weak, PV.el]⟩
      · rw [fmtR, if_pos hE] at hm
        have hps := packS_err ho hf hE
        refine callE_pure hm (by rfl) (by rfl) (by rfl) (by decide) (by rfl) (fun _ => by rfl) (by first | rfl | simp [gdOk, newToks]) ?_
        simp -implicitDefEqProofs only [push_cast, hE, Int.reduceBEq, Int.reduceBNe, Int.reduceEq, Int.reduceNe, Int.reducePow, Nat.reduceAdd, Nat.reduceMul, Nat.reduceSub, Nat.reduceLT, Nat.reduceLeDiff, Nat.reduceEqDiff, Nat.reduceBEq, Int.reduceLT, Int.reduceLE, Int.reduceAdd, Int.reduceSub, Int.reduceMul, Int.reduceToNat, Int.reduceNeg, reduceIte, reduceCtorEq, reduceBEq]
        rw [packR, hps]
        exact ⟨_, rfl, by simp [wkL, res2, res1, PV.weak, PV.el]⟩

end Go.Proofs.Sh
