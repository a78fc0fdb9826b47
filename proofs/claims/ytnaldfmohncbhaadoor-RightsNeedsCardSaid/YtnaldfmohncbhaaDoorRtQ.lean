/- The requests' forms: the tables, each run by the kernel. -/
import Derived.Test.YtnaldfmohncbhaaDoorRtJ
import Derived.Test.YtnaldfmohncbhaaDoorPvYb
import Derived.Test.YtnaldfmohncbhaaDoorRtN
set_option maxRecDepth 100000
set_option linter.unusedSimpArgs false
set_option linter.unusedVariables false
namespace Go.Proofs.Sh
open Go.Pv

def earlyT : PV := .agg [.str [], .str [], .str [], .str [99, 114, 101, 97, 116, 101, 45, 119, 105, 110, 100, 111, 119], .str [105, 100, 52, 32, 112, 97, 114, 101, 110, 116, 52, 32, 120, 45, 50, 32, 121, 45, 50, 32, 119, 50, 32, 104, 50, 32, 98, 97, 99, 107, 49, 32, 98, 97, 99, 107, 105, 110, 103, 49, 32, 111, 118, 101, 114, 114, 105, 100, 101, 49], .str [], .str [100, 101, 115, 116, 114, 111, 121, 45, 119, 105, 110, 100, 111, 119], .str [105, 100, 52], .str [], .str [109, 97, 112, 45, 119, 105, 110, 100, 111, 119], .str [105, 100, 52], .str [], .str [117, 110, 109, 97, 112, 45, 119, 105, 110, 100, 111, 119], .str [105, 100, 52], .str [], .str [99, 111, 110, 102, 105, 103, 117, 114, 101, 45, 119, 105, 110, 100, 111, 119], .str [105, 100, 52, 32, 109, 97, 115, 107, 49, 32, 120, 45, 50, 32, 121, 45, 50, 32, 119, 50, 32, 104, 50, 32, 115, 105, 98, 108, 105, 110, 103, 52, 32, 109, 111, 100, 101, 49], .str [], .str [114, 101, 112, 97, 114, 101, 110, 116, 45, 119, 105, 110, 100, 111, 119], .str [105, 100, 52, 32, 112, 97, 114, 101, 110, 116, 52, 32, 120, 45, 50, 32, 121, 45, 50], .str [], .str [99, 104, 97, 110, 103, 101, 45, 119, 105, 110, 100, 111, 119], .str [105, 100, 52, 32, 109, 97, 115, 107, 50, 32, 98, 97, 99, 107, 49, 32, 103, 114, 97, 118, 105, 116, 121, 49, 32, 98, 105, 116, 115, 49, 32, 111, 118, 101, 114, 114, 105, 100, 101, 49, 32, 115, 116, 111, 112, 52, 32, 101, 118, 101, 110, 116, 115, 52], .str [], .str [115, 104, 97, 112, 101, 45, 119, 105, 110, 100, 111, 119], .str [105, 100, 52, 32, 115, 104, 97, 112, 101, 100, 49, 32, 76, 45, 50], .str [], .str [103, 101, 116, 45, 103, 101, 111, 109, 101, 116, 114, 121], .str [105, 100, 52], .str [112, 97, 114, 101, 110, 116, 52, 32, 120, 45, 50, 32, 121, 45, 50, 32, 119, 50, 32, 104, 50, 32, 109, 97, 112, 112, 101, 100, 49, 32, 118, 105, 101, 119, 97, 98, 108, 101, 49], .str [113, 117, 101, 114, 121, 45, 116, 114, 101, 101], .str [105, 100, 52], .str [112, 97, 114, 101, 110, 116, 52, 32, 76, 52], .str [105, 110, 116, 101, 114, 110, 45, 97, 116, 111, 109], .str [111, 110, 108, 121, 49, 32, 66], .str [97, 116, 111, 109, 52], .str [97, 116, 111, 109, 45, 110, 97, 109, 101], .str [97, 116, 111, 109, 52], .str [66], .str [99, 104, 97, 110, 103, 101, 45, 112, 114, 111, 112, 101, 114, 116, 121], .str [105, 100, 52, 32, 110, 97, 109, 101, 52, 32, 116, 121, 112, 101, 52, 32, 102, 111, 114, 109, 97, 116, 49, 32, 109, 111, 100, 101, 49, 32, 76, 52], .str [], .str [100, 101, 108, 101, 116, 101, 45, 112, 114, 111, 112, 101, 114, 116, 121], .str [105, 100, 52, 32, 110, 97, 109, 101, 52], .str [], .str [103, 101, 116, 45, 112, 114, 111, 112, 101, 114, 116, 121], .str [105, 100, 52, 32, 110, 97, 109, 101, 52, 32, 116, 121, 112, 101, 52, 32, 111, 102, 102, 115, 101, 116, 52, 32, 108, 101, 110, 103, 116, 104, 52, 32, 114, 101, 109, 111, 118, 101, 49], .str [116, 121, 112, 101, 52, 32, 102, 111, 114, 109, 97, 116, 49, 32, 108, 101, 102, 116, 52, 32, 76, 52], .str [108, 105, 115, 116, 45, 112, 114, 111, 112, 101, 114, 116, 105, 101, 115], .str [105, 100, 52], .str [76, 52], .str [99, 114, 101, 97, 116, 101, 45, 112, 105, 120, 109, 97, 112], .str [105, 100, 52, 32, 119, 50, 32, 104, 50, 32, 102, 105, 108, 108, 49], .str [], .str [102, 114, 101, 101, 45, 112, 105, 120, 109, 97, 112], .str [105, 100, 52], .str [], .str [99, 114, 101, 97, 116, 101, 45, 112, 101, 110], .str [105, 100, 52], .str [], .str [99, 104, 97, 110, 103, 101, 45, 112, 101, 110], .str [105, 100, 52, 32, 109, 97, 115, 107, 49, 32, 102, 117, 110, 99, 49, 32, 112, 108, 97, 110, 101, 115, 49, 32, 102, 111, 114, 101, 49, 32, 98, 97, 99, 107, 49, 32, 102, 111, 110, 116, 52], .str [], .str [99, 108, 105, 112, 45, 112, 101, 110], .str [105, 100, 52, 32, 120, 45, 50, 32, 121, 45, 50, 32, 99, 108, 105, 112, 112, 101, 100, 49, 32, 76, 45, 50], .str [], .str [102, 114, 101, 101, 45, 112, 101, 110], .str [105, 100, 52], .str [], .str [111, 112, 101, 110, 45, 102, 111, 110, 116], .str [105, 100, 52, 32, 66], .str [], .str [99, 108, 111, 115, 101, 45, 102, 111, 110, 116], .str [105, 100, 52], .str [], .str [113, 117, 101, 114, 121, 45, 102, 111, 110, 116], .str [105, 100, 52], .str [97, 115, 99, 101, 110, 116, 49, 32, 100, 101, 115, 99, 101, 110, 116, 49, 32, 76, 49], .str [99, 108, 101, 97, 114, 45, 97, 114, 101, 97], .str [105, 100, 52, 32, 120, 45, 50, 32, 121, 45, 50, 32, 119, 50, 32, 104, 50, 32, 101, 120, 112, 111, 115, 101, 49], .str [], .str [99, 111, 112, 121, 45, 97, 114, 101, 97], .str [115, 114, 99, 52, 32, 100, 115, 116, 52, 32, 112, 101, 110, 52, 32, 115, 120, 45, 50, 32, 115, 121, 45, 50, 32, 100, 120, 45, 50, 32, 100, 121, 45, 50, 32, 119, 50, 32, 104, 50, 32, 101, 120, 112, 111, 115, 101, 49], .str [], .str [100, 114, 97, 119, 45, 112, 111, 105, 110, 116, 115], .str [100, 115, 116, 52, 32, 112, 101, 110, 52, 32, 76, 45, 50], .str [], .str [100, 114, 97, 119, 45, 108, 105, 110, 101, 115], .str [100, 115, 116, 52, 32, 112, 101, 110, 52, 32, 76, 45, 50], .str []]
def lateT : PV := .agg [.str [], .str [], .str [], .str [], .str [], .str [], .str [], .str [], .str [], .str [], .str [], .str [], .str [], .str [], .str [], .str [], .str [], .str [], .str [], .str [], .str [], .str [], .str [], .str [], .str [], .str [], .str [], .str [], .str [], .str [], .str [], .str [], .str [], .str [], .str [], .str [], .str [], .str [], .str [], .str [], .str [], .str [], .str [], .str [], .str [], .str [], .str [], .str [], .str [], .str [], .str [], .str [], .str [], .str [], .str [], .str [], .str [], .str [], .str [], .str [], .str [], .str [], .str [], .str [], .str [], .str [], .str [], .str [], .str [], .str [], .str [], .str [], .str [], .str [], .str [], .str [], .str [], .str [], .str [], .str [], .str [], .str [], .str [], .str [], .str [], .str [], .str [], .str [], .str [], .str [], .str [102, 105, 108, 108, 45, 114, 101, 99, 116, 115], .str [100, 115, 116, 52, 32, 112, 101, 110, 52, 32, 76, 45, 50], .str [], .str [102, 105, 108, 108, 45, 112, 111, 108, 121], .str [100, 115, 116, 52, 32, 112, 101, 110, 52, 32, 114, 117, 108, 101, 49, 32, 76, 45, 50], .str [], .str [100, 114, 97, 119, 45, 97, 114, 99, 115], .str [100, 115, 116, 52, 32, 112, 101, 110, 52, 32, 76, 45, 50], .str [], .str [102, 105, 108, 108, 45, 97, 114, 99, 115], .str [100, 115, 116, 52, 32, 112, 101, 110, 52, 32, 76, 45, 50], .str [], .str [112, 117, 116, 45, 105, 109, 97, 103, 101], .str [100, 115, 116, 52, 32, 112, 101, 110, 52, 32, 120, 45, 50, 32, 121, 45, 50, 32, 119, 50, 32, 104, 50, 32, 66], .str [], .str [103, 101, 116, 45, 105, 109, 97, 103, 101], .str [115, 114, 99, 52, 32, 120, 45, 50, 32, 121, 45, 50, 32, 119, 50, 32, 104, 50], .str [119, 50, 32, 104, 50, 32, 66], .str [100, 114, 97, 119, 45, 116, 101, 120, 116], .str [100, 115, 116, 52, 32, 112, 101, 110, 52, 32, 120, 45, 50, 32, 121, 45, 50, 32, 111, 112, 97, 113, 117, 101, 49, 32, 66], .str [], .str [115, 101, 116, 45, 102, 111, 99, 117, 115], .str [105, 100, 52, 32, 114, 101, 118, 101, 114, 116, 49, 32, 116, 105, 109, 101, 52], .str [], .str [103, 101, 116, 45, 102, 111, 99, 117, 115], .str [], .str [105, 100, 52, 32, 114, 101, 118, 101, 114, 116, 49], .str [103, 114, 97, 98, 45, 112, 111, 105, 110, 116, 101, 114], .str [105, 100, 52, 32, 111, 119, 110, 101, 114, 49, 32, 101, 118, 101, 110, 116, 115, 52, 32, 112, 111, 105, 110, 116, 101, 114, 49, 32, 107, 101, 121, 98, 111, 97, 114, 100, 49, 32, 116, 105, 109, 101, 52], .str [115, 116, 97, 116, 117, 115, 49], .str [117, 110, 103, 114, 97, 98, 45, 112, 111, 105, 110, 116, 101, 114], .str [116, 105, 109, 101, 52], .str [], .str [103, 114, 97, 98, 45, 98, 117, 116, 116, 111, 110], .str [105, 100, 52, 32, 98, 117, 116, 116, 111, 110, 49, 32, 109, 111, 100, 115, 50, 32, 111, 119, 110, 101, 114, 49, 32, 101, 118, 101, 110, 116, 115, 52, 32, 112, 111, 105, 110, 116, 101, 114, 49, 32, 107, 101, 121, 98, 111, 97, 114, 100, 49], .str [], .str [117, 110, 103, 114, 97, 98, 45, 98, 117, 116, 116, 111, 110], .str [105, 100, 52, 32, 98, 117, 116, 116, 111, 110, 49, 32, 109, 111, 100, 115, 50], .str [], .str [103, 114, 97, 98, 45, 107, 101, 121, 98, 111, 97, 114, 100], .str [105, 100, 52, 32, 111, 119, 110, 101, 114, 49, 32, 112, 111, 105, 110, 116, 101, 114, 49, 32, 107, 101, 121, 98, 111, 97, 114, 100, 49, 32, 116, 105, 109, 101, 52], .str [115, 116, 97, 116, 117, 115, 49], .str [117, 110, 103, 114, 97, 98, 45, 107, 101, 121, 98, 111, 97, 114, 100], .str [116, 105, 109, 101, 52], .str [], .str [103, 114, 97, 98, 45, 107, 101, 121], .str [105, 100, 52, 32, 107, 101, 121, 49, 32, 109, 111, 100, 115, 50, 32, 111, 119, 110, 101, 114, 49, 32, 112, 111, 105, 110, 116, 101, 114, 49, 32, 107, 101, 121, 98, 111, 97, 114, 100, 49], .str [], .str [117, 110, 103, 114, 97, 98, 45, 107, 101, 121], .str [105, 100, 52, 32, 107, 101, 121, 49, 32, 109, 111, 100, 115, 50], .str [], .str [97, 108, 108, 111, 119, 45, 101, 118, 101, 110, 116, 115], .str [109, 111, 100, 101, 49, 32, 116, 105, 109, 101, 52], .str [], .str [113, 117, 101, 114, 121, 45, 112, 111, 105, 110, 116, 101, 114], .str [105, 100, 52], .str [99, 104, 105, 108, 100, 52, 32, 114, 111, 111, 116, 120, 45, 50, 32, 114, 111, 111, 116, 121, 45, 50, 32, 120, 45, 50, 32, 121, 45, 50, 32, 115, 116, 97, 116, 101, 50], .str [119, 97, 114, 112, 45, 112, 111, 105, 110, 116, 101, 114], .str [105, 100, 52, 32, 120, 45, 50, 32, 121, 45, 50], .str [], .str [115, 101, 116, 45, 115, 101, 108, 101, 99, 116, 105, 111, 110], .str [105, 100, 52, 32, 115, 101, 108, 101, 99, 116, 105, 111, 110, 52, 32, 116, 105, 109, 101, 52], .str [], .str [103, 101, 116, 45, 115, 101, 108, 101, 99, 116, 105, 111, 110], .str [115, 101, 108, 101, 99, 116, 105, 111, 110, 52], .str [105, 100, 52], .str [99, 111, 110, 118, 101, 114, 116, 45, 115, 101, 108, 101, 99, 116, 105, 111, 110], .str [114, 101, 113, 117, 101, 115, 116, 111, 114, 52, 32, 115, 101, 108, 101, 99, 116, 105, 111, 110, 52, 32, 116, 97, 114, 103, 101, 116, 52, 32, 112, 114, 111, 112, 101, 114, 116, 121, 52, 32, 116, 105, 109, 101, 52], .str [], .str [115, 101, 110, 100, 45, 101, 118, 101, 110, 116], .str [105, 100, 52, 32, 112, 97, 115, 115, 49, 32, 101, 118, 101, 110, 116, 115, 52, 32, 99, 111, 100, 101, 49, 32, 76, 52], .str [], .str [115, 97, 118, 101, 45, 119, 105, 110, 100, 111, 119], .str [105, 100, 52, 32, 109, 111, 100, 101, 49], .str [], .str [107, 105, 108, 108, 45, 99, 108, 105, 101, 110, 116], .str [105, 100, 52], .str [], .str [103, 114, 97, 98, 45, 115, 101, 114, 118, 101, 114], .str [], .str [], .str [117, 110, 103, 114, 97, 98, 45, 115, 101, 114, 118, 101, 114], .str [], .str [], .str [110, 111, 45, 111, 112], .str [], .str []]
theorem early_fs : Fsp Tryd.prog 50 [] 0 [] [] 0 earlyT := ranIsU mixed anyCl_ok (wbf := fun f => Nat.beq f 52 || Nat.beq f 57) (n := 60) (d := 10) (by kernel_rfl)
theorem late_fs : Fsp Tryd.prog 51 [] 0 [] [] 0 lateT := ranIsU mixed anyCl_ok (wbf := fun f => Nat.beq f 52 || Nat.beq f 57) (n := 60) (d := 10) (by kernel_rfl)
def cl1 : Cl := orCl anyCl (orCl fldCl (orCl (fnCl 50 (nullary earlyT)) (fnCl 51 (nullary lateT))))
theorem cl1_ok : cl1.Ok Tryd.prog := orCl_ok anyCl_ok (orCl_ok fldCl_ok (orCl_ok (nullary_ok early_fs) (nullary_ok late_fs)))
def reqT : List PV :=
  [.agg [.str [], .str [], .str []],
   .agg [.str [99, 114, 101, 97, 116, 101, 45, 119, 105, 110, 100, 111, 119], .str [105, 100, 52, 32, 112, 97, 114, 101, 110, 116, 52, 32, 120, 45, 50, 32, 121, 45, 50, 32, 119, 50, 32, 104, 50, 32, 98, 97, 99, 107, 49, 32, 98, 97, 99, 107, 105, 110, 103, 49, 32, 111, 118, 101, 114, 114, 105, 100, 101, 49], .str []],
   .agg [.str [100, 101, 115, 116, 114, 111, 121, 45, 119, 105, 110, 100, 111, 119], .str [105, 100, 52], .str []],
   .agg [.str [109, 97, 112, 45, 119, 105, 110, 100, 111, 119], .str [105, 100, 52], .str []],
   .agg [.str [117, 110, 109, 97, 112, 45, 119, 105, 110, 100, 111, 119], .str [105, 100, 52], .str []],
   .agg [.str [99, 111, 110, 102, 105, 103, 117, 114, 101, 45, 119, 105, 110, 100, 111, 119], .str [105, 100, 52, 32, 109, 97, 115, 107, 49, 32, 120, 45, 50, 32, 121, 45, 50, 32, 119, 50, 32, 104, 50, 32, 115, 105, 98, 108, 105, 110, 103, 52, 32, 109, 111, 100, 101, 49], .str []],
   .agg [.str [114, 101, 112, 97, 114, 101, 110, 116, 45, 119, 105, 110, 100, 111, 119], .str [105, 100, 52, 32, 112, 97, 114, 101, 110, 116, 52, 32, 120, 45, 50, 32, 121, 45, 50], .str []],
   .agg [.str [99, 104, 97, 110, 103, 101, 45, 119, 105, 110, 100, 111, 119], .str [105, 100, 52, 32, 109, 97, 115, 107, 50, 32, 98, 97, 99, 107, 49, 32, 103, 114, 97, 118, 105, 116, 121, 49, 32, 98, 105, 116, 115, 49, 32, 111, 118, 101, 114, 114, 105, 100, 101, 49, 32, 115, 116, 111, 112, 52, 32, 101, 118, 101, 110, 116, 115, 52], .str []],
   .agg [.str [115, 104, 97, 112, 101, 45, 119, 105, 110, 100, 111, 119], .str [105, 100, 52, 32, 115, 104, 97, 112, 101, 100, 49, 32, 76, 45, 50], .str []],
   .agg [.str [103, 101, 116, 45, 103, 101, 111, 109, 101, 116, 114, 121], .str [105, 100, 52], .str [112, 97, 114, 101, 110, 116, 52, 32, 120, 45, 50, 32, 121, 45, 50, 32, 119, 50, 32, 104, 50, 32, 109, 97, 112, 112, 101, 100, 49, 32, 118, 105, 101, 119, 97, 98, 108, 101, 49]],
   .agg [.str [113, 117, 101, 114, 121, 45, 116, 114, 101, 101], .str [105, 100, 52], .str [112, 97, 114, 101, 110, 116, 52, 32, 76, 52]],
   .agg [.str [105, 110, 116, 101, 114, 110, 45, 97, 116, 111, 109], .str [111, 110, 108, 121, 49, 32, 66], .str [97, 116, 111, 109, 52]],
   .agg [.str [97, 116, 111, 109, 45, 110, 97, 109, 101], .str [97, 116, 111, 109, 52], .str [66]],
   .agg [.str [99, 104, 97, 110, 103, 101, 45, 112, 114, 111, 112, 101, 114, 116, 121], .str [105, 100, 52, 32, 110, 97, 109, 101, 52, 32, 116, 121, 112, 101, 52, 32, 102, 111, 114, 109, 97, 116, 49, 32, 109, 111, 100, 101, 49, 32, 76, 52], .str []],
   .agg [.str [100, 101, 108, 101, 116, 101, 45, 112, 114, 111, 112, 101, 114, 116, 121], .str [105, 100, 52, 32, 110, 97, 109, 101, 52], .str []],
   .agg [.str [103, 101, 116, 45, 112, 114, 111, 112, 101, 114, 116, 121], .str [105, 100, 52, 32, 110, 97, 109, 101, 52, 32, 116, 121, 112, 101, 52, 32, 111, 102, 102, 115, 101, 116, 52, 32, 108, 101, 110, 103, 116, 104, 52, 32, 114, 101, 109, 111, 118, 101, 49], .str [116, 121, 112, 101, 52, 32, 102, 111, 114, 109, 97, 116, 49, 32, 108, 101, 102, 116, 52, 32, 76, 52]],
   .agg [.str [108, 105, 115, 116, 45, 112, 114, 111, 112, 101, 114, 116, 105, 101, 115], .str [105, 100, 52], .str [76, 52]],
   .agg [.str [99, 114, 101, 97, 116, 101, 45, 112, 105, 120, 109, 97, 112], .str [105, 100, 52, 32, 119, 50, 32, 104, 50, 32, 102, 105, 108, 108, 49], .str []],
   .agg [.str [102, 114, 101, 101, 45, 112, 105, 120, 109, 97, 112], .str [105, 100, 52], .str []],
   .agg [.str [99, 114, 101, 97, 116, 101, 45, 112, 101, 110], .str [105, 100, 52], .str []],
   .agg [.str [99, 104, 97, 110, 103, 101, 45, 112, 101, 110], .str [105, 100, 52, 32, 109, 97, 115, 107, 49, 32, 102, 117, 110, 99, 49, 32, 112, 108, 97, 110, 101, 115, 49, 32, 102, 111, 114, 101, 49, 32, 98, 97, 99, 107, 49, 32, 102, 111, 110, 116, 52], .str []],
   .agg [.str [99, 108, 105, 112, 45, 112, 101, 110], .str [105, 100, 52, 32, 120, 45, 50, 32, 121, 45, 50, 32, 99, 108, 105, 112, 112, 101, 100, 49, 32, 76, 45, 50], .str []],
   .agg [.str [102, 114, 101, 101, 45, 112, 101, 110], .str [105, 100, 52], .str []],
   .agg [.str [111, 112, 101, 110, 45, 102, 111, 110, 116], .str [105, 100, 52, 32, 66], .str []],
   .agg [.str [99, 108, 111, 115, 101, 45, 102, 111, 110, 116], .str [105, 100, 52], .str []],
   .agg [.str [113, 117, 101, 114, 121, 45, 102, 111, 110, 116], .str [105, 100, 52], .str [97, 115, 99, 101, 110, 116, 49, 32, 100, 101, 115, 99, 101, 110, 116, 49, 32, 76, 49]],
   .agg [.str [99, 108, 101, 97, 114, 45, 97, 114, 101, 97], .str [105, 100, 52, 32, 120, 45, 50, 32, 121, 45, 50, 32, 119, 50, 32, 104, 50, 32, 101, 120, 112, 111, 115, 101, 49], .str []],
   .agg [.str [99, 111, 112, 121, 45, 97, 114, 101, 97], .str [115, 114, 99, 52, 32, 100, 115, 116, 52, 32, 112, 101, 110, 52, 32, 115, 120, 45, 50, 32, 115, 121, 45, 50, 32, 100, 120, 45, 50, 32, 100, 121, 45, 50, 32, 119, 50, 32, 104, 50, 32, 101, 120, 112, 111, 115, 101, 49], .str []],
   .agg [.str [100, 114, 97, 119, 45, 112, 111, 105, 110, 116, 115], .str [100, 115, 116, 52, 32, 112, 101, 110, 52, 32, 76, 45, 50], .str []],
   .agg [.str [100, 114, 97, 119, 45, 108, 105, 110, 101, 115], .str [100, 115, 116, 52, 32, 112, 101, 110, 52, 32, 76, 45, 50], .str []],
   .agg [.str [102, 105, 108, 108, 45, 114, 101, 99, 116, 115], .str [100, 115, 116, 52, 32, 112, 101, 110, 52, 32, 76, 45, 50], .str []],
   .agg [.str [102, 105, 108, 108, 45, 112, 111, 108, 121], .str [100, 115, 116, 52, 32, 112, 101, 110, 52, 32, 114, 117, 108, 101, 49, 32, 76, 45, 50], .str []],
   .agg [.str [100, 114, 97, 119, 45, 97, 114, 99, 115], .str [100, 115, 116, 52, 32, 112, 101, 110, 52, 32, 76, 45, 50], .str []],
   .agg [.str [102, 105, 108, 108, 45, 97, 114, 99, 115], .str [100, 115, 116, 52, 32, 112, 101, 110, 52, 32, 76, 45, 50], .str []],
   .agg [.str [112, 117, 116, 45, 105, 109, 97, 103, 101], .str [100, 115, 116, 52, 32, 112, 101, 110, 52, 32, 120, 45, 50, 32, 121, 45, 50, 32, 119, 50, 32, 104, 50, 32, 66], .str []],
   .agg [.str [103, 101, 116, 45, 105, 109, 97, 103, 101], .str [115, 114, 99, 52, 32, 120, 45, 50, 32, 121, 45, 50, 32, 119, 50, 32, 104, 50], .str [119, 50, 32, 104, 50, 32, 66]],
   .agg [.str [100, 114, 97, 119, 45, 116, 101, 120, 116], .str [100, 115, 116, 52, 32, 112, 101, 110, 52, 32, 120, 45, 50, 32, 121, 45, 50, 32, 111, 112, 97, 113, 117, 101, 49, 32, 66], .str []],
   .agg [.str [115, 101, 116, 45, 102, 111, 99, 117, 115], .str [105, 100, 52, 32, 114, 101, 118, 101, 114, 116, 49, 32, 116, 105, 109, 101, 52], .str []],
   .agg [.str [103, 101, 116, 45, 102, 111, 99, 117, 115], .str [], .str [105, 100, 52, 32, 114, 101, 118, 101, 114, 116, 49]],
   .agg [.str [103, 114, 97, 98, 45, 112, 111, 105, 110, 116, 101, 114], .str [105, 100, 52, 32, 111, 119, 110, 101, 114, 49, 32, 101, 118, 101, 110, 116, 115, 52, 32, 112, 111, 105, 110, 116, 101, 114, 49, 32, 107, 101, 121, 98, 111, 97, 114, 100, 49, 32, 116, 105, 109, 101, 52], .str [115, 116, 97, 116, 117, 115, 49]],
   .agg [.str [117, 110, 103, 114, 97, 98, 45, 112, 111, 105, 110, 116, 101, 114], .str [116, 105, 109, 101, 52], .str []],
   .agg [.str [103, 114, 97, 98, 45, 98, 117, 116, 116, 111, 110], .str [105, 100, 52, 32, 98, 117, 116, 116, 111, 110, 49, 32, 109, 111, 100, 115, 50, 32, 111, 119, 110, 101, 114, 49, 32, 101, 118, 101, 110, 116, 115, 52, 32, 112, 111, 105, 110, 116, 101, 114, 49, 32, 107, 101, 121, 98, 111, 97, 114, 100, 49], .str []],
   .agg [.str [117, 110, 103, 114, 97, 98, 45, 98, 117, 116, 116, 111, 110], .str [105, 100, 52, 32, 98, 117, 116, 116, 111, 110, 49, 32, 109, 111, 100, 115, 50], .str []],
   .agg [.str [103, 114, 97, 98, 45, 107, 101, 121, 98, 111, 97, 114, 100], .str [105, 100, 52, 32, 111, 119, 110, 101, 114, 49, 32, 112, 111, 105, 110, 116, 101, 114, 49, 32, 107, 101, 121, 98, 111, 97, 114, 100, 49, 32, 116, 105, 109, 101, 52], .str [115, 116, 97, 116, 117, 115, 49]],
   .agg [.str [117, 110, 103, 114, 97, 98, 45, 107, 101, 121, 98, 111, 97, 114, 100], .str [116, 105, 109, 101, 52], .str []],
   .agg [.str [103, 114, 97, 98, 45, 107, 101, 121], .str [105, 100, 52, 32, 107, 101, 121, 49, 32, 109, 111, 100, 115, 50, 32, 111, 119, 110, 101, 114, 49, 32, 112, 111, 105, 110, 116, 101, 114, 49, 32, 107, 101, 121, 98, 111, 97, 114, 100, 49], .str []],
   .agg [.str [117, 110, 103, 114, 97, 98, 45, 107, 101, 121], .str [105, 100, 52, 32, 107, 101, 121, 49, 32, 109, 111, 100, 115, 50], .str []],
   .agg [.str [97, 108, 108, 111, 119, 45, 101, 118, 101, 110, 116, 115], .str [109, 111, 100, 101, 49, 32, 116, 105, 109, 101, 52], .str []],
   .agg [.str [113, 117, 101, 114, 121, 45, 112, 111, 105, 110, 116, 101, 114], .str [105, 100, 52], .str [99, 104, 105, 108, 100, 52, 32, 114, 111, 111, 116, 120, 45, 50, 32, 114, 111, 111, 116, 121, 45, 50, 32, 120, 45, 50, 32, 121, 45, 50, 32, 115, 116, 97, 116, 101, 50]],
   .agg [.str [119, 97, 114, 112, 45, 112, 111, 105, 110, 116, 101, 114], .str [105, 100, 52, 32, 120, 45, 50, 32, 121, 45, 50], .str []],
   .agg [.str [115, 101, 116, 45, 115, 101, 108, 101, 99, 116, 105, 111, 110], .str [105, 100, 52, 32, 115, 101, 108, 101, 99, 116, 105, 111, 110, 52, 32, 116, 105, 109, 101, 52], .str []],
   .agg [.str [103, 101, 116, 45, 115, 101, 108, 101, 99, 116, 105, 111, 110], .str [115, 101, 108, 101, 99, 116, 105, 111, 110, 52], .str [105, 100, 52]],
   .agg [.str [99, 111, 110, 118, 101, 114, 116, 45, 115, 101, 108, 101, 99, 116, 105, 111, 110], .str [114, 101, 113, 117, 101, 115, 116, 111, 114, 52, 32, 115, 101, 108, 101, 99, 116, 105, 111, 110, 52, 32, 116, 97, 114, 103, 101, 116, 52, 32, 112, 114, 111, 112, 101, 114, 116, 121, 52, 32, 116, 105, 109, 101, 52], .str []],
   .agg [.str [115, 101, 110, 100, 45, 101, 118, 101, 110, 116], .str [105, 100, 52, 32, 112, 97, 115, 115, 49, 32, 101, 118, 101, 110, 116, 115, 52, 32, 99, 111, 100, 101, 49, 32, 76, 52], .str []],
   .agg [.str [115, 97, 118, 101, 45, 119, 105, 110, 100, 111, 119], .str [105, 100, 52, 32, 109, 111, 100, 101, 49], .str []],
   .agg [.str [107, 105, 108, 108, 45, 99, 108, 105, 101, 110, 116], .str [105, 100, 52], .str []],
   .agg [.str [103, 114, 97, 98, 45, 115, 101, 114, 118, 101, 114], .str [], .str []],
   .agg [.str [117, 110, 103, 114, 97, 98, 45, 115, 101, 114, 118, 101, 114], .str [], .str []],
   .agg [.str [110, 111, 45, 111, 112], .str [], .str []]]
theorem reqT_ok : (fnCl 41 (atInt reqT)).Ok Tryd.prog := atInt_ok mixed cl1_ok (wbf := fun f => Nat.beq f 52 || Nat.beq f 57) (n := 60) (d := 10) (by kernel_rfl)
def cl2 : Cl := orCl anyCl (orCl fldCl (fnCl 41 (atInt reqT)))
theorem cl2_ok : cl2.Ok Tryd.prog := orCl_ok anyCl_ok (orCl_ok fldCl_ok reqT_ok)
/-- The requests' forms. -/
def formT : List PV :=
  [.tup [.agg [.sl 1 [], .bool false, .int .i64 0], .bool false],
   .tup [.agg [.sl 1 [.int .i64 4, .int .i64 4, .int .i64 (-2), .int .i64 (-2), .int .i64 2, .int .i64 2, .int .i64 1, .int .i64 1, .int .i64 1], .bool false, .int .i64 0], .bool true],
   .tup [.agg [.sl 1 [.int .i64 4], .bool false, .int .i64 0], .bool true],
   .tup [.agg [.sl 1 [.int .i64 4], .bool false, .int .i64 0], .bool true],
   .tup [.agg [.sl 1 [.int .i64 4], .bool false, .int .i64 0], .bool true],
   .tup [.agg [.sl 1 [.int .i64 4, .int .i64 1, .int .i64 (-2), .int .i64 (-2), .int .i64 2, .int .i64 2, .int .i64 4, .int .i64 1], .bool false, .int .i64 0], .bool true],
   .tup [.agg [.sl 1 [.int .i64 4, .int .i64 4, .int .i64 (-2), .int .i64 (-2)], .bool false, .int .i64 0], .bool true],
   .tup [.agg [.sl 1 [.int .i64 4, .int .i64 2, .int .i64 1, .int .i64 1, .int .i64 1, .int .i64 1, .int .i64 4, .int .i64 4], .bool false, .int .i64 0], .bool true],
   .tup [.agg [.sl 1 [.int .i64 4, .int .i64 1], .bool false, .int .i64 (-2)], .bool true],
   .tup [.agg [.sl 1 [.int .i64 4], .bool false, .int .i64 0], .bool true],
   .tup [.agg [.sl 1 [.int .i64 4], .bool false, .int .i64 0], .bool true],
   .tup [.agg [.sl 1 [.int .i64 1], .bool true, .int .i64 0], .bool true],
   .tup [.agg [.sl 1 [.int .i64 4], .bool false, .int .i64 0], .bool true],
   .tup [.agg [.sl 1 [.int .i64 4, .int .i64 4, .int .i64 4, .int .i64 1, .int .i64 1], .bool false, .int .i64 4], .bool true],
   .tup [.agg [.sl 1 [.int .i64 4, .int .i64 4], .bool false, .int .i64 0], .bool true],
   .tup [.agg [.sl 1 [.int .i64 4, .int .i64 4, .int .i64 4, .int .i64 4, .int .i64 4, .int .i64 1], .bool false, .int .i64 0], .bool true],
   .tup [.agg [.sl 1 [.int .i64 4], .bool false, .int .i64 0], .bool true],
   .tup [.agg [.sl 1 [.int .i64 4, .int .i64 2, .int .i64 2, .int .i64 1], .bool false, .int .i64 0], .bool true],
   .tup [.agg [.sl 1 [.int .i64 4], .bool false, .int .i64 0], .bool true],
   .tup [.agg [.sl 1 [.int .i64 4], .bool false, .int .i64 0], .bool true],
   .tup [.agg [.sl 1 [.int .i64 4, .int .i64 1, .int .i64 1, .int .i64 1, .int .i64 1, .int .i64 1, .int .i64 4], .bool false, .int .i64 0], .bool true],
   .tup [.agg [.sl 1 [.int .i64 4, .int .i64 (-2), .int .i64 (-2), .int .i64 1], .bool false, .int .i64 (-2)], .bool true],
   .tup [.agg [.sl 1 [.int .i64 4], .bool false, .int .i64 0], .bool true],
   .tup [.agg [.sl 1 [.int .i64 4], .bool true, .int .i64 0], .bool true],
   .tup [.agg [.sl 1 [.int .i64 4], .bool false, .int .i64 0], .bool true],
   .tup [.agg [.sl 1 [.int .i64 4], .bool false, .int .i64 0], .bool true],
   .tup [.agg [.sl 1 [.int .i64 4, .int .i64 (-2), .int .i64 (-2), .int .i64 2, .int .i64 2, .int .i64 1], .bool false, .int .i64 0], .bool true],
   .tup [.agg [.sl 1 [.int .i64 4, .int .i64 4, .int .i64 4, .int .i64 (-2), .int .i64 (-2), .int .i64 (-2), .int .i64 (-2), .int .i64 2, .int .i64 2, .int .i64 1], .bool false, .int .i64 0], .bool true],
   .tup [.agg [.sl 1 [.int .i64 4, .int .i64 4], .bool false, .int .i64 (-2)], .bool true],
   .tup [.agg [.sl 1 [.int .i64 4, .int .i64 4], .bool false, .int .i64 (-2)], .bool true],
   .tup [.agg [.sl 1 [.int .i64 4, .int .i64 4], .bool false, .int .i64 (-2)], .bool true],
   .tup [.agg [.sl 1 [.int .i64 4, .int .i64 4, .int .i64 1], .bool false, .int .i64 (-2)], .bool true],
   .tup [.agg [.sl 1 [.int .i64 4, .int .i64 4], .bool false, .int .i64 (-2)], .bool true],
   .tup [.agg [.sl 1 [.int .i64 4, .int .i64 4], .bool false, .int .i64 (-2)], .bool true],
   .tup [.agg [.sl 1 [.int .i64 4, .int .i64 4, .int .i64 (-2), .int .i64 (-2), .int .i64 2, .int .i64 2], .bool true, .int .i64 0], .bool true],
   .tup [.agg [.sl 1 [.int .i64 4, .int .i64 (-2), .int .i64 (-2), .int .i64 2, .int .i64 2], .bool false, .int .i64 0], .bool true],
   .tup [.agg [.sl 1 [.int .i64 4, .int .i64 4, .int .i64 (-2), .int .i64 (-2), .int .i64 1], .bool true, .int .i64 0], .bool true],
   .tup [.agg [.sl 1 [.int .i64 4, .int .i64 1, .int .i64 4], .bool false, .int .i64 0], .bool true],
   .tup [.agg [.sl 1 [], .bool false, .int .i64 0], .bool true],
   .tup [.agg [.sl 1 [.int .i64 4, .int .i64 1, .int .i64 4, .int .i64 1, .int .i64 1, .int .i64 4], .bool false, .int .i64 0], .bool true],
   .tup [.agg [.sl 1 [.int .i64 4], .bool false, .int .i64 0], .bool true],
   .tup [.agg [.sl 1 [.int .i64 4, .int .i64 1, .int .i64 2, .int .i64 1, .int .i64 4, .int .i64 1, .int .i64 1], .bool false, .int .i64 0], .bool true],
   .tup [.agg [.sl 1 [.int .i64 4, .int .i64 1, .int .i64 2], .bool false, .int .i64 0], .bool true],
   .tup [.agg [.sl 1 [.int .i64 4, .int .i64 1, .int .i64 1, .int .i64 1, .int .i64 4], .bool false, .int .i64 0], .bool true],
   .tup [.agg [.sl 1 [.int .i64 4], .bool false, .int .i64 0], .bool true],
   .tup [.agg [.sl 1 [.int .i64 4, .int .i64 1, .int .i64 2, .int .i64 1, .int .i64 1, .int .i64 1], .bool false, .int .i64 0], .bool true],
   .tup [.agg [.sl 1 [.int .i64 4, .int .i64 1, .int .i64 2], .bool false, .int .i64 0], .bool true],
   .tup [.agg [.sl 1 [.int .i64 1, .int .i64 4], .bool false, .int .i64 0], .bool true],
   .tup [.agg [.sl 1 [.int .i64 4], .bool false, .int .i64 0], .bool true],
   .tup [.agg [.sl 1 [.int .i64 4, .int .i64 (-2), .int .i64 (-2)], .bool false, .int .i64 0], .bool true],
   .tup [.agg [.sl 1 [.int .i64 4, .int .i64 4, .int .i64 4], .bool false, .int .i64 0], .bool true],
   .tup [.agg [.sl 1 [.int .i64 4], .bool false, .int .i64 0], .bool true],
   .tup [.agg [.sl 1 [.int .i64 4, .int .i64 4, .int .i64 4, .int .i64 4, .int .i64 4], .bool false, .int .i64 0], .bool true],
   .tup [.agg [.sl 1 [.int .i64 4, .int .i64 1, .int .i64 4, .int .i64 1], .bool false, .int .i64 4], .bool true],
   .tup [.agg [.sl 1 [.int .i64 4, .int .i64 1], .bool false, .int .i64 0], .bool true],
   .tup [.agg [.sl 1 [.int .i64 4], .bool false, .int .i64 0], .bool true],
   .tup [.agg [.sl 1 [], .bool false, .int .i64 0], .bool true],
   .tup [.agg [.sl 1 [], .bool false, .int .i64 0], .bool true],
   .tup [.agg [.sl 1 [], .bool false, .int .i64 0], .bool true]]
def form0 : PV := .tup [.agg [.sl 1 [], .bool false, .int .i64 0], .bool false]
theorem formT_len : formT.length = 59 := by rfl
theorem formT_ran : ranAllF Tryd.prog cl2 (fun f => Nat.beq f 52 || Nat.beq f 57) 60 10 26 formT 0 = true := by kernel_rfl
/-- A request's form. -/
def formR (n : Int) : PV := if 0 ≤ n ∧ n ≤ 58 then formT.getD n.toNat form0 else form0

theorem ez_e : aggEq Tryd.prog 108 [.str [], .str [], .str []] [.str [], .str [], .str []] = some true := by kernel_rfl
theorem kt_e : Tryd.prog.keyTypeAt 12 108 = true := by kernel_rfl
theorem eg_e : Tryd.prog.eqGuardType Tryd.prog.depth 108 = false := by kernel_rfl
theorem request_out (n : Int) (h : ¬ (1 ≤ n ∧ n ≤ 58)) : Fsp Tryd.prog 41 [] 0 [.int .i64 n] [] 0 (.agg [.str [], .str [], .str []]) := by
  rcases Int.lt_or_le n 1 with h1 | h1
  · have hd : decide (n < 1) = true := by simpa using h1
    (refine Fsp.ofs (nx := 0) mixed Tryd.func41 rfl (by simp [Tryd.f41]) ?_; simp -implicitDefEqProofs only [push_cast, Tryd.f41, hd, seval])
  · have hd : decide (n < 1) = false := by simp; omega
    have hd2 : decide (58 < n) = true := by simp; omega
    (refine Fsp.ofs (nx := 0) mixed Tryd.func41 rfl (by simp [Tryd.f41]) ?_; simp -implicitDefEqProofs only [push_cast, Tryd.f41, hd, hd2, seval])
theorem request_fs (n : Int) : Fsp Tryd.prog 26 [] 0 [.int .i64 n] [] 0 (formR n) := by
  unfold formR
  split
  · rename_i h
    have hk : formT[n.toNat]? = some (formT.getD n.toNat form0) := by
      have hl : n.toNat < formT.length := by rw [formT_len]; omega
      rw [List.getElem?_eq_getElem hl, List.getD_eq_getElem?_getD, List.getElem?_eq_getElem hl]; rfl
    have := ranAllF_at mixed cl2_ok formT_ran hk
    rw [show ((0 + n.toNat : Nat) : Int) = n by omega] at this
    exact this
  · rename_i h
    have hq := request_out n (by omega)
    (refine Fsp.ofs (nx := 0) mixed Tryd.func26 rfl (by simp [Tryd.f26]) ?_; simp -implicitDefEqProofs only [push_cast, Tryd.f26, seval])
    refine callE_p hq ?_
    simp -implicitDefEqProofs only [push_cast, ez_e, kt_e, eg_e, seval]
    exact ⟨_, rfl, .inr ⟨_, rfl, .inr ⟨.inl rfl, rfl⟩, rfl, rfl, trivial⟩, rfl, trivial⟩

end Go.Proofs.Sh

/- The law Needs. -/
set_option maxRecDepth 100000
set_option linter.unusedSimpArgs false
set_option linter.unusedVariables false
namespace Go.Proofs.Sh
open Go.Pv
def rqCl : List PV → Option PV
  | [.int .i64 n] => some (formR n)
  | _ => none
def clA : Cl := orCl anyCl (orCl fldCl (orCl (fnCl 26 rqCl) (fnCl 10 (nullary (.bool true)))))
theorem clA_ok : clA.Ok Tryd.prog := orCl_ok anyCl_ok (orCl_ok fldCl_ok (orCl_ok (fnCl_ok fun args q hq => by
  unfold rqCl at hq
  split at hq
  · cases hq; exact request_fs _
  · cases hq) (nullary_ok awake_fs)))
theorem needsL_0 : ranAllF Tryd.prog clA (fun f => false) 60 10 8 [.bool true] 0 = true := by kernel_rfl
theorem needsL_1 : ranAllF Tryd.prog clA (fun f => false) 60 10 8 [.bool true] 1 = true := by kernel_rfl
theorem needsL_2 : ranAllF Tryd.prog clA (fun f => false) 60 10 8 [.bool true] 2 = true := by kernel_rfl
theorem needsL_3 : ranAllF Tryd.prog clA (fun f => false) 60 10 8 [.bool true] 3 = true := by kernel_rfl
theorem needsL_4 : ranAllF Tryd.prog clA (fun f => false) 60 10 8 [.bool true] 4 = true := by kernel_rfl
theorem needsL_5 : ranAllF Tryd.prog clA (fun f => false) 60 10 8 [.bool true] 5 = true := by kernel_rfl
theorem needsL_6 : ranAllF Tryd.prog clA (fun f => false) 60 10 8 [.bool true] 6 = true := by kernel_rfl
theorem needsL_7 : ranAllF Tryd.prog clA (fun f => false) 60 10 8 [.bool true] 7 = true := by kernel_rfl
theorem needsL_8 : ranAllF Tryd.prog clA (fun f => false) 60 10 8 [.bool true] 8 = true := by kernel_rfl
theorem needsL_9 : ranAllF Tryd.prog clA (fun f => false) 60 10 8 [.bool true] 9 = true := by kernel_rfl
theorem needsL_10 : ranAllF Tryd.prog clA (fun f => false) 60 10 8 [.bool true] 10 = true := by kernel_rfl
theorem needsL_11 : ranAllF Tryd.prog clA (fun f => false) 60 10 8 [.bool true] 11 = true := by kernel_rfl
theorem needsL_12 : ranAllF Tryd.prog clA (fun f => false) 60 10 8 [.bool true] 12 = true := by kernel_rfl
theorem needsL_13 : ranAllF Tryd.prog clA (fun f => false) 60 10 8 [.bool true] 13 = true := by kernel_rfl
theorem needsL_14 : ranAllF Tryd.prog clA (fun f => false) 60 10 8 [.bool true] 14 = true := by kernel_rfl
theorem needsL_15 : ranAllF Tryd.prog clA (fun f => false) 60 10 8 [.bool true] 15 = true := by kernel_rfl
theorem needsL_16 : ranAllF Tryd.prog clA (fun f => false) 60 10 8 [.bool true] 16 = true := by kernel_rfl
theorem needsL_17 : ranAllF Tryd.prog clA (fun f => false) 60 10 8 [.bool true] 17 = true := by kernel_rfl
theorem needsL_18 : ranAllF Tryd.prog clA (fun f => false) 60 10 8 [.bool true] 18 = true := by kernel_rfl
theorem needsL_19 : ranAllF Tryd.prog clA (fun f => false) 60 10 8 [.bool true] 19 = true := by kernel_rfl
theorem needsL_20 : ranAllF Tryd.prog clA (fun f => false) 60 10 8 [.bool true] 20 = true := by kernel_rfl
theorem needsL_21 : ranAllF Tryd.prog clA (fun f => false) 60 10 8 [.bool true] 21 = true := by kernel_rfl
theorem needsL_22 : ranAllF Tryd.prog clA (fun f => false) 60 10 8 [.bool true] 22 = true := by kernel_rfl
theorem needsL_23 : ranAllF Tryd.prog clA (fun f => false) 60 10 8 [.bool true] 23 = true := by kernel_rfl
theorem needsL_24 : ranAllF Tryd.prog clA (fun f => false) 60 10 8 [.bool true] 24 = true := by kernel_rfl
theorem needsL_25 : ranAllF Tryd.prog clA (fun f => false) 60 10 8 [.bool true] 25 = true := by kernel_rfl
theorem needsL_26 : ranAllF Tryd.prog clA (fun f => false) 60 10 8 [.bool true] 26 = true := by kernel_rfl
theorem needsL_27 : ranAllF Tryd.prog clA (fun f => false) 60 10 8 [.bool true] 27 = true := by kernel_rfl
theorem needsL_28 : ranAllF Tryd.prog clA (fun f => false) 60 10 8 [.bool true] 28 = true := by kernel_rfl
theorem needsL_29 : ranAllF Tryd.prog clA (fun f => false) 60 10 8 [.bool true] 29 = true := by kernel_rfl
theorem needsL_30 : ranAllF Tryd.prog clA (fun f => false) 60 10 8 [.bool true] 30 = true := by kernel_rfl
theorem needsL_31 : ranAllF Tryd.prog clA (fun f => false) 60 10 8 [.bool true] 31 = true := by kernel_rfl
theorem needsL_32 : ranAllF Tryd.prog clA (fun f => false) 60 10 8 [.bool true] 32 = true := by kernel_rfl
theorem needsL_33 : ranAllF Tryd.prog clA (fun f => false) 60 10 8 [.bool true] 33 = true := by kernel_rfl
theorem needsL_34 : ranAllF Tryd.prog clA (fun f => false) 60 10 8 [.bool true] 34 = true := by kernel_rfl
theorem needsL_35 : ranAllF Tryd.prog clA (fun f => false) 60 10 8 [.bool true] 35 = true := by kernel_rfl
theorem needsL_36 : ranAllF Tryd.prog clA (fun f => false) 60 10 8 [.bool true] 36 = true := by kernel_rfl
theorem needsL_37 : ranAllF Tryd.prog clA (fun f => false) 60 10 8 [.bool true] 37 = true := by kernel_rfl
theorem needsL_38 : ranAllF Tryd.prog clA (fun f => false) 60 10 8 [.bool true] 38 = true := by kernel_rfl
theorem needsL_39 : ranAllF Tryd.prog clA (fun f => false) 60 10 8 [.bool true] 39 = true := by kernel_rfl
theorem needsL_40 : ranAllF Tryd.prog clA (fun f => false) 60 10 8 [.bool true] 40 = true := by kernel_rfl
theorem needsL_41 : ranAllF Tryd.prog clA (fun f => false) 60 10 8 [.bool true] 41 = true := by kernel_rfl
theorem needsL_42 : ranAllF Tryd.prog clA (fun f => false) 60 10 8 [.bool true] 42 = true := by kernel_rfl
theorem needsL_43 : ranAllF Tryd.prog clA (fun f => false) 60 10 8 [.bool true] 43 = true := by kernel_rfl
theorem needsL_44 : ranAllF Tryd.prog clA (fun f => false) 60 10 8 [.bool true] 44 = true := by kernel_rfl
theorem needsL_45 : ranAllF Tryd.prog clA (fun f => false) 60 10 8 [.bool true] 45 = true := by kernel_rfl
theorem needsL_46 : ranAllF Tryd.prog clA (fun f => false) 60 10 8 [.bool true] 46 = true := by kernel_rfl
theorem needsL_47 : ranAllF Tryd.prog clA (fun f => false) 60 10 8 [.bool true] 47 = true := by kernel_rfl
theorem needsL_48 : ranAllF Tryd.prog clA (fun f => false) 60 10 8 [.bool true] 48 = true := by kernel_rfl
theorem needsL_49 : ranAllF Tryd.prog clA (fun f => false) 60 10 8 [.bool true] 49 = true := by kernel_rfl
theorem needsL_50 : ranAllF Tryd.prog clA (fun f => false) 60 10 8 [.bool true] 50 = true := by kernel_rfl
theorem needsL_51 : ranAllF Tryd.prog clA (fun f => false) 60 10 8 [.bool true] 51 = true := by kernel_rfl
theorem needsL_52 : ranAllF Tryd.prog clA (fun f => false) 60 10 8 [.bool true] 52 = true := by kernel_rfl
theorem needsL_53 : ranAllF Tryd.prog clA (fun f => false) 60 10 8 [.bool true] 53 = true := by kernel_rfl
theorem needsL_54 : ranAllF Tryd.prog clA (fun f => false) 60 10 8 [.bool true] 54 = true := by kernel_rfl
theorem needsL_55 : ranAllF Tryd.prog clA (fun f => false) 60 10 8 [.bool true] 55 = true := by kernel_rfl
theorem needsL_56 : ranAllF Tryd.prog clA (fun f => false) 60 10 8 [.bool true] 56 = true := by kernel_rfl
theorem needsL_57 : ranAllF Tryd.prog clA (fun f => false) 60 10 8 [.bool true] 57 = true := by kernel_rfl
theorem needsL_58 : ranAllF Tryd.prog clA (fun f => false) 60 10 8 [.bool true] 58 = true := by kernel_rfl
theorem needsL_at : ∀ k : Nat, k < 59 → ranAllF Tryd.prog clA (fun f => false) 60 10 8 [.bool true] k = true
  | 0, _ => needsL_0
  | 1, _ => needsL_1
  | 2, _ => needsL_2
  | 3, _ => needsL_3
  | 4, _ => needsL_4
  | 5, _ => needsL_5
  | 6, _ => needsL_6
  | 7, _ => needsL_7
  | 8, _ => needsL_8
  | 9, _ => needsL_9
  | 10, _ => needsL_10
  | 11, _ => needsL_11
  | 12, _ => needsL_12
  | 13, _ => needsL_13
  | 14, _ => needsL_14
  | 15, _ => needsL_15
  | 16, _ => needsL_16
  | 17, _ => needsL_17
  | 18, _ => needsL_18
  | 19, _ => needsL_19
  | 20, _ => needsL_20
  | 21, _ => needsL_21
  | 22, _ => needsL_22
  | 23, _ => needsL_23
  | 24, _ => needsL_24
  | 25, _ => needsL_25
  | 26, _ => needsL_26
  | 27, _ => needsL_27
  | 28, _ => needsL_28
  | 29, _ => needsL_29
  | 30, _ => needsL_30
  | 31, _ => needsL_31
  | 32, _ => needsL_32
  | 33, _ => needsL_33
  | 34, _ => needsL_34
  | 35, _ => needsL_35
  | 36, _ => needsL_36
  | 37, _ => needsL_37
  | 38, _ => needsL_38
  | 39, _ => needsL_39
  | 40, _ => needsL_40
  | 41, _ => needsL_41
  | 42, _ => needsL_42
  | 43, _ => needsL_43
  | 44, _ => needsL_44
  | 45, _ => needsL_45
  | 46, _ => needsL_46
  | 47, _ => needsL_47
  | 48, _ => needsL_48
  | 49, _ => needsL_49
  | 50, _ => needsL_50
  | 51, _ => needsL_51
  | 52, _ => needsL_52
  | 53, _ => needsL_53
  | 54, _ => needsL_54
  | 55, _ => needsL_55
  | 56, _ => needsL_56
  | 57, _ => needsL_57
  | 58, _ => needsL_58
  | k + 59, h => absurd h (by omega)
theorem rneeds_out (c : Int) (h : ¬ (0 ≤ c ∧ c ≤ 58)) : Fsp Tryd.prog 25 [] 0 [.int .i64 c] [] 0 .nilsl := by
  have hr := rule_fs c
  have hz : rfS c = -1 := by unfold rfS ruS; rw [if_neg h]; rfl
  rw [hz] at hr
  (refine Fsp.ofs (nx := 0) mixed Tryd.func25 rfl (by simp [Tryd.f25]) ?_; simp -implicitDefEqProofs only [push_cast, Tryd.f25, seval])
  refine callE_p hr ?_
  simp -implicitDefEqProofs only [push_cast, seval]
  all_goals (first | done | rfl | exact ⟨_, rfl, by simp [wkL, res2, res1, PV.weak, PV.el]⟩ | (simp [wkL, res2, res1, PV.weak, PV.el]; done))
theorem needsN_out (c : Int) (h : ¬ (0 ≤ c ∧ c ≤ 58)) : Fsp Tryd.prog 20 [] 0 [.int .i64 c] [] 0 .nilsl := by
  have hr := ruleOf_fs c
  have hz : ruS c = 0 := by unfold ruS; rw [if_neg h]
  rw [hz] at hr
  have q1 : (c == 1) = false := by simp; omega
  have q2 : (c == 6) = false := by simp; omega
  have q3 : (c == 27) = false := by simp; omega
  have q4 : (c == 0) = false := by simp; omega
  (refine Fsp.ofs (nx := 0) mixed Tryd.func20 rfl (by simp [Tryd.f20]) ?_; simp -implicitDefEqProofs only [push_cast, Tryd.f20, seval])
  refine callE_p hr ?_
  simp -implicitDefEqProofs only [push_cast, q1, q2, q3, q4, seval]
  all_goals (first | done | rfl | exact ⟨_, rfl, by simp [wkL, res2, res1, PV.weak, PV.el]⟩ | (simp [wkL, res2, res1, PV.weak, PV.el]; done))
def Ne0.st (_ : Unit) : PS := { n := 59, env := [(24, .int .i64 0), (23, .int .i64 0)], objs := [], live := [], nxt := 60 }
theorem needsL_fs (c : Int) : Fsp Tryd.prog 8 [] 0 [.int .i64 c] [] 0 (.bool true) := by
  by_cases h : 0 ≤ c ∧ c ≤ 58
  · have := ranAllF_at mixed clA_ok (needsL_at c.toNat (by omega)) (k := 0) (r := .bool true) rfl
    rw [show ((c.toNat + 0 : Nat) : Int) = c by omega] at this
    exact this
  · have h1 := needsN_out c h
    have h2 := rneeds_out c h
    have h3 := request_fs c
    have ha := awake_fs
    rw [formR, if_neg h, form0] at h3
    (refine Fsp.ofs (nx := 0) mixed Tryd.func8 rfl (by simp [Tryd.f8]) ?_; simp -implicitDefEqProofs only [push_cast, Tryd.f8, seval])
    refine callE_p h1 ?_
    simp -implicitDefEqProofs only [push_cast, seval]
    refine callE_p h2 ?_
    simp -implicitDefEqProofs only [push_cast, seval]
    refine callE_p h3 ?_
    simp -implicitDefEqProofs only [push_cast, seval]
    refine loopC_of (α := Unit) Ne0.st (fun _ => 0) () ?_ ?_
    · (simp only [Ne0.st]; exact Wk.at _ _ _ [] [] [] (by simp) (by simp [wkV, PV.el, PV.weak, PS.get, PS.obj, PS.lv, lkp_hit, lkp_miss, lkp_nil, lko, wkL, wkC, res1]) (by simp [PS.get, PS.obj, PS.lv, lkp_hit, lkp_miss, lkp_nil, lko, wkL, wkC, PV.weak, wkL, wkC, res1]))
    · intro _
      simp only [Ne0.st]
      simp -implicitDefEqProofs only [push_cast, seval]
      refine callE_p ha ?_
      simp -implicitDefEqProofs only [push_cast, seval]
      all_goals (first | done | rfl | exact ⟨_, rfl, by simp [wkL, res2, res1, PV.weak, PV.el]⟩ | (simp [wkL, res2, res1, PV.weak, PV.el]; done))
end Go.Proofs.Sh
