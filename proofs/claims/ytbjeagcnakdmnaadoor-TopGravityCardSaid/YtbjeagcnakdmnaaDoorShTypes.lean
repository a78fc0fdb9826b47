/- The types of this program, as the operations ask for them. -/
import Derived.Test.YtbjeagcnakdmnaaDoorPvSq
import Derived.Test.YtbjeagcnakdmnaaDoorPvSs
import Derived.Test.YtbjeagcnakdmnaaDoorPvY
import Derived.Test.YtbjeagcnakdmnaaDoorChecked
set_option maxRecDepth 100000
namespace Go.Proofs.Sh
open Go.Pv
theorem mixed : Tryd.prog.follows .mixedOrders = true := by kernel_rfl
theorem tk_3 : tk Tryd.prog 3 = .int .i64 := by kernel_rfl
theorem tsz_3 : tsz Tryd.prog 3 = 1 := by kernel_rfl
theorem tby_3 : tby Tryd.prog 3 = 8 := by kernel_rfl
theorem bld_3 : bldE Tryd.prog 3 = none := by kernel_rfl
theorem zc_3 : zc Tryd.prog 3 = some [.int .i64 (0)] := by kernel_rfl
theorem tk_4 : tk Tryd.prog 4 = .bool := by kernel_rfl
theorem tk_5 : tk Tryd.prog 5 = .int .u8 := by kernel_rfl
theorem tk_22 : tk Tryd.prog 22 = .sl 26 := by kernel_rfl
theorem tsz_22 : tsz Tryd.prog 22 = 1 := by kernel_rfl
theorem bld_22 : bldE Tryd.prog 22 = none := by kernel_rfl
theorem zc_22 : zc Tryd.prog 22 = some [.nilsl] := by kernel_rfl
theorem tk_23 : tk Tryd.prog 23 = .int .i8 := by kernel_rfl
theorem tk_26 : tk Tryd.prog 26 = .st := by kernel_rfl
theorem tsz_26 : tsz Tryd.prog 26 = 4 := by kernel_rfl
theorem tby_26 : tby Tryd.prog 26 = 32 := by kernel_rfl
theorem bld_26 : bldE Tryd.prog 26 = none := by kernel_rfl
theorem zc_26 : zc Tryd.prog 26 = some [.int .i64 (0), .int .i64 (0), .int .i64 (0), .int .i64 (0)] := by kernel_rfl
theorem plS_26 : plS Tryd.prog 26 = some [(0, 1), (1, 1), (2, 1), (3, 1)] := by kernel_rfl
theorem fld_26_0 : fld Tryd.prog 26 0 = some (0, 3) := by kernel_rfl
theorem fld_26_1 : fld Tryd.prog 26 1 = some (1, 3) := by kernel_rfl
theorem fld_26_2 : fld Tryd.prog 26 2 = some (2, 3) := by kernel_rfl
theorem fld_26_3 : fld Tryd.prog 26 3 = some (3, 3) := by kernel_rfl
theorem tk_29 : tk Tryd.prog 29 = .st := by kernel_rfl
theorem tsz_29 : tsz Tryd.prog 29 = 1 := by kernel_rfl
theorem bld_29 : bldE Tryd.prog 29 = none := by kernel_rfl
theorem zc_29 : zc Tryd.prog 29 = some [.nilsl] := by kernel_rfl
theorem plS_29 : plS Tryd.prog 29 = some [(0, 1)] := by kernel_rfl
theorem fld_29_0 : fld Tryd.prog 29 0 = some (0, 22) := by kernel_rfl
theorem tk_33 : tk Tryd.prog 33 = .st := by kernel_rfl
theorem tsz_33 : tsz Tryd.prog 33 = 2 := by kernel_rfl
theorem bld_33 : bldE Tryd.prog 33 = none := by kernel_rfl
theorem zc_33 : zc Tryd.prog 33 = some [.int .i64 (0), .int .i64 (0)] := by kernel_rfl
theorem plS_33 : plS Tryd.prog 33 = some [(0, 1), (1, 1)] := by kernel_rfl
theorem fld_33_0 : fld Tryd.prog 33 0 = some (0, 3) := by kernel_rfl
theorem fld_33_1 : fld Tryd.prog 33 1 = some (1, 3) := by kernel_rfl
theorem tk_48 : tk Tryd.prog 48 = .sl 3 := by kernel_rfl
theorem tk_55 : tk Tryd.prog 55 = .st := by kernel_rfl
theorem tsz_55 : tsz Tryd.prog 55 = 2 := by kernel_rfl
theorem bld_55 : bldE Tryd.prog 55 = none := by kernel_rfl
theorem zc_55 : zc Tryd.prog 55 = some [.int .i64 (0), .int .i64 (0)] := by kernel_rfl
theorem plS_55 : plS Tryd.prog 55 = some [(0, 1), (1, 1)] := by kernel_rfl
theorem fld_55_0 : fld Tryd.prog 55 0 = some (0, 3) := by kernel_rfl
theorem fld_55_1 : fld Tryd.prog 55 1 = some (1, 3) := by kernel_rfl
theorem tk_64 : tk Tryd.prog 64 = .fn := by kernel_rfl
theorem tsz_64 : tsz Tryd.prog 64 = 1 := by kernel_rfl
theorem tk_66 : tk Tryd.prog 66 = .st := by kernel_rfl
theorem zc_66 : zc Tryd.prog 66 = some [.nilfn] := by kernel_rfl
theorem plS_66 : plS Tryd.prog 66 = some [(0, 1)] := by kernel_rfl
theorem fld_66_0 : fld Tryd.prog 66 0 = some (0, 64) := by kernel_rfl
theorem tk_79 : tk Tryd.prog 79 = .arr 2 3 := by kernel_rfl
theorem tsz_79 : tsz Tryd.prog 79 = 2 := by kernel_rfl
theorem bld_79 : bldE Tryd.prog 79 = none := by kernel_rfl
theorem zc_79 : zc Tryd.prog 79 = some [.int .i64 (0), .int .i64 (0)] := by kernel_rfl
theorem tk_80 : tk Tryd.prog 80 = .arr 10 79 := by kernel_rfl
theorem tk_84 : tk Tryd.prog 84 = .st := by kernel_rfl
theorem tsz_84 : tsz Tryd.prog 84 = 1 := by kernel_rfl
theorem bld_84 : bldE Tryd.prog 84 = none := by kernel_rfl
theorem zc_84 : zc Tryd.prog 84 = some [.nilsl] := by kernel_rfl
theorem plS_84 : plS Tryd.prog 84 = some [(0, 1)] := by kernel_rfl
theorem fld_84_0 : fld Tryd.prog 84 0 = some (0, 22) := by kernel_rfl
theorem tk_102 : tk Tryd.prog 102 = .sl 22 := by kernel_rfl
attribute [push_cast] tk_3 tsz_3 tby_3 bld_3 zc_3 tk_4 tk_5 tk_22 tsz_22 bld_22 zc_22 tk_23 tk_26 tsz_26 tby_26 bld_26 zc_26 plS_26 fld_26_0 fld_26_1 fld_26_2 fld_26_3 tk_29 tsz_29 bld_29 zc_29 plS_29 fld_29_0 tk_33 tsz_33 bld_33 zc_33 plS_33 fld_33_0 fld_33_1 tk_48 tk_55 tsz_55 bld_55 zc_55 plS_55 fld_55_0 fld_55_1 tk_64 tsz_64 tk_66 zc_66 plS_66 fld_66_0 tk_79 tsz_79 bld_79 zc_79 tk_80 tk_84 tsz_84 bld_84 zc_84 plS_84 fld_84_0 tk_102
end Go.Proofs.Sh

/- The package-level variables of this program, as they are laid; the rows that grow and are written. -/
namespace Go.Proofs
instance Tryd.gtab : Go.Pv.GTab := { tab := [(0, [.int .i64 0, .int .i64 0, .int .i64 0, .int .i64 0, .int .i64 1, .int .i64 0, .int .i64 2, .int .i64 0, .int .i64 0, .int .i64 1, .int .i64 1, .int .i64 1, .int .i64 2, .int .i64 1, .int .i64 0, .int .i64 2, .int .i64 1, .int .i64 2, .int .i64 2, .int .i64 2])], bx := fun e => Nat.beq e 26 || Nat.beq e 3 }
namespace Sh
open Go.Pv
theorem bx_26 : GTab.bx 26 = true := by kernel_rfl
theorem bx_3 : GTab.bx 3 = true := by kernel_rfl
attribute [push_cast] bx_26 bx_3
end Sh
end Go.Proofs
