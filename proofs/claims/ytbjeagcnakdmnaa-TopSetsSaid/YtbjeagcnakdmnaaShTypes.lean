/- The types of this program, as the operations ask for them. -/
import Derived.Test.YtbjeagcnakdmnaaPvSq
import Derived.Test.YtbjeagcnakdmnaaPvSs
import Derived.Test.YtbjeagcnakdmnaaPvY
import Derived.Test.YtbjeagcnakdmnaaChecked
set_option maxRecDepth 100000
namespace Go.Proofs.Sh
open Go.Pv
theorem mixed : Try.prog.follows .mixedOrders = true := by kernel_rfl
theorem tk_3 : tk Try.prog 3 = .int .i64 := by kernel_rfl
theorem tsz_3 : tsz Try.prog 3 = 1 := by kernel_rfl
theorem tby_3 : tby Try.prog 3 = 8 := by kernel_rfl
theorem bld_3 : bldE Try.prog 3 = none := by kernel_rfl
theorem zc_3 : zc Try.prog 3 = some [.int .i64 (0)] := by kernel_rfl
theorem tk_4 : tk Try.prog 4 = .bool := by kernel_rfl
theorem tk_5 : tk Try.prog 5 = .int .u8 := by kernel_rfl
theorem tsz_5 : tsz Try.prog 5 = 1 := by kernel_rfl
theorem tby_5 : tby Try.prog 5 = 1 := by kernel_rfl
theorem zc_5 : zc Try.prog 5 = some [.int .u8 (0)] := by kernel_rfl
theorem tk_9 : tk Try.prog 9 = .str := by kernel_rfl
theorem tsz_9 : tsz Try.prog 9 = 1 := by kernel_rfl
theorem tk_22 : tk Try.prog 22 = .sl 63 := by kernel_rfl
theorem tk_24 : tk Try.prog 24 = .sl 41 := by kernel_rfl
theorem tsz_24 : tsz Try.prog 24 = 1 := by kernel_rfl
theorem bld_24 : bldE Try.prog 24 = none := by kernel_rfl
theorem zc_24 : zc Try.prog 24 = some [.nilsl] := by kernel_rfl
theorem tk_26 : tk Try.prog 26 = .st := by kernel_rfl
theorem tsz_26 : tsz Try.prog 26 = 1 := by kernel_rfl
theorem bld_26 : bldE Try.prog 26 = none := by kernel_rfl
theorem zc_26 : zc Try.prog 26 = some [.nilsl] := by kernel_rfl
theorem plS_26 : plS Try.prog 26 = some [(0, 1)] := by kernel_rfl
theorem fld_26_0 : fld Try.prog 26 0 = some (0, 24) := by kernel_rfl
theorem tk_29 : tk Try.prog 29 = .int .i64 := by kernel_rfl
theorem tsz_29 : tsz Try.prog 29 = 1 := by kernel_rfl
theorem bld_29 : bldE Try.prog 29 = none := by kernel_rfl
theorem zc_29 : zc Try.prog 29 = some [.int .i64 (0)] := by kernel_rfl
theorem tk_33 : tk Try.prog 33 = .sl 26 := by kernel_rfl
theorem tk_41 : tk Try.prog 41 = .st := by kernel_rfl
theorem tsz_41 : tsz Try.prog 41 = 4 := by kernel_rfl
theorem tby_41 : tby Try.prog 41 = 32 := by kernel_rfl
theorem bld_41 : bldE Try.prog 41 = none := by kernel_rfl
theorem zc_41 : zc Try.prog 41 = some [.int .i64 (0), .int .i64 (0), .int .i64 (0), .int .i64 (0)] := by kernel_rfl
theorem plS_41 : plS Try.prog 41 = some [(0, 1), (1, 1), (2, 1), (3, 1)] := by kernel_rfl
theorem fld_41_0 : fld Try.prog 41 0 = some (0, 3) := by kernel_rfl
theorem fld_41_1 : fld Try.prog 41 1 = some (1, 3) := by kernel_rfl
theorem fld_41_2 : fld Try.prog 41 2 = some (2, 3) := by kernel_rfl
theorem fld_41_3 : fld Try.prog 41 3 = some (3, 3) := by kernel_rfl
theorem tk_52 : tk Try.prog 52 = .sl 3 := by kernel_rfl
theorem tk_59 : tk Try.prog 59 = .st := by kernel_rfl
theorem tsz_59 : tsz Try.prog 59 = 2 := by kernel_rfl
theorem bld_59 : bldE Try.prog 59 = none := by kernel_rfl
theorem zc_59 : zc Try.prog 59 = some [.int .i64 (0), .int .i64 (0)] := by kernel_rfl
theorem plS_59 : plS Try.prog 59 = some [(0, 1), (1, 1)] := by kernel_rfl
theorem fld_59_0 : fld Try.prog 59 0 = some (0, 3) := by kernel_rfl
theorem fld_59_1 : fld Try.prog 59 1 = some (1, 3) := by kernel_rfl
theorem tk_63 : tk Try.prog 63 = .st := by kernel_rfl
theorem tsz_63 : tsz Try.prog 63 = 4 := by kernel_rfl
theorem bld_63 : bldE Try.prog 63 = none := by kernel_rfl
theorem zc_63 : zc Try.prog 63 = some [.int .u8 (0), .int .u8 (0), .int .u8 (0), .int .u8 (0)] := by kernel_rfl
theorem fld_63_0 : fld Try.prog 63 0 = some (0, 5) := by kernel_rfl
theorem fld_63_1 : fld Try.prog 63 1 = some (1, 5) := by kernel_rfl
theorem fld_63_2 : fld Try.prog 63 2 = some (2, 5) := by kernel_rfl
theorem fld_63_3 : fld Try.prog 63 3 = some (3, 5) := by kernel_rfl
theorem tk_65 : tk Try.prog 65 = .sl 5 := by kernel_rfl
theorem tk_67 : tk Try.prog 67 = .fn := by kernel_rfl
theorem tsz_67 : tsz Try.prog 67 = 1 := by kernel_rfl
theorem tk_69 : tk Try.prog 69 = .st := by kernel_rfl
theorem zc_69 : zc Try.prog 69 = some [.nilfn] := by kernel_rfl
theorem plS_69 : plS Try.prog 69 = some [(0, 1)] := by kernel_rfl
theorem fld_69_0 : fld Try.prog 69 0 = some (0, 67) := by kernel_rfl
theorem tk_88 : tk Try.prog 88 = .st := by kernel_rfl
theorem tsz_88 : tsz Try.prog 88 = 1 := by kernel_rfl
theorem bld_88 : bldE Try.prog 88 = none := by kernel_rfl
theorem zc_88 : zc Try.prog 88 = some [.nilsl] := by kernel_rfl
theorem plS_88 : plS Try.prog 88 = some [(0, 1)] := by kernel_rfl
theorem fld_88_0 : fld Try.prog 88 0 = some (0, 24) := by kernel_rfl
theorem tk_106 : tk Try.prog 106 = .sl 24 := by kernel_rfl
attribute [push_cast] tk_3 tsz_3 tby_3 bld_3 zc_3 tk_4 tk_5 tsz_5 tby_5 zc_5 tk_9 tsz_9 tk_22 tk_24 tsz_24 bld_24 zc_24 tk_26 tsz_26 bld_26 zc_26 plS_26 fld_26_0 tk_29 tsz_29 bld_29 zc_29 tk_33 tk_41 tsz_41 tby_41 bld_41 zc_41 plS_41 fld_41_0 fld_41_1 fld_41_2 fld_41_3 tk_52 tk_59 tsz_59 bld_59 zc_59 plS_59 fld_59_0 fld_59_1 tk_63 tsz_63 bld_63 zc_63 fld_63_0 fld_63_1 fld_63_2 fld_63_3 tk_65 tk_67 tsz_67 tk_69 zc_69 plS_69 fld_69_0 tk_88 tsz_88 bld_88 zc_88 plS_88 fld_88_0 tk_106
end Go.Proofs.Sh

/- The package-level variables of this program, as they are laid; the rows that grow and are written. -/
namespace Go.Proofs
instance Try.gtab : Go.Pv.GTab := { tab := [], bx := fun e => Nat.beq e 41 || Nat.beq e 3 }
namespace Sh
open Go.Pv
theorem bx_41 : GTab.bx 41 = true := by kernel_rfl
theorem bx_3 : GTab.bx 3 = true := by kernel_rfl
theorem bx_5 : GTab.bx 5 = false := by kernel_rfl
attribute [push_cast] bx_41 bx_3 bx_5
end Sh
end Go.Proofs
