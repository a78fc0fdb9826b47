/- The types of this program, as the operations ask for them. -/
import Derived.Test.YtggpilaganghkaaDoorShShelf
import Derived.Test.YtggpilaganghkaaDoorPvY
set_option maxRecDepth 100000
namespace Go.Proofs.Sh
open Go.Pv
theorem tk_1 : tk Tryd.prog 1 = .fn := by kernel_rfl
theorem tsz_1 : tsz Tryd.prog 1 = 1 := by kernel_rfl
theorem tby_1 : tby Tryd.prog 1 = 8 := by kernel_rfl
theorem bld_1 : bldE Tryd.prog 1 = none := by kernel_rfl
theorem zc_1 : zc Tryd.prog 1 = some [.nilfn] := by kernel_rfl
theorem tk_2 : tk Tryd.prog 2 = .int .i64 := by kernel_rfl
theorem tsz_2 : tsz Tryd.prog 2 = 1 := by kernel_rfl
theorem tby_2 : tby Tryd.prog 2 = 8 := by kernel_rfl
theorem bld_2 : bldE Tryd.prog 2 = none := by kernel_rfl
theorem zc_2 : zc Tryd.prog 2 = some [.int .i64 (0)] := by kernel_rfl
theorem tk_3 : tk Tryd.prog 3 = .int .i64 := by kernel_rfl
theorem tsz_3 : tsz Tryd.prog 3 = 1 := by kernel_rfl
theorem tby_3 : tby Tryd.prog 3 = 8 := by kernel_rfl
theorem bld_3 : bldE Tryd.prog 3 = none := by kernel_rfl
theorem zc_3 : zc Tryd.prog 3 = some [.int .i64 (0)] := by kernel_rfl
theorem tk_4 : tk Tryd.prog 4 = .bool := by kernel_rfl
theorem tsz_4 : tsz Tryd.prog 4 = 1 := by kernel_rfl
theorem tby_4 : tby Tryd.prog 4 = 1 := by kernel_rfl
theorem bld_4 : bldE Tryd.prog 4 = none := by kernel_rfl
theorem zc_4 : zc Tryd.prog 4 = some [.bool false] := by kernel_rfl
theorem tk_5 : tk Tryd.prog 5 = .int .u8 := by kernel_rfl
theorem tsz_5 : tsz Tryd.prog 5 = 1 := by kernel_rfl
theorem tby_5 : tby Tryd.prog 5 = 1 := by kernel_rfl
theorem bld_5 : bldE Tryd.prog 5 = none := by kernel_rfl
theorem zc_5 : zc Tryd.prog 5 = some [.int .u8 (0)] := by kernel_rfl
theorem tk_9 : tk Tryd.prog 9 = .str := by kernel_rfl
theorem tsz_9 : tsz Tryd.prog 9 = 1 := by kernel_rfl
theorem tby_9 : tby Tryd.prog 9 = 16 := by kernel_rfl
theorem bld_9 : bldE Tryd.prog 9 = none := by kernel_rfl
theorem zc_9 : zc Tryd.prog 9 = some [.str []] := by kernel_rfl
theorem tk_21 : tk Tryd.prog 21 = .int .i32 := by kernel_rfl
theorem tsz_21 : tsz Tryd.prog 21 = 1 := by kernel_rfl
theorem tby_21 : tby Tryd.prog 21 = 4 := by kernel_rfl
theorem bld_21 : bldE Tryd.prog 21 = none := by kernel_rfl
theorem zc_21 : zc Tryd.prog 21 = some [.int .i32 (0)] := by kernel_rfl
theorem tk_22 : tk Tryd.prog 22 = .sl 2 := by kernel_rfl
theorem tsz_22 : tsz Tryd.prog 22 = 1 := by kernel_rfl
theorem tby_22 : tby Tryd.prog 22 = 24 := by kernel_rfl
theorem bld_22 : bldE Tryd.prog 22 = none := by kernel_rfl
theorem zc_22 : zc Tryd.prog 22 = some [.nilsl] := by kernel_rfl
theorem tk_23 : tk Tryd.prog 23 = .sl 5 := by kernel_rfl
theorem tsz_23 : tsz Tryd.prog 23 = 1 := by kernel_rfl
theorem tby_23 : tby Tryd.prog 23 = 24 := by kernel_rfl
theorem bld_23 : bldE Tryd.prog 23 = none := by kernel_rfl
theorem zc_23 : zc Tryd.prog 23 = some [.nilsl] := by kernel_rfl
theorem tk_25 : tk Tryd.prog 25 = .st := by kernel_rfl
theorem tsz_25 : tsz Tryd.prog 25 = 4 := by kernel_rfl
theorem tby_25 : tby Tryd.prog 25 = 72 := by kernel_rfl
theorem bld_25 : bldE Tryd.prog 25 = none := by kernel_rfl
theorem zc_25 : zc Tryd.prog 25 = some [.int .i64 (0), .nilsl, .str [], .nilsl] := by kernel_rfl
theorem plS_25 : plS Tryd.prog 25 = some [(0, 1), (1, 1), (2, 1), (3, 1)] := by kernel_rfl
theorem fld_25_0 : fld Tryd.prog 25 0 = some (0, 3) := by kernel_rfl
theorem fld_25_1 : fld Tryd.prog 25 1 = some (1, 22) := by kernel_rfl
theorem fld_25_2 : fld Tryd.prog 25 2 = some (2, 9) := by kernel_rfl
theorem fld_25_3 : fld Tryd.prog 25 3 = some (3, 22) := by kernel_rfl
theorem tk_26 : tk Tryd.prog 26 = .int .i64 := by kernel_rfl
theorem tsz_26 : tsz Tryd.prog 26 = 1 := by kernel_rfl
theorem tby_26 : tby Tryd.prog 26 = 8 := by kernel_rfl
theorem bld_26 : bldE Tryd.prog 26 = none := by kernel_rfl
theorem zc_26 : zc Tryd.prog 26 = some [.int .i64 (0)] := by kernel_rfl
theorem tk_35 : tk Tryd.prog 35 = .int .u16 := by kernel_rfl
theorem tsz_35 : tsz Tryd.prog 35 = 1 := by kernel_rfl
theorem tby_35 : tby Tryd.prog 35 = 2 := by kernel_rfl
theorem bld_35 : bldE Tryd.prog 35 = none := by kernel_rfl
theorem zc_35 : zc Tryd.prog 35 = some [.int .u16 (0)] := by kernel_rfl
theorem tk_46 : tk Tryd.prog 46 = .sl 3 := by kernel_rfl
theorem tsz_46 : tsz Tryd.prog 46 = 1 := by kernel_rfl
theorem tby_46 : tby Tryd.prog 46 = 24 := by kernel_rfl
theorem bld_46 : bldE Tryd.prog 46 = none := by kernel_rfl
theorem zc_46 : zc Tryd.prog 46 = some [.nilsl] := by kernel_rfl
theorem tk_48 : tk Tryd.prog 48 = .st := by kernel_rfl
theorem tsz_48 : tsz Tryd.prog 48 = 3 := by kernel_rfl
theorem tby_48 : tby Tryd.prog 48 = 40 := by kernel_rfl
theorem bld_48 : bldE Tryd.prog 48 = none := by kernel_rfl
theorem zc_48 : zc Tryd.prog 48 = some [.nilsl, .bool false, .int .i64 (0)] := by kernel_rfl
theorem plS_48 : plS Tryd.prog 48 = some [(0, 1), (1, 1), (2, 1)] := by kernel_rfl
theorem fld_48_0 : fld Tryd.prog 48 0 = some (0, 46) := by kernel_rfl
theorem fld_48_1 : fld Tryd.prog 48 1 = some (1, 4) := by kernel_rfl
theorem fld_48_2 : fld Tryd.prog 48 2 = some (2, 3) := by kernel_rfl
theorem tk_53 : tk Tryd.prog 53 = .st := by kernel_rfl
theorem tsz_53 : tsz Tryd.prog 53 = 3 := by kernel_rfl
theorem tby_53 : tby Tryd.prog 53 = 64 := by kernel_rfl
theorem bld_53 : bldE Tryd.prog 53 = none := by kernel_rfl
theorem zc_53 : zc Tryd.prog 53 = some [.nilsl, .str [], .nilsl] := by kernel_rfl
theorem plS_53 : plS Tryd.prog 53 = some [(0, 1), (1, 1), (2, 1)] := by kernel_rfl
theorem fld_53_0 : fld Tryd.prog 53 0 = some (0, 22) := by kernel_rfl
theorem fld_53_1 : fld Tryd.prog 53 1 = some (1, 9) := by kernel_rfl
theorem fld_53_2 : fld Tryd.prog 53 2 = some (2, 22) := by kernel_rfl
theorem tk_63 : tk Tryd.prog 63 = .st := by kernel_rfl
theorem tsz_63 : tsz Tryd.prog 63 = 3 := by kernel_rfl
theorem tby_63 : tby Tryd.prog 63 = 48 := by kernel_rfl
theorem bld_63 : bldE Tryd.prog 63 = none := by kernel_rfl
theorem zc_63 : zc Tryd.prog 63 = some [.str [], .str [], .str []] := by kernel_rfl
theorem plS_63 : plS Tryd.prog 63 = some [(0, 1), (1, 1), (2, 1)] := by kernel_rfl
theorem fld_63_0 : fld Tryd.prog 63 0 = some (0, 9) := by kernel_rfl
theorem fld_63_1 : fld Tryd.prog 63 1 = some (1, 9) := by kernel_rfl
theorem fld_63_2 : fld Tryd.prog 63 2 = some (2, 9) := by kernel_rfl
theorem tk_68 : tk Tryd.prog 68 = .ptr 70 := by kernel_rfl
theorem tsz_68 : tsz Tryd.prog 68 = 1 := by kernel_rfl
theorem tby_68 : tby Tryd.prog 68 = 8 := by kernel_rfl
theorem bld_68 : bldE Tryd.prog 68 = none := by kernel_rfl
theorem zc_68 : zc Tryd.prog 68 = some [.nilptr] := by kernel_rfl
theorem tk_70 : tk Tryd.prog 70 = .st := by kernel_rfl
theorem tsz_70 : tsz Tryd.prog 70 = 2 := by kernel_rfl
theorem tby_70 : tby Tryd.prog 70 = 32 := by kernel_rfl
theorem bld_70 : bldE Tryd.prog 70 = some 5 := by kernel_rfl
theorem zc_70 : zc Tryd.prog 70 = some [.nilptr, .nilsl] := by kernel_rfl
theorem plS_70 : plS Tryd.prog 70 = some [(0, 1), (1, 1)] := by kernel_rfl
theorem fld_70_0 : fld Tryd.prog 70 0 = some (0, 68) := by kernel_rfl
theorem fld_70_1 : fld Tryd.prog 70 1 = some (1, 23) := by kernel_rfl
theorem tk_81 : tk Tryd.prog 81 = .st := by kernel_rfl
theorem tsz_81 : tsz Tryd.prog 81 = 3 := by kernel_rfl
theorem tby_81 : tby Tryd.prog 81 = 24 := by kernel_rfl
theorem bld_81 : bldE Tryd.prog 81 = none := by kernel_rfl
theorem zc_81 : zc Tryd.prog 81 = some [.int .i64 (0), .int .i64 (0), .int .i64 (0)] := by kernel_rfl
theorem plS_81 : plS Tryd.prog 81 = some [(0, 1), (1, 1), (2, 1)] := by kernel_rfl
theorem fld_81_0 : fld Tryd.prog 81 0 = some (0, 3) := by kernel_rfl
theorem fld_81_1 : fld Tryd.prog 81 1 = some (1, 2) := by kernel_rfl
theorem fld_81_2 : fld Tryd.prog 81 2 = some (2, 2) := by kernel_rfl
theorem tk_86 : tk Tryd.prog 86 = .sl 9 := by kernel_rfl
theorem tsz_86 : tsz Tryd.prog 86 = 1 := by kernel_rfl
theorem tby_86 : tby Tryd.prog 86 = 24 := by kernel_rfl
theorem bld_86 : bldE Tryd.prog 86 = none := by kernel_rfl
theorem zc_86 : zc Tryd.prog 86 = some [.nilsl] := by kernel_rfl
theorem tk_88 : tk Tryd.prog 88 = .fn := by kernel_rfl
theorem tsz_88 : tsz Tryd.prog 88 = 1 := by kernel_rfl
theorem tby_88 : tby Tryd.prog 88 = 8 := by kernel_rfl
theorem bld_88 : bldE Tryd.prog 88 = none := by kernel_rfl
theorem zc_88 : zc Tryd.prog 88 = some [.nilfn] := by kernel_rfl
theorem tk_90 : tk Tryd.prog 90 = .ptr 3 := by kernel_rfl
theorem tsz_90 : tsz Tryd.prog 90 = 1 := by kernel_rfl
theorem tby_90 : tby Tryd.prog 90 = 8 := by kernel_rfl
theorem bld_90 : bldE Tryd.prog 90 = none := by kernel_rfl
theorem zc_90 : zc Tryd.prog 90 = some [.nilptr] := by kernel_rfl
theorem tk_91 : tk Tryd.prog 91 = .ptr 26 := by kernel_rfl
theorem tsz_91 : tsz Tryd.prog 91 = 1 := by kernel_rfl
theorem tby_91 : tby Tryd.prog 91 = 8 := by kernel_rfl
theorem bld_91 : bldE Tryd.prog 91 = none := by kernel_rfl
theorem zc_91 : zc Tryd.prog 91 = some [.nilptr] := by kernel_rfl
theorem tk_93 : tk Tryd.prog 93 = .arr 30 63 := by kernel_rfl
theorem tsz_93 : tsz Tryd.prog 93 = 90 := by kernel_rfl
theorem tby_93 : tby Tryd.prog 93 = 1440 := by kernel_rfl
theorem bld_93 : bldE Tryd.prog 93 = none := by kernel_rfl
theorem zc_93 : zc Tryd.prog 93 = some [.str [], .str [], .str [], .str [], .str [], .str [], .str [], .str [], .str [], .str [], .str [], .str [], .str [], .str [], .str [], .str [], .str [], .str [], .str [], .str [], .str [], .str [], .str [], .str [], .str [], .str [], .str [], .str [], .str [], .str [], .str [], .str [], .str [], .str [], .str [], .str [], .str [], .str [], .str [], .str [], .str [], .str [], .str [], .str [], .str [], .str [], .str [], .str [], .str [], .str [], .str [], .str [], .str [], .str [], .str [], .str [], .str [], .str [], .str [], .str [], .str [], .str [], .str [], .str [], .str [], .str [], .str [], .str [], .str [], .str [], .str [], .str [], .str [], .str [], .str [], .str [], .str [], .str [], .str [], .str [], .str [], .str [], .str [], .str [], .str [], .str [], .str [], .str [], .str [], .str []] := by kernel_rfl
theorem tk_95 : tk Tryd.prog 95 = .arr 59 63 := by kernel_rfl
theorem tsz_95 : tsz Tryd.prog 95 = 177 := by kernel_rfl
theorem tby_95 : tby Tryd.prog 95 = 2832 := by kernel_rfl
theorem bld_95 : bldE Tryd.prog 95 = none := by kernel_rfl
theorem zc_95 : zc Tryd.prog 95 = some [.str [], .str [], .str [], .str [], .str [], .str [], .str [], .str [], .str [], .str [], .str [], .str [], .str [], .str [], .str [], .str [], .str [], .str [], .str [], .str [], .str [], .str [], .str [], .str [], .str [], .str [], .str [], .str [], .str [], .str [], .str [], .str [], .str [], .str [], .str [], .str [], .str [], .str [], .str [], .str [], .str [], .str [], .str [], .str [], .str [], .str [], .str [], .str [], .str [], .str [], .str [], .str [], .str [], .str [], .str [], .str [], .str [], .str [], .str [], .str [], .str [], .str [], .str [], .str [], .str [], .str [], .str [], .str [], .str [], .str [], .str [], .str [], .str [], .str [], .str [], .str [], .str [], .str [], .str [], .str [], .str [], .str [], .str [], .str [], .str [], .str [], .str [], .str [], .str [], .str [], .str [], .str [], .str [], .str [], .str [], .str [], .str [], .str [], .str [], .str [], .str [], .str [], .str [], .str [], .str [], .str [], .str [], .str [], .str [], .str [], .str [], .str [], .str [], .str [], .str [], .str [], .str [], .str [], .str [], .str [], .str [], .str [], .str [], .str [], .str [], .str [], .str [], .str [], .str [], .str [], .str [], .str [], .str [], .str [], .str [], .str [], .str [], .str [], .str [], .str [], .str [], .str [], .str [], .str [], .str [], .str [], .str [], .str [], .str [], .str [], .str [], .str [], .str [], .str [], .str [], .str [], .str [], .str [], .str [], .str [], .str [], .str [], .str [], .str [], .str [], .str [], .str [], .str [], .str [], .str [], .str [], .str [], .str [], .str [], .str [], .str [], .str []] := by kernel_rfl
theorem tk_101 : tk Tryd.prog 101 = .ptr 5 := by kernel_rfl
theorem tsz_101 : tsz Tryd.prog 101 = 1 := by kernel_rfl
theorem tby_101 : tby Tryd.prog 101 = 8 := by kernel_rfl
theorem bld_101 : bldE Tryd.prog 101 = none := by kernel_rfl
theorem zc_101 : zc Tryd.prog 101 = some [.nilptr] := by kernel_rfl
theorem tk_102 : tk Tryd.prog 102 = .arr 6 81 := by kernel_rfl
theorem tsz_102 : tsz Tryd.prog 102 = 18 := by kernel_rfl
theorem tby_102 : tby Tryd.prog 102 = 144 := by kernel_rfl
theorem bld_102 : bldE Tryd.prog 102 = none := by kernel_rfl
theorem zc_102 : zc Tryd.prog 102 = some [.int .i64 (0), .int .i64 (0), .int .i64 (0), .int .i64 (0), .int .i64 (0), .int .i64 (0), .int .i64 (0), .int .i64 (0), .int .i64 (0), .int .i64 (0), .int .i64 (0), .int .i64 (0), .int .i64 (0), .int .i64 (0), .int .i64 (0), .int .i64 (0), .int .i64 (0), .int .i64 (0)] := by kernel_rfl
theorem tk_103 : tk Tryd.prog 103 = .int .u64 := by kernel_rfl
theorem tsz_103 : tsz Tryd.prog 103 = 1 := by kernel_rfl
theorem tby_103 : tby Tryd.prog 103 = 8 := by kernel_rfl
theorem bld_103 : bldE Tryd.prog 103 = none := by kernel_rfl
theorem zc_103 : zc Tryd.prog 103 = some [.int .u64 (0)] := by kernel_rfl
theorem tk_104 : tk Tryd.prog 104 = .arr 256 5 := by kernel_rfl
theorem tsz_104 : tsz Tryd.prog 104 = 256 := by kernel_rfl
theorem tby_104 : tby Tryd.prog 104 = 256 := by kernel_rfl
theorem bld_104 : bldE Tryd.prog 104 = none := by kernel_rfl
theorem zc_104 : zc Tryd.prog 104 = some [.int .u8 (0), .int .u8 (0), .int .u8 (0), .int .u8 (0), .int .u8 (0), .int .u8 (0), .int .u8 (0), .int .u8 (0), .int .u8 (0), .int .u8 (0), .int .u8 (0), .int .u8 (0), .int .u8 (0), .int .u8 (0), .int .u8 (0), .int .u8 (0), .int .u8 (0), .int .u8 (0), .int .u8 (0), .int .u8 (0), .int .u8 (0), .int .u8 (0), .int .u8 (0), .int .u8 (0), .int .u8 (0), .int .u8 (0), .int .u8 (0), .int .u8 (0), .int .u8 (0), .int .u8 (0), .int .u8 (0), .int .u8 (0), .int .u8 (0), .int .u8 (0), .int .u8 (0), .int .u8 (0), .int .u8 (0), .int .u8 (0), .int .u8 (0), .int .u8 (0), .int .u8 (0), .int .u8 (0), .int .u8 (0), .int .u8 (0), .int .u8 (0), .int .u8 (0), .int .u8 (0), .int .u8 (0), .int .u8 (0), .int .u8 (0), .int .u8 (0), .int .u8 (0), .int .u8 (0), .int .u8 (0), .int .u8 (0), .int .u8 (0), .int .u8 (0), .int .u8 (0), .int .u8 (0), .int .u8 (0), .int .u8 (0), .int .u8 (0), .int .u8 (0), .int .u8 (0), .int .u8 (0), .int .u8 (0), .int .u8 (0), .int .u8 (0), .int .u8 (0), .int .u8 (0), .int .u8 (0), .int .u8 (0), .int .u8 (0), .int .u8 (0), .int .u8 (0), .int .u8 (0), .int .u8 (0), .int .u8 (0), .int .u8 (0), .int .u8 (0), .int .u8 (0), .int .u8 (0), .int .u8 (0), .int .u8 (0), .int .u8 (0), .int .u8 (0), .int .u8 (0), .int .u8 (0), .int .u8 (0), .int .u8 (0), .int .u8 (0), .int .u8 (0), .int .u8 (0), .int .u8 (0), .int .u8 (0), .int .u8 (0), .int .u8 (0), .int .u8 (0), .int .u8 (0), .int .u8 (0), .int .u8 (0), .int .u8 (0), .int .u8 (0), .int .u8 (0), .int .u8 (0), .int .u8 (0), .int .u8 (0), .int .u8 (0), .int .u8 (0), .int .u8 (0), .int .u8 (0), .int .u8 (0), .int .u8 (0), .int .u8 (0), .int .u8 (0), .int .u8 (0), .int .u8 (0), .int .u8 (0), .int .u8 (0), .int .u8 (0), .int .u8 (0), .int .u8 (0), .int .u8 (0), .int .u8 (0), .int .u8 (0), .int .u8 (0), .int .u8 (0), .int .u8 (0), .int .u8 (0), .int .u8 (0), .int .u8 (0), .int .u8 (0), .int .u8 (0), .int .u8 (0), .int .u8 (0), .int .u8 (0), .int .u8 (0), .int .u8 (0), .int .u8 (0), .int .u8 (0), .int .u8 (0), .int .u8 (0), .int .u8 (0), .int .u8 (0), .int .u8 (0), .int .u8 (0), .int .u8 (0), .int .u8 (0), .int .u8 (0), .int .u8 (0), .int .u8 (0), .int .u8 (0), .int .u8 (0), .int .u8 (0), .int .u8 (0), .int .u8 (0), .int .u8 (0), .int .u8 (0), .int .u8 (0), .int .u8 (0), .int .u8 (0), .int .u8 (0), .int .u8 (0), .int .u8 (0), .int .u8 (0), .int .u8 (0), .int .u8 (0), .int .u8 (0), .int .u8 (0), .int .u8 (0), .int .u8 (0), .int .u8 (0), .int .u8 (0), .int .u8 (0), .int .u8 (0), .int .u8 (0), .int .u8 (0), .int .u8 (0), .int .u8 (0), .int .u8 (0), .int .u8 (0), .int .u8 (0), .int .u8 (0), .int .u8 (0), .int .u8 (0), .int .u8 (0), .int .u8 (0), .int .u8 (0), .int .u8 (0), .int .u8 (0), .int .u8 (0), .int .u8 (0), .int .u8 (0), .int .u8 (0), .int .u8 (0), .int .u8 (0), .int .u8 (0), .int .u8 (0), .int .u8 (0), .int .u8 (0), .int .u8 (0), .int .u8 (0), .int .u8 (0), .int .u8 (0), .int .u8 (0), .int .u8 (0), .int .u8 (0), .int .u8 (0), .int .u8 (0), .int .u8 (0), .int .u8 (0), .int .u8 (0), .int .u8 (0), .int .u8 (0), .int .u8 (0), .int .u8 (0), .int .u8 (0), .int .u8 (0), .int .u8 (0), .int .u8 (0), .int .u8 (0), .int .u8 (0), .int .u8 (0), .int .u8 (0), .int .u8 (0), .int .u8 (0), .int .u8 (0), .int .u8 (0), .int .u8 (0), .int .u8 (0), .int .u8 (0), .int .u8 (0), .int .u8 (0), .int .u8 (0), .int .u8 (0), .int .u8 (0), .int .u8 (0), .int .u8 (0), .int .u8 (0), .int .u8 (0), .int .u8 (0), .int .u8 (0), .int .u8 (0), .int .u8 (0), .int .u8 (0), .int .u8 (0), .int .u8 (0), .int .u8 (0), .int .u8 (0), .int .u8 (0), .int .u8 (0), .int .u8 (0), .int .u8 (0), .int .u8 (0), .int .u8 (0), .int .u8 (0)] := by kernel_rfl
theorem tk_106 : tk Tryd.prog 106 = .fn := by kernel_rfl
theorem tsz_106 : tsz Tryd.prog 106 = 1 := by kernel_rfl
theorem tby_106 : tby Tryd.prog 106 = 8 := by kernel_rfl
theorem bld_106 : bldE Tryd.prog 106 = none := by kernel_rfl
theorem zc_106 : zc Tryd.prog 106 = some [.nilfn] := by kernel_rfl
theorem tk_108 : tk Tryd.prog 108 = .other := by kernel_rfl
theorem tsz_108 : tsz Tryd.prog 108 = 1 := by kernel_rfl
theorem tby_108 : tby Tryd.prog 108 = 8 := by kernel_rfl
theorem bld_108 : bldE Tryd.prog 108 = none := by kernel_rfl
theorem zc_108 : zc Tryd.prog 108 = some [.nilptr] := by kernel_rfl
theorem tk_110 : tk Tryd.prog 110 = .sl 112 := by kernel_rfl
theorem tsz_110 : tsz Tryd.prog 110 = 1 := by kernel_rfl
theorem tby_110 : tby Tryd.prog 110 = 24 := by kernel_rfl
theorem bld_110 : bldE Tryd.prog 110 = none := by kernel_rfl
theorem zc_110 : zc Tryd.prog 110 = some [.nilsl] := by kernel_rfl
theorem tk_112 : tk Tryd.prog 112 = .st := by kernel_rfl
theorem tsz_112 : tsz Tryd.prog 112 = 2 := by kernel_rfl
theorem tby_112 : tby Tryd.prog 112 = 16 := by kernel_rfl
theorem bld_112 : bldE Tryd.prog 112 = none := by kernel_rfl
theorem zc_112 : zc Tryd.prog 112 = some [.int .i64 (0), .int .i64 (0)] := by kernel_rfl
theorem plS_112 : plS Tryd.prog 112 = some [(0, 1), (1, 1)] := by kernel_rfl
theorem fld_112_0 : fld Tryd.prog 112 0 = some (0, 3) := by kernel_rfl
theorem fld_112_1 : fld Tryd.prog 112 1 = some (1, 3) := by kernel_rfl
theorem tk_113 : tk Tryd.prog 113 = .int .u32 := by kernel_rfl
theorem tsz_113 : tsz Tryd.prog 113 = 1 := by kernel_rfl
theorem tby_113 : tby Tryd.prog 113 = 4 := by kernel_rfl
theorem bld_113 : bldE Tryd.prog 113 = none := by kernel_rfl
theorem zc_113 : zc Tryd.prog 113 = some [.int .u32 (0)] := by kernel_rfl
theorem tk_115 : tk Tryd.prog 115 = .ptr 126 := by kernel_rfl
theorem tsz_115 : tsz Tryd.prog 115 = 1 := by kernel_rfl
theorem tby_115 : tby Tryd.prog 115 = 8 := by kernel_rfl
theorem bld_115 : bldE Tryd.prog 115 = none := by kernel_rfl
theorem zc_115 : zc Tryd.prog 115 = some [.nilptr] := by kernel_rfl
theorem tk_118 : tk Tryd.prog 118 = .arr 256 4 := by kernel_rfl
theorem tsz_118 : tsz Tryd.prog 118 = 256 := by kernel_rfl
theorem tby_118 : tby Tryd.prog 118 = 256 := by kernel_rfl
theorem bld_118 : bldE Tryd.prog 118 = none := by kernel_rfl
theorem zc_118 : zc Tryd.prog 118 = some [.bool false, .bool false, .bool false, .bool false, .bool false, .bool false, .bool false, .bool false, .bool false, .bool false, .bool false, .bool false, .bool false, .bool false, .bool false, .bool false, .bool false, .bool false, .bool false, .bool false, .bool false, .bool false, .bool false, .bool false, .bool false, .bool false, .bool false, .bool false, .bool false, .bool false, .bool false, .bool false, .bool false, .bool false, .bool false, .bool false, .bool false, .bool false, .bool false, .bool false, .bool false, .bool false, .bool false, .bool false, .bool false, .bool false, .bool false, .bool false, .bool false, .bool false, .bool false, .bool false, .bool false, .bool false, .bool false, .bool false, .bool false, .bool false, .bool false, .bool false, .bool false, .bool false, .bool false, .bool false, .bool false, .bool false, .bool false, .bool false, .bool false, .bool false, .bool false, .bool false, .bool false, .bool false, .bool false, .bool false, .bool false, .bool false, .bool false, .bool false, .bool false, .bool false, .bool false, .bool false, .bool false, .bool false, .bool false, .bool false, .bool false, .bool false, .bool false, .bool false, .bool false, .bool false, .bool false, .bool false, .bool false, .bool false, .bool false, .bool false, .bool false, .bool false, .bool false, .bool false, .bool false, .bool false, .bool false, .bool false, .bool false, .bool false, .bool false, .bool false, .bool false, .bool false, .bool false, .bool false, .bool false, .bool false, .bool false, .bool false, .bool false, .bool false, .bool false, .bool false, .bool false, .bool false, .bool false, .bool false, .bool false, .bool false, .bool false, .bool false, .bool false, .bool false, .bool false, .bool false, .bool false, .bool false, .bool false, .bool false, .bool false, .bool false, .bool false, .bool false, .bool false, .bool false, .bool false, .bool false, .bool false, .bool false, .bool false, .bool false, .bool false, .bool false, .bool false, .bool false, .bool false, .bool false, .bool false, .bool false, .bool false, .bool false, .bool false, .bool false, .bool false, .bool false, .bool false, .bool false, .bool false, .bool false, .bool false, .bool false, .bool false, .bool false, .bool false, .bool false, .bool false, .bool false, .bool false, .bool false, .bool false, .bool false, .bool false, .bool false, .bool false, .bool false, .bool false, .bool false, .bool false, .bool false, .bool false, .bool false, .bool false, .bool false, .bool false, .bool false, .bool false, .bool false, .bool false, .bool false, .bool false, .bool false, .bool false, .bool false, .bool false, .bool false, .bool false, .bool false, .bool false, .bool false, .bool false, .bool false, .bool false, .bool false, .bool false, .bool false, .bool false, .bool false, .bool false, .bool false, .bool false, .bool false, .bool false, .bool false, .bool false, .bool false, .bool false, .bool false, .bool false, .bool false, .bool false, .bool false, .bool false, .bool false, .bool false, .bool false, .bool false, .bool false, .bool false, .bool false, .bool false, .bool false, .bool false, .bool false, .bool false, .bool false, .bool false, .bool false, .bool false, .bool false, .bool false, .bool false, .bool false, .bool false, .bool false, .bool false] := by kernel_rfl
theorem tk_122 : tk Tryd.prog 122 = .arr 6 3 := by kernel_rfl
theorem tsz_122 : tsz Tryd.prog 122 = 6 := by kernel_rfl
theorem tby_122 : tby Tryd.prog 122 = 48 := by kernel_rfl
theorem bld_122 : bldE Tryd.prog 122 = none := by kernel_rfl
theorem zc_122 : zc Tryd.prog 122 = some [.int .i64 (0), .int .i64 (0), .int .i64 (0), .int .i64 (0), .int .i64 (0), .int .i64 (0)] := by kernel_rfl
theorem tk_123 : tk Tryd.prog 123 = .sl 128 := by kernel_rfl
theorem tsz_123 : tsz Tryd.prog 123 = 1 := by kernel_rfl
theorem tby_123 : tby Tryd.prog 123 = 24 := by kernel_rfl
theorem bld_123 : bldE Tryd.prog 123 = none := by kernel_rfl
theorem zc_123 : zc Tryd.prog 123 = some [.nilsl] := by kernel_rfl
theorem tk_124 : tk Tryd.prog 124 = .sl 131 := by kernel_rfl
theorem tsz_124 : tsz Tryd.prog 124 = 1 := by kernel_rfl
theorem tby_124 : tby Tryd.prog 124 = 24 := by kernel_rfl
theorem bld_124 : bldE Tryd.prog 124 = none := by kernel_rfl
theorem zc_124 : zc Tryd.prog 124 = some [.nilsl] := by kernel_rfl
theorem tk_126 : tk Tryd.prog 126 = .st := by kernel_rfl
theorem tsz_126 : tsz Tryd.prog 126 = 3 := by kernel_rfl
theorem tby_126 : tby Tryd.prog 126 = 56 := by kernel_rfl
theorem bld_126 : bldE Tryd.prog 126 = none := by kernel_rfl
theorem zc_126 : zc Tryd.prog 126 = some [.nilsl, .nilsl, .int .i64 (0)] := by kernel_rfl
theorem plS_126 : plS Tryd.prog 126 = some [(0, 1), (1, 1), (2, 1)] := by kernel_rfl
theorem fld_126_0 : fld Tryd.prog 126 0 = some (0, 123) := by kernel_rfl
theorem fld_126_1 : fld Tryd.prog 126 1 = some (1, 124) := by kernel_rfl
theorem fld_126_2 : fld Tryd.prog 126 2 = some (2, 3) := by kernel_rfl
theorem tk_128 : tk Tryd.prog 128 = .st := by kernel_rfl
theorem tsz_128 : tsz Tryd.prog 128 = 3 := by kernel_rfl
theorem tby_128 : tby Tryd.prog 128 = 6 := by kernel_rfl
theorem bld_128 : bldE Tryd.prog 128 = none := by kernel_rfl
theorem zc_128 : zc Tryd.prog 128 = some [.int .u16 (0), .int .u16 (0), .int .u16 (0)] := by kernel_rfl
theorem plS_128 : plS Tryd.prog 128 = some [(0, 1), (1, 1), (2, 1)] := by kernel_rfl
theorem fld_128_0 : fld Tryd.prog 128 0 = some (0, 35) := by kernel_rfl
theorem fld_128_1 : fld Tryd.prog 128 1 = some (1, 35) := by kernel_rfl
theorem fld_128_2 : fld Tryd.prog 128 2 = some (2, 35) := by kernel_rfl
theorem tk_131 : tk Tryd.prog 131 = .st := by kernel_rfl
theorem tsz_131 : tsz Tryd.prog 131 = 3 := by kernel_rfl
theorem tby_131 : tby Tryd.prog 131 = 12 := by kernel_rfl
theorem bld_131 : bldE Tryd.prog 131 = none := by kernel_rfl
theorem zc_131 : zc Tryd.prog 131 = some [.int .u32 (0), .int .u32 (0), .int .u32 (0)] := by kernel_rfl
theorem plS_131 : plS Tryd.prog 131 = some [(0, 1), (1, 1), (2, 1)] := by kernel_rfl
theorem fld_131_0 : fld Tryd.prog 131 0 = some (0, 113) := by kernel_rfl
theorem fld_131_1 : fld Tryd.prog 131 1 = some (1, 113) := by kernel_rfl
theorem fld_131_2 : fld Tryd.prog 131 2 = some (2, 113) := by kernel_rfl
theorem tk_134 : tk Tryd.prog 134 = .int .u64 := by kernel_rfl
theorem tsz_134 : tsz Tryd.prog 134 = 1 := by kernel_rfl
theorem tby_134 : tby Tryd.prog 134 = 8 := by kernel_rfl
theorem bld_134 : bldE Tryd.prog 134 = none := by kernel_rfl
theorem zc_134 : zc Tryd.prog 134 = some [.int .u64 (0)] := by kernel_rfl
attribute [push_cast] tk_1 tsz_1 tby_1 bld_1 zc_1 tk_2 tsz_2 tby_2 bld_2 zc_2 tk_3 tsz_3 tby_3 bld_3 zc_3 tk_4 tsz_4 tby_4 bld_4 zc_4 tk_5 tsz_5 tby_5 bld_5 zc_5 tk_9 tsz_9 tby_9 bld_9 zc_9 tk_21 tsz_21 tby_21 bld_21 zc_21 tk_22 tsz_22 tby_22 bld_22 zc_22 tk_23 tsz_23 tby_23 bld_23 zc_23 tk_25 tsz_25 tby_25 bld_25 zc_25 plS_25 fld_25_0 fld_25_1 fld_25_2 fld_25_3 tk_26 tsz_26 tby_26 bld_26 zc_26 tk_35 tsz_35 tby_35 bld_35 zc_35 tk_46 tsz_46 tby_46 bld_46 zc_46 tk_48 tsz_48 tby_48 bld_48 zc_48 plS_48 fld_48_0 fld_48_1 fld_48_2 tk_53 tsz_53 tby_53 bld_53 zc_53 plS_53 fld_53_0 fld_53_1 fld_53_2 tk_63 tsz_63 tby_63 bld_63 zc_63 plS_63 fld_63_0 fld_63_1 fld_63_2 tk_68 tsz_68 tby_68 bld_68 zc_68 tk_70 tsz_70 tby_70 bld_70 zc_70 plS_70 fld_70_0 fld_70_1 tk_81 tsz_81 tby_81 bld_81 zc_81 plS_81 fld_81_0 fld_81_1 fld_81_2 tk_86 tsz_86 tby_86 bld_86 zc_86 tk_88 tsz_88 tby_88 bld_88 zc_88 tk_90 tsz_90 tby_90 bld_90 zc_90 tk_91 tsz_91 tby_91 bld_91 zc_91 tk_93 tsz_93 tby_93 bld_93 zc_93 tk_95 tsz_95 tby_95 bld_95 zc_95 tk_101 tsz_101 tby_101 bld_101 zc_101 tk_102 tsz_102 tby_102 bld_102 zc_102 tk_103 tsz_103 tby_103 bld_103 zc_103 tk_104 tsz_104 tby_104 bld_104 zc_104 tk_106 tsz_106 tby_106 bld_106 zc_106 tk_108 tsz_108 tby_108 bld_108 zc_108 tk_110 tsz_110 tby_110 bld_110 zc_110 tk_112 tsz_112 tby_112 bld_112 zc_112 plS_112 fld_112_0 fld_112_1 tk_113 tsz_113 tby_113 bld_113 zc_113 tk_115 tsz_115 tby_115 bld_115 zc_115 tk_118 tsz_118 tby_118 bld_118 zc_118 tk_122 tsz_122 tby_122 bld_122 zc_122 tk_123 tsz_123 tby_123 bld_123 zc_123 tk_124 tsz_124 tby_124 bld_124 zc_124 tk_126 tsz_126 tby_126 bld_126 zc_126 plS_126 fld_126_0 fld_126_1 fld_126_2 tk_128 tsz_128 tby_128 bld_128 zc_128 plS_128 fld_128_0 fld_128_1 fld_128_2 tk_131 tsz_131 tby_131 bld_131 zc_131 plS_131 fld_131_0 fld_131_1 fld_131_2 tk_134 tsz_134 tby_134 bld_134 zc_134
end Go.Proofs.Sh
