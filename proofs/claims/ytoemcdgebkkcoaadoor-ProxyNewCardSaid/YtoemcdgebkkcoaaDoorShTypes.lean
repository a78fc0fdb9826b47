/- The types of this program, as the operations ask for them. -/
import Derived.Test.YtoemcdgebkkcoaaDoorShShelf
import Derived.Test.YtoemcdgebkkcoaaDoorPvY
set_option maxRecDepth 100000
namespace Go.Proofs.Sh
open Go.Pv
theorem tk_2 : tk Tryd.prog 2 = .int .i64 := by kernel_rfl
theorem tsz_2 : tsz Tryd.prog 2 = 1 := by kernel_rfl
theorem tby_2 : tby Tryd.prog 2 = 8 := by kernel_rfl
theorem bld_2 : bldE Tryd.prog 2 = none := by kernel_rfl
theorem zc_2 : zc Tryd.prog 2 = some [.int .i64 (0)] := by kernel_rfl
theorem tk_3 : tk Tryd.prog 3 = .int .i64 := by kernel_rfl
theorem tsz_3 : tsz Tryd.prog 3 = 1 := by kernel_rfl
theorem tby_3 : tby Tryd.prog 3 = 8 := by kernel_rfl
theorem bld_3 : bldE Tryd.prog 3 = none := by kernel_rfl
theorem zc_3 : zc Tryd.prog 3 = some [.int .i64 (0)] := by kernel_rfl
theorem tk_4 : tk Tryd.prog 4 = .bool := by kernel_rfl
theorem tsz_4 : tsz Tryd.prog 4 = 1 := by kernel_rfl
theorem tby_4 : tby Tryd.prog 4 = 1 := by kernel_rfl
theorem bld_4 : bldE Tryd.prog 4 = none := by kernel_rfl
theorem zc_4 : zc Tryd.prog 4 = some [.bool false] := by kernel_rfl
theorem tk_5 : tk Tryd.prog 5 = .int .u8 := by kernel_rfl
theorem tsz_5 : tsz Tryd.prog 5 = 1 := by kernel_rfl
theorem tby_5 : tby Tryd.prog 5 = 1 := by kernel_rfl
theorem bld_5 : bldE Tryd.prog 5 = none := by kernel_rfl
theorem zc_5 : zc Tryd.prog 5 = some [.int .u8 (0)] := by kernel_rfl
theorem tk_9 : tk Tryd.prog 9 = .str := by kernel_rfl
theorem tsz_9 : tsz Tryd.prog 9 = 1 := by kernel_rfl
theorem tby_9 : tby Tryd.prog 9 = 16 := by kernel_rfl
theorem bld_9 : bldE Tryd.prog 9 = none := by kernel_rfl
theorem zc_9 : zc Tryd.prog 9 = some [.str []] := by kernel_rfl
theorem tk_21 : tk Tryd.prog 21 = .int .i32 := by kernel_rfl
theorem tsz_21 : tsz Tryd.prog 21 = 1 := by kernel_rfl
theorem tby_21 : tby Tryd.prog 21 = 4 := by kernel_rfl
theorem bld_21 : bldE Tryd.prog 21 = none := by kernel_rfl
theorem zc_21 : zc Tryd.prog 21 = some [.int .i32 (0)] := by kernel_rfl
theorem tk_23 : tk Tryd.prog 23 = .fn := by kernel_rfl
theorem tsz_23 : tsz Tryd.prog 23 = 1 := by kernel_rfl
theorem tby_23 : tby Tryd.prog 23 = 8 := by kernel_rfl
theorem bld_23 : bldE Tryd.prog 23 = none := by kernel_rfl
theorem zc_23 : zc Tryd.prog 23 = some [.nilfn] := by kernel_rfl
theorem tk_24 : tk Tryd.prog 24 = .sl 9 := by kernel_rfl
theorem tsz_24 : tsz Tryd.prog 24 = 1 := by kernel_rfl
theorem tby_24 : tby Tryd.prog 24 = 24 := by kernel_rfl
theorem bld_24 : bldE Tryd.prog 24 = none := by kernel_rfl
theorem zc_24 : zc Tryd.prog 24 = some [.nilsl] := by kernel_rfl
theorem tk_26 : tk Tryd.prog 26 = .st := by kernel_rfl
theorem tsz_26 : tsz Tryd.prog 26 = 2 := by kernel_rfl
theorem tby_26 : tby Tryd.prog 26 = 32 := by kernel_rfl
theorem bld_26 : bldE Tryd.prog 26 = none := by kernel_rfl
theorem zc_26 : zc Tryd.prog 26 = some [.int .i64 (0), .nilsl] := by kernel_rfl
theorem plS_26 : plS Tryd.prog 26 = some [(0, 1), (1, 1)] := by kernel_rfl
theorem fld_26_0 : fld Tryd.prog 26 0 = some (0, 3) := by kernel_rfl
theorem fld_26_1 : fld Tryd.prog 26 1 = some (1, 24) := by kernel_rfl
theorem tk_27 : tk Tryd.prog 27 = .sl 90 := by kernel_rfl
theorem tsz_27 : tsz Tryd.prog 27 = 1 := by kernel_rfl
theorem tby_27 : tby Tryd.prog 27 = 24 := by kernel_rfl
theorem bld_27 : bldE Tryd.prog 27 = none := by kernel_rfl
theorem zc_27 : zc Tryd.prog 27 = some [.nilsl] := by kernel_rfl
theorem tk_28 : tk Tryd.prog 28 = .arr 16 9 := by kernel_rfl
theorem tsz_28 : tsz Tryd.prog 28 = 16 := by kernel_rfl
theorem tby_28 : tby Tryd.prog 28 = 256 := by kernel_rfl
theorem bld_28 : bldE Tryd.prog 28 = none := by kernel_rfl
theorem zc_28 : zc Tryd.prog 28 = some [.str [], .str [], .str [], .str [], .str [], .str [], .str [], .str [], .str [], .str [], .str [], .str [], .str [], .str [], .str [], .str []] := by kernel_rfl
theorem tk_30 : tk Tryd.prog 30 = .st := by kernel_rfl
theorem tsz_30 : tsz Tryd.prog 30 = 23 := by kernel_rfl
theorem tby_30 : tby Tryd.prog 30 = 344 := by kernel_rfl
theorem bld_30 : bldE Tryd.prog 30 = none := by kernel_rfl
theorem zc_30 : zc Tryd.prog 30 = some [.int .i64 (0), .nilsl, .int .i64 (0), .str [], .int .i64 (0), .str [], .str [], .str [], .str [], .str [], .str [], .str [], .str [], .str [], .str [], .str [], .str [], .str [], .str [], .str [], .str [], .str [], .bool false] := by kernel_rfl
theorem plS_30 : plS Tryd.prog 30 = some [(0, 1), (1, 1), (2, 1), (3, 1), (4, 1), (5, 16), (21, 1), (22, 1)] := by kernel_rfl
theorem fld_30_0 : fld Tryd.prog 30 0 = some (0, 3) := by kernel_rfl
theorem fld_30_1 : fld Tryd.prog 30 1 = some (1, 27) := by kernel_rfl
theorem fld_30_2 : fld Tryd.prog 30 2 = some (2, 3) := by kernel_rfl
theorem fld_30_3 : fld Tryd.prog 30 3 = some (3, 9) := by kernel_rfl
theorem fld_30_4 : fld Tryd.prog 30 4 = some (4, 3) := by kernel_rfl
theorem fld_30_5 : fld Tryd.prog 30 5 = some (5, 28) := by kernel_rfl
theorem fld_30_6 : fld Tryd.prog 30 6 = some (21, 9) := by kernel_rfl
theorem fld_30_7 : fld Tryd.prog 30 7 = some (22, 4) := by kernel_rfl
theorem tk_32 : tk Tryd.prog 32 = .st := by kernel_rfl
theorem tsz_32 : tsz Tryd.prog 32 = 34 := by kernel_rfl
theorem tby_32 : tby Tryd.prog 32 = 488 := by kernel_rfl
theorem bld_32 : bldE Tryd.prog 32 = none := by kernel_rfl
theorem zc_32 : zc Tryd.prog 32 = some [.nilfn, .int .i64 (0), .bool false, .int .i64 (0), .nilsl, .int .i64 (0), .nilsl, .int .i64 (0), .nilsl, .int .i64 (0), .str [], .int .i64 (0), .str [], .str [], .str [], .str [], .str [], .str [], .str [], .str [], .str [], .str [], .str [], .str [], .str [], .str [], .str [], .str [], .str [], .bool false, .str [], .str [], .str [], .bool false] := by kernel_rfl
theorem plS_32 : plS Tryd.prog 32 = some [(0, 1), (1, 1), (2, 1), (3, 2), (5, 2), (7, 23), (30, 1), (31, 1), (32, 1), (33, 1)] := by kernel_rfl
theorem fld_32_0 : fld Tryd.prog 32 0 = some (0, 23) := by kernel_rfl
theorem fld_32_1 : fld Tryd.prog 32 1 = some (1, 3) := by kernel_rfl
theorem fld_32_2 : fld Tryd.prog 32 2 = some (2, 4) := by kernel_rfl
theorem fld_32_3 : fld Tryd.prog 32 3 = some (3, 26) := by kernel_rfl
theorem fld_32_4 : fld Tryd.prog 32 4 = some (5, 26) := by kernel_rfl
theorem fld_32_5 : fld Tryd.prog 32 5 = some (7, 30) := by kernel_rfl
theorem fld_32_6 : fld Tryd.prog 32 6 = some (30, 9) := by kernel_rfl
theorem fld_32_7 : fld Tryd.prog 32 7 = some (31, 9) := by kernel_rfl
theorem fld_32_8 : fld Tryd.prog 32 8 = some (32, 9) := by kernel_rfl
theorem fld_32_9 : fld Tryd.prog 32 9 = some (33, 4) := by kernel_rfl
theorem tk_33 : tk Tryd.prog 33 = .int .i64 := by kernel_rfl
theorem tsz_33 : tsz Tryd.prog 33 = 1 := by kernel_rfl
theorem tby_33 : tby Tryd.prog 33 = 8 := by kernel_rfl
theorem bld_33 : bldE Tryd.prog 33 = none := by kernel_rfl
theorem zc_33 : zc Tryd.prog 33 = some [.int .i64 (0)] := by kernel_rfl
theorem tk_65 : tk Tryd.prog 65 = .sl 3 := by kernel_rfl
theorem tsz_65 : tsz Tryd.prog 65 = 1 := by kernel_rfl
theorem tby_65 : tby Tryd.prog 65 = 24 := by kernel_rfl
theorem bld_65 : bldE Tryd.prog 65 = none := by kernel_rfl
theorem zc_65 : zc Tryd.prog 65 = some [.nilsl] := by kernel_rfl
theorem tk_67 : tk Tryd.prog 67 = .st := by kernel_rfl
theorem tsz_67 : tsz Tryd.prog 67 = 3 := by kernel_rfl
theorem tby_67 : tby Tryd.prog 67 = 40 := by kernel_rfl
theorem bld_67 : bldE Tryd.prog 67 = none := by kernel_rfl
theorem zc_67 : zc Tryd.prog 67 = some [.nilsl, .bool false, .int .i64 (0)] := by kernel_rfl
theorem plS_67 : plS Tryd.prog 67 = some [(0, 1), (1, 1), (2, 1)] := by kernel_rfl
theorem fld_67_0 : fld Tryd.prog 67 0 = some (0, 65) := by kernel_rfl
theorem fld_67_1 : fld Tryd.prog 67 1 = some (1, 4) := by kernel_rfl
theorem fld_67_2 : fld Tryd.prog 67 2 = some (2, 3) := by kernel_rfl
theorem tk_70 : tk Tryd.prog 70 = .ptr 32 := by kernel_rfl
theorem tsz_70 : tsz Tryd.prog 70 = 1 := by kernel_rfl
theorem tby_70 : tby Tryd.prog 70 = 8 := by kernel_rfl
theorem bld_70 : bldE Tryd.prog 70 = none := by kernel_rfl
theorem zc_70 : zc Tryd.prog 70 = some [.nilptr] := by kernel_rfl
theorem tk_76 : tk Tryd.prog 76 = .sl 5 := by kernel_rfl
theorem tsz_76 : tsz Tryd.prog 76 = 1 := by kernel_rfl
theorem tby_76 : tby Tryd.prog 76 = 24 := by kernel_rfl
theorem bld_76 : bldE Tryd.prog 76 = none := by kernel_rfl
theorem zc_76 : zc Tryd.prog 76 = some [.nilsl] := by kernel_rfl
theorem tk_82 : tk Tryd.prog 82 = .int .u64 := by kernel_rfl
theorem tsz_82 : tsz Tryd.prog 82 = 1 := by kernel_rfl
theorem tby_82 : tby Tryd.prog 82 = 8 := by kernel_rfl
theorem bld_82 : bldE Tryd.prog 82 = none := by kernel_rfl
theorem zc_82 : zc Tryd.prog 82 = some [.int .u64 (0)] := by kernel_rfl
theorem tk_84 : tk Tryd.prog 84 = .st := by kernel_rfl
theorem tsz_84 : tsz Tryd.prog 84 = 3 := by kernel_rfl
theorem tby_84 : tby Tryd.prog 84 = 24 := by kernel_rfl
theorem bld_84 : bldE Tryd.prog 84 = none := by kernel_rfl
theorem zc_84 : zc Tryd.prog 84 = some [.int .i64 (0), .int .i64 (0), .int .i64 (0)] := by kernel_rfl
theorem plS_84 : plS Tryd.prog 84 = some [(0, 1), (1, 1), (2, 1)] := by kernel_rfl
theorem fld_84_0 : fld Tryd.prog 84 0 = some (0, 3) := by kernel_rfl
theorem fld_84_1 : fld Tryd.prog 84 1 = some (1, 2) := by kernel_rfl
theorem fld_84_2 : fld Tryd.prog 84 2 = some (2, 2) := by kernel_rfl
theorem tk_90 : tk Tryd.prog 90 = .st := by kernel_rfl
theorem tsz_90 : tsz Tryd.prog 90 = 3 := by kernel_rfl
theorem tby_90 : tby Tryd.prog 90 = 32 := by kernel_rfl
theorem bld_90 : bldE Tryd.prog 90 = none := by kernel_rfl
theorem zc_90 : zc Tryd.prog 90 = some [.int .i64 (0), .str [], .bool false] := by kernel_rfl
theorem plS_90 : plS Tryd.prog 90 = some [(0, 1), (1, 1), (2, 1)] := by kernel_rfl
theorem fld_90_0 : fld Tryd.prog 90 0 = some (0, 3) := by kernel_rfl
theorem fld_90_1 : fld Tryd.prog 90 1 = some (1, 9) := by kernel_rfl
theorem fld_90_2 : fld Tryd.prog 90 2 = some (2, 4) := by kernel_rfl
theorem tk_106 : tk Tryd.prog 106 = .arr 6 84 := by kernel_rfl
theorem tsz_106 : tsz Tryd.prog 106 = 18 := by kernel_rfl
theorem tby_106 : tby Tryd.prog 106 = 144 := by kernel_rfl
theorem bld_106 : bldE Tryd.prog 106 = none := by kernel_rfl
theorem zc_106 : zc Tryd.prog 106 = some [.int .i64 (0), .int .i64 (0), .int .i64 (0), .int .i64 (0), .int .i64 (0), .int .i64 (0), .int .i64 (0), .int .i64 (0), .int .i64 (0), .int .i64 (0), .int .i64 (0), .int .i64 (0), .int .i64 (0), .int .i64 (0), .int .i64 (0), .int .i64 (0), .int .i64 (0), .int .i64 (0)] := by kernel_rfl
theorem tk_107 : tk Tryd.prog 107 = .int .u64 := by kernel_rfl
theorem tsz_107 : tsz Tryd.prog 107 = 1 := by kernel_rfl
theorem tby_107 : tby Tryd.prog 107 = 8 := by kernel_rfl
theorem bld_107 : bldE Tryd.prog 107 = none := by kernel_rfl
theorem zc_107 : zc Tryd.prog 107 = some [.int .u64 (0)] := by kernel_rfl
theorem tk_111 : tk Tryd.prog 111 = .arr 2 3 := by kernel_rfl
theorem tsz_111 : tsz Tryd.prog 111 = 2 := by kernel_rfl
theorem tby_111 : tby Tryd.prog 111 = 16 := by kernel_rfl
theorem bld_111 : bldE Tryd.prog 111 = none := by kernel_rfl
theorem zc_111 : zc Tryd.prog 111 = some [.int .i64 (0), .int .i64 (0)] := by kernel_rfl
theorem tk_113 : tk Tryd.prog 113 = .st := by kernel_rfl
theorem tsz_113 : tsz Tryd.prog 113 = 3 := by kernel_rfl
theorem tby_113 : tby Tryd.prog 113 = 48 := by kernel_rfl
theorem bld_113 : bldE Tryd.prog 113 = none := by kernel_rfl
theorem zc_113 : zc Tryd.prog 113 = some [.str [], .str [], .str []] := by kernel_rfl
theorem plS_113 : plS Tryd.prog 113 = some [(0, 1), (1, 1), (2, 1)] := by kernel_rfl
theorem fld_113_0 : fld Tryd.prog 113 0 = some (0, 9) := by kernel_rfl
theorem fld_113_1 : fld Tryd.prog 113 1 = some (1, 9) := by kernel_rfl
theorem fld_113_2 : fld Tryd.prog 113 2 = some (2, 9) := by kernel_rfl
theorem tk_116 : tk Tryd.prog 116 = .ptr 5 := by kernel_rfl
theorem tsz_116 : tsz Tryd.prog 116 = 1 := by kernel_rfl
theorem tby_116 : tby Tryd.prog 116 = 8 := by kernel_rfl
theorem bld_116 : bldE Tryd.prog 116 = none := by kernel_rfl
theorem zc_116 : zc Tryd.prog 116 = some [.nilptr] := by kernel_rfl
theorem tk_117 : tk Tryd.prog 117 = .arr 30 113 := by kernel_rfl
theorem tsz_117 : tsz Tryd.prog 117 = 90 := by kernel_rfl
theorem tby_117 : tby Tryd.prog 117 = 1440 := by kernel_rfl
theorem bld_117 : bldE Tryd.prog 117 = none := by kernel_rfl
theorem zc_117 : zc Tryd.prog 117 = some [.str [], .str [], .str [], .str [], .str [], .str [], .str [], .str [], .str [], .str [], .str [], .str [], .str [], .str [], .str [], .str [], .str [], .str [], .str [], .str [], .str [], .str [], .str [], .str [], .str [], .str [], .str [], .str [], .str [], .str [], .str [], .str [], .str [], .str [], .str [], .str [], .str [], .str [], .str [], .str [], .str [], .str [], .str [], .str [], .str [], .str [], .str [], .str [], .str [], .str [], .str [], .str [], .str [], .str [], .str [], .str [], .str [], .str [], .str [], .str [], .str [], .str [], .str [], .str [], .str [], .str [], .str [], .str [], .str [], .str [], .str [], .str [], .str [], .str [], .str [], .str [], .str [], .str [], .str [], .str [], .str [], .str [], .str [], .str [], .str [], .str [], .str [], .str [], .str [], .str []] := by kernel_rfl
theorem tk_119 : tk Tryd.prog 119 = .arr 59 113 := by kernel_rfl
theorem tsz_119 : tsz Tryd.prog 119 = 177 := by kernel_rfl
theorem tby_119 : tby Tryd.prog 119 = 2832 := by kernel_rfl
theorem bld_119 : bldE Tryd.prog 119 = none := by kernel_rfl
theorem zc_119 : zc Tryd.prog 119 = some [.str [], .str [], .str [], .str [], .str [], .str [], .str [], .str [], .str [], .str [], .str [], .str [], .str [], .str [], .str [], .str [], .str [], .str [], .str [], .str [], .str [], .str [], .str [], .str [], .str [], .str [], .str [], .str [], .str [], .str [], .str [], .str [], .str [], .str [], .str [], .str [], .str [], .str [], .str [], .str [], .str [], .str [], .str [], .str [], .str [], .str [], .str [], .str [], .str [], .str [], .str [], .str [], .str [], .str [], .str [], .str [], .str [], .str [], .str [], .str [], .str [], .str [], .str [], .str [], .str [], .str [], .str [], .str [], .str [], .str [], .str [], .str [], .str [], .str [], .str [], .str [], .str [], .str [], .str [], .str [], .str [], .str [], .str [], .str [], .str [], .str [], .str [], .str [], .str [], .str [], .str [], .str [], .str [], .str [], .str [], .str [], .str [], .str [], .str [], .str [], .str [], .str [], .str [], .str [], .str [], .str [], .str [], .str [], .str [], .str [], .str [], .str [], .str [], .str [], .str [], .str [], .str [], .str [], .str [], .str [], .str [], .str [], .str [], .str [], .str [], .str [], .str [], .str [], .str [], .str [], .str [], .str [], .str [], .str [], .str [], .str [], .str [], .str [], .str [], .str [], .str [], .str [], .str [], .str [], .str [], .str [], .str [], .str [], .str [], .str [], .str [], .str [], .str [], .str [], .str [], .str [], .str [], .str [], .str [], .str [], .str [], .str [], .str [], .str [], .str [], .str [], .str [], .str [], .str [], .str [], .str [], .str [], .str [], .str [], .str [], .str [], .str []] := by kernel_rfl
theorem tk_124 : tk Tryd.prog 124 = .arr 26 113 := by kernel_rfl
theorem tsz_124 : tsz Tryd.prog 124 = 78 := by kernel_rfl
theorem tby_124 : tby Tryd.prog 124 = 1248 := by kernel_rfl
theorem bld_124 : bldE Tryd.prog 124 = none := by kernel_rfl
theorem zc_124 : zc Tryd.prog 124 = some [.str [], .str [], .str [], .str [], .str [], .str [], .str [], .str [], .str [], .str [], .str [], .str [], .str [], .str [], .str [], .str [], .str [], .str [], .str [], .str [], .str [], .str [], .str [], .str [], .str [], .str [], .str [], .str [], .str [], .str [], .str [], .str [], .str [], .str [], .str [], .str [], .str [], .str [], .str [], .str [], .str [], .str [], .str [], .str [], .str [], .str [], .str [], .str [], .str [], .str [], .str [], .str [], .str [], .str [], .str [], .str [], .str [], .str [], .str [], .str [], .str [], .str [], .str [], .str [], .str [], .str [], .str [], .str [], .str [], .str [], .str [], .str [], .str [], .str [], .str [], .str [], .str [], .str []] := by kernel_rfl
theorem tk_125 : tk Tryd.prog 125 = .arr 256 5 := by kernel_rfl
theorem tsz_125 : tsz Tryd.prog 125 = 256 := by kernel_rfl
theorem tby_125 : tby Tryd.prog 125 = 256 := by kernel_rfl
theorem bld_125 : bldE Tryd.prog 125 = none := by kernel_rfl
theorem zc_125 : zc Tryd.prog 125 = some [.int .u8 (0), .int .u8 (0), .int .u8 (0), .int .u8 (0), .int .u8 (0), .int .u8 (0), .int .u8 (0), .int .u8 (0), .int .u8 (0), .int .u8 (0), .int .u8 (0), .int .u8 (0), .int .u8 (0), .int .u8 (0), .int .u8 (0), .int .u8 (0), .int .u8 (0), .int .u8 (0), .int .u8 (0), .int .u8 (0), .int .u8 (0), .int .u8 (0), .int .u8 (0), .int .u8 (0), .int .u8 (0), .int .u8 (0), .int .u8 (0), .int .u8 (0), .int .u8 (0), .int .u8 (0), .int .u8 (0), .int .u8 (0), .int .u8 (0), .int .u8 (0), .int .u8 (0), .int .u8 (0), .int .u8 (0), .int .u8 (0), .int .u8 (0), .int .u8 (0), .int .u8 (0), .int .u8 (0), .int .u8 (0), .int .u8 (0), .int .u8 (0), .int .u8 (0), .int .u8 (0), .int .u8 (0), .int .u8 (0), .int .u8 (0), .int .u8 (0), .int .u8 (0), .int .u8 (0), .int .u8 (0), .int .u8 (0), .int .u8 (0), .int .u8 (0), .int .u8 (0), .int .u8 (0), .int .u8 (0), .int .u8 (0), .int .u8 (0), .int .u8 (0), .int .u8 (0), .int .u8 (0), .int .u8 (0), .int .u8 (0), .int .u8 (0), .int .u8 (0), .int .u8 (0), .int .u8 (0), .int .u8 (0), .int .u8 (0), .int .u8 (0), .int .u8 (0), .int .u8 (0), .int .u8 (0), .int .u8 (0), .int .u8 (0), .int .u8 (0), .int .u8 (0), .int .u8 (0), .int .u8 (0), .int .u8 (0), .int .u8 (0), .int .u8 (0), .int .u8 (0), .int .u8 (0), .int .u8 (0), .int .u8 (0), .int .u8 (0), .int .u8 (0), .int .u8 (0), .int .u8 (0), .int .u8 (0), .int .u8 (0), .int .u8 (0), .int .u8 (0), .int .u8 (0), .int .u8 (0), .int .u8 (0), .int .u8 (0), .int .u8 (0), .int .u8 (0), .int .u8 (0), .int .u8 (0), .int .u8 (0), .int .u8 (0), .int .u8 (0), .int .u8 (0), .int .u8 (0), .int .u8 (0), .int .u8 (0), .int .u8 (0), .int .u8 (0), .int .u8 (0), .int .u8 (0), .int .u8 (0), .int .u8 (0), .int .u8 (0), .int .u8 (0), .int .u8 (0), .int .u8 (0), .int .u8 (0), .int .u8 (0), .int .u8 (0), .int .u8 (0), .int .u8 (0), .int .u8 (0), .int .u8 (0), .int .u8 (0), .int .u8 (0), .int .u8 (0), .int .u8 (0), .int .u8 (0), .int .u8 (0), .int .u8 (0), .int .u8 (0), .int .u8 (0), .int .u8 (0), .int .u8 (0), .int .u8 (0), .int .u8 (0), .int .u8 (0), .int .u8 (0), .int .u8 (0), .int .u8 (0), .int .u8 (0), .int .u8 (0), .int .u8 (0), .int .u8 (0), .int .u8 (0), .int .u8 (0), .int .u8 (0), .int .u8 (0), .int .u8 (0), .int .u8 (0), .int .u8 (0), .int .u8 (0), .int .u8 (0), .int .u8 (0), .int .u8 (0), .int .u8 (0), .int .u8 (0), .int .u8 (0), .int .u8 (0), .int .u8 (0), .int .u8 (0), .int .u8 (0), .int .u8 (0), .int .u8 (0), .int .u8 (0), .int .u8 (0), .int .u8 (0), .int .u8 (0), .int .u8 (0), .int .u8 (0), .int .u8 (0), .int .u8 (0), .int .u8 (0), .int .u8 (0), .int .u8 (0), .int .u8 (0), .int .u8 (0), .int .u8 (0), .int .u8 (0), .int .u8 (0), .int .u8 (0), .int .u8 (0), .int .u8 (0), .int .u8 (0), .int .u8 (0), .int .u8 (0), .int .u8 (0), .int .u8 (0), .int .u8 (0), .int .u8 (0), .int .u8 (0), .int .u8 (0), .int .u8 (0), .int .u8 (0), .int .u8 (0), .int .u8 (0), .int .u8 (0), .int .u8 (0), .int .u8 (0), .int .u8 (0), .int .u8 (0), .int .u8 (0), .int .u8 (0), .int .u8 (0), .int .u8 (0), .int .u8 (0), .int .u8 (0), .int .u8 (0), .int .u8 (0), .int .u8 (0), .int .u8 (0), .int .u8 (0), .int .u8 (0), .int .u8 (0), .int .u8 (0), .int .u8 (0), .int .u8 (0), .int .u8 (0), .int .u8 (0), .int .u8 (0), .int .u8 (0), .int .u8 (0), .int .u8 (0), .int .u8 (0), .int .u8 (0), .int .u8 (0), .int .u8 (0), .int .u8 (0), .int .u8 (0), .int .u8 (0), .int .u8 (0), .int .u8 (0), .int .u8 (0), .int .u8 (0), .int .u8 (0), .int .u8 (0), .int .u8 (0), .int .u8 (0), .int .u8 (0), .int .u8 (0), .int .u8 (0), .int .u8 (0), .int .u8 (0), .int .u8 (0), .int .u8 (0), .int .u8 (0), .int .u8 (0), .int .u8 (0), .int .u8 (0)] := by kernel_rfl
theorem tk_127 : tk Tryd.prog 127 = .fn := by kernel_rfl
theorem tsz_127 : tsz Tryd.prog 127 = 1 := by kernel_rfl
theorem tby_127 : tby Tryd.prog 127 = 8 := by kernel_rfl
theorem bld_127 : bldE Tryd.prog 127 = none := by kernel_rfl
theorem zc_127 : zc Tryd.prog 127 = some [.nilfn] := by kernel_rfl
theorem tk_129 : tk Tryd.prog 129 = .sl 131 := by kernel_rfl
theorem tsz_129 : tsz Tryd.prog 129 = 1 := by kernel_rfl
theorem tby_129 : tby Tryd.prog 129 = 24 := by kernel_rfl
theorem bld_129 : bldE Tryd.prog 129 = none := by kernel_rfl
theorem zc_129 : zc Tryd.prog 129 = some [.nilsl] := by kernel_rfl
theorem tk_131 : tk Tryd.prog 131 = .st := by kernel_rfl
theorem tsz_131 : tsz Tryd.prog 131 = 2 := by kernel_rfl
theorem tby_131 : tby Tryd.prog 131 = 16 := by kernel_rfl
theorem bld_131 : bldE Tryd.prog 131 = none := by kernel_rfl
theorem zc_131 : zc Tryd.prog 131 = some [.int .i64 (0), .int .i64 (0)] := by kernel_rfl
theorem plS_131 : plS Tryd.prog 131 = some [(0, 1), (1, 1)] := by kernel_rfl
theorem fld_131_0 : fld Tryd.prog 131 0 = some (0, 3) := by kernel_rfl
theorem fld_131_1 : fld Tryd.prog 131 1 = some (1, 3) := by kernel_rfl
theorem tk_132 : tk Tryd.prog 132 = .int .u32 := by kernel_rfl
theorem tsz_132 : tsz Tryd.prog 132 = 1 := by kernel_rfl
theorem tby_132 : tby Tryd.prog 132 = 4 := by kernel_rfl
theorem bld_132 : bldE Tryd.prog 132 = none := by kernel_rfl
theorem zc_132 : zc Tryd.prog 132 = some [.int .u32 (0)] := by kernel_rfl
theorem tk_134 : tk Tryd.prog 134 = .ptr 144 := by kernel_rfl
theorem tsz_134 : tsz Tryd.prog 134 = 1 := by kernel_rfl
theorem tby_134 : tby Tryd.prog 134 = 8 := by kernel_rfl
theorem bld_134 : bldE Tryd.prog 134 = none := by kernel_rfl
theorem zc_134 : zc Tryd.prog 134 = some [.nilptr] := by kernel_rfl
theorem tk_137 : tk Tryd.prog 137 = .arr 256 4 := by kernel_rfl
theorem tsz_137 : tsz Tryd.prog 137 = 256 := by kernel_rfl
theorem tby_137 : tby Tryd.prog 137 = 256 := by kernel_rfl
theorem bld_137 : bldE Tryd.prog 137 = none := by kernel_rfl
theorem zc_137 : zc Tryd.prog 137 = some [.bool false, .bool false, .bool false, .bool false, .bool false, .bool false, .bool false, .bool false, .bool false, .bool false, .bool false, .bool false, .bool false, .bool false, .bool false, .bool false, .bool false, .bool false, .bool false, .bool false, .bool false, .bool false, .bool false, .bool false, .bool false, .bool false, .bool false, .bool false, .bool false, .bool false, .bool false, .bool false, .bool false, .bool false, .bool false, .bool false, .bool false, .bool false, .bool false, .bool false, .bool false, .bool false, .bool false, .bool false, .bool false, .bool false, .bool false, .bool false, .bool false, .bool false, .bool false, .bool false, .bool false, .bool false, .bool false, .bool false, .bool false, .bool false, .bool false, .bool false, .bool false, .bool false, .bool false, .bool false, .bool false, .bool false, .bool false, .bool false, .bool false, .bool false, .bool false, .bool false, .bool false, .bool false, .bool false, .bool false, .bool false, .bool false, .bool false, .bool false, .bool false, .bool false, .bool false, .bool false, .bool false, .bool false, .bool false, .bool false, .bool false, .bool false, .bool false, .bool false, .bool false, .bool false, .bool false, .bool false, .bool false, .bool false, .bool false, .bool false, .bool false, .bool false, .bool false, .bool false, .bool false, .bool false, .bool false, .bool false, .bool false, .bool false, .bool false, .bool false, .bool false, .bool false, .bool false, .bool false, .bool false, .bool false, .bool false, .bool false, .bool false, .bool false, .bool false, .bool false, .bool false, .bool false, .bool false, .bool false, .bool false, .bool false, .bool false, .bool false, .bool false, .bool false, .bool false, .bool false, .bool false, .bool false, .bool false, .bool false, .bool false, .bool false, .bool false, .bool false, .bool false, .bool false, .bool false, .bool false, .bool false, .bool false, .bool false, .bool false, .bool false, .bool false, .bool false, .bool false, .bool false, .bool false, .bool false, .bool false, .bool false, .bool false, .bool false, .bool false, .bool false, .bool false, .bool false, .bool false, .bool false, .bool false, .bool false, .bool false, .bool false, .bool false, .bool false, .bool false, .bool false, .bool false, .bool false, .bool false, .bool false, .bool false, .bool false, .bool false, .bool false, .bool false, .bool false, .bool false, .bool false, .bool false, .bool false, .bool false, .bool false, .bool false, .bool false, .bool false, .bool false, .bool false, .bool false, .bool false, .bool false, .bool false, .bool false, .bool false, .bool false, .bool false, .bool false, .bool false, .bool false, .bool false, .bool false, .bool false, .bool false, .bool false, .bool false, .bool false, .bool false, .bool false, .bool false, .bool false, .bool false, .bool false, .bool false, .bool false, .bool false, .bool false, .bool false, .bool false, .bool false, .bool false, .bool false, .bool false, .bool false, .bool false, .bool false, .bool false, .bool false, .bool false, .bool false, .bool false, .bool false, .bool false, .bool false, .bool false, .bool false, .bool false, .bool false, .bool false, .bool false, .bool false, .bool false, .bool false, .bool false, .bool false, .bool false, .bool false] := by kernel_rfl
theorem tk_141 : tk Tryd.prog 141 = .sl 147 := by kernel_rfl
theorem tsz_141 : tsz Tryd.prog 141 = 1 := by kernel_rfl
theorem tby_141 : tby Tryd.prog 141 = 24 := by kernel_rfl
theorem bld_141 : bldE Tryd.prog 141 = none := by kernel_rfl
theorem zc_141 : zc Tryd.prog 141 = some [.nilsl] := by kernel_rfl
theorem tk_142 : tk Tryd.prog 142 = .sl 150 := by kernel_rfl
theorem tsz_142 : tsz Tryd.prog 142 = 1 := by kernel_rfl
theorem tby_142 : tby Tryd.prog 142 = 24 := by kernel_rfl
theorem bld_142 : bldE Tryd.prog 142 = none := by kernel_rfl
theorem zc_142 : zc Tryd.prog 142 = some [.nilsl] := by kernel_rfl
theorem tk_144 : tk Tryd.prog 144 = .st := by kernel_rfl
theorem tsz_144 : tsz Tryd.prog 144 = 3 := by kernel_rfl
theorem tby_144 : tby Tryd.prog 144 = 56 := by kernel_rfl
theorem bld_144 : bldE Tryd.prog 144 = none := by kernel_rfl
theorem zc_144 : zc Tryd.prog 144 = some [.nilsl, .nilsl, .int .i64 (0)] := by kernel_rfl
theorem plS_144 : plS Tryd.prog 144 = some [(0, 1), (1, 1), (2, 1)] := by kernel_rfl
theorem fld_144_0 : fld Tryd.prog 144 0 = some (0, 141) := by kernel_rfl
theorem fld_144_1 : fld Tryd.prog 144 1 = some (1, 142) := by kernel_rfl
theorem fld_144_2 : fld Tryd.prog 144 2 = some (2, 3) := by kernel_rfl
theorem tk_145 : tk Tryd.prog 145 = .int .u16 := by kernel_rfl
theorem tsz_145 : tsz Tryd.prog 145 = 1 := by kernel_rfl
theorem tby_145 : tby Tryd.prog 145 = 2 := by kernel_rfl
theorem bld_145 : bldE Tryd.prog 145 = none := by kernel_rfl
theorem zc_145 : zc Tryd.prog 145 = some [.int .u16 (0)] := by kernel_rfl
theorem tk_147 : tk Tryd.prog 147 = .st := by kernel_rfl
theorem tsz_147 : tsz Tryd.prog 147 = 3 := by kernel_rfl
theorem tby_147 : tby Tryd.prog 147 = 6 := by kernel_rfl
theorem bld_147 : bldE Tryd.prog 147 = none := by kernel_rfl
theorem zc_147 : zc Tryd.prog 147 = some [.int .u16 (0), .int .u16 (0), .int .u16 (0)] := by kernel_rfl
theorem plS_147 : plS Tryd.prog 147 = some [(0, 1), (1, 1), (2, 1)] := by kernel_rfl
theorem fld_147_0 : fld Tryd.prog 147 0 = some (0, 145) := by kernel_rfl
theorem fld_147_1 : fld Tryd.prog 147 1 = some (1, 145) := by kernel_rfl
theorem fld_147_2 : fld Tryd.prog 147 2 = some (2, 145) := by kernel_rfl
theorem tk_150 : tk Tryd.prog 150 = .st := by kernel_rfl
theorem tsz_150 : tsz Tryd.prog 150 = 3 := by kernel_rfl
theorem tby_150 : tby Tryd.prog 150 = 12 := by kernel_rfl
theorem bld_150 : bldE Tryd.prog 150 = none := by kernel_rfl
theorem zc_150 : zc Tryd.prog 150 = some [.int .u32 (0), .int .u32 (0), .int .u32 (0)] := by kernel_rfl
theorem plS_150 : plS Tryd.prog 150 = some [(0, 1), (1, 1), (2, 1)] := by kernel_rfl
theorem fld_150_0 : fld Tryd.prog 150 0 = some (0, 132) := by kernel_rfl
theorem fld_150_1 : fld Tryd.prog 150 1 = some (1, 132) := by kernel_rfl
theorem fld_150_2 : fld Tryd.prog 150 2 = some (2, 132) := by kernel_rfl
attribute [push_cast] tk_2 tsz_2 tby_2 bld_2 zc_2 tk_3 tsz_3 tby_3 bld_3 zc_3 tk_4 tsz_4 tby_4 bld_4 zc_4 tk_5 tsz_5 tby_5 bld_5 zc_5 tk_9 tsz_9 tby_9 bld_9 zc_9 tk_21 tsz_21 tby_21 bld_21 zc_21 tk_23 tsz_23 tby_23 bld_23 zc_23 tk_24 tsz_24 tby_24 bld_24 zc_24 tk_26 tsz_26 tby_26 bld_26 zc_26 plS_26 fld_26_0 fld_26_1 tk_27 tsz_27 tby_27 bld_27 zc_27 tk_28 tsz_28 tby_28 bld_28 zc_28 tk_30 tsz_30 tby_30 bld_30 zc_30 plS_30 fld_30_0 fld_30_1 fld_30_2 fld_30_3 fld_30_4 fld_30_5 fld_30_6 fld_30_7 tk_32 tsz_32 tby_32 bld_32 zc_32 plS_32 fld_32_0 fld_32_1 fld_32_2 fld_32_3 fld_32_4 fld_32_5 fld_32_6 fld_32_7 fld_32_8 fld_32_9 tk_33 tsz_33 tby_33 bld_33 zc_33 tk_65 tsz_65 tby_65 bld_65 zc_65 tk_67 tsz_67 tby_67 bld_67 zc_67 plS_67 fld_67_0 fld_67_1 fld_67_2 tk_70 tsz_70 tby_70 bld_70 zc_70 tk_76 tsz_76 tby_76 bld_76 zc_76 tk_82 tsz_82 tby_82 bld_82 zc_82 tk_84 tsz_84 tby_84 bld_84 zc_84 plS_84 fld_84_0 fld_84_1 fld_84_2 tk_90 tsz_90 tby_90 bld_90 zc_90 plS_90 fld_90_0 fld_90_1 fld_90_2 tk_106 tsz_106 tby_106 bld_106 zc_106 tk_107 tsz_107 tby_107 bld_107 zc_107 tk_111 tsz_111 tby_111 bld_111 zc_111 tk_113 tsz_113 tby_113 bld_113 zc_113 plS_113 fld_113_0 fld_113_1 fld_113_2 tk_116 tsz_116 tby_116 bld_116 zc_116 tk_117 tsz_117 tby_117 bld_117 zc_117 tk_119 tsz_119 tby_119 bld_119 zc_119 tk_124 tsz_124 tby_124 bld_124 zc_124 tk_125 tsz_125 tby_125 bld_125 zc_125 tk_127 tsz_127 tby_127 bld_127 zc_127 tk_129 tsz_129 tby_129 bld_129 zc_129 tk_131 tsz_131 tby_131 bld_131 zc_131 plS_131 fld_131_0 fld_131_1 tk_132 tsz_132 tby_132 bld_132 zc_132 tk_134 tsz_134 tby_134 bld_134 zc_134 tk_137 tsz_137 tby_137 bld_137 zc_137 tk_141 tsz_141 tby_141 bld_141 zc_141 tk_142 tsz_142 tby_142 bld_142 zc_142 tk_144 tsz_144 tby_144 bld_144 zc_144 plS_144 fld_144_0 fld_144_1 fld_144_2 tk_145 tsz_145 tby_145 bld_145 zc_145 tk_147 tsz_147 tby_147 bld_147 zc_147 plS_147 fld_147_0 fld_147_1 fld_147_2 tk_150 tsz_150 tby_150 bld_150 zc_150 plS_150 fld_150_0 fld_150_1 fld_150_2
end Go.Proofs.Sh
