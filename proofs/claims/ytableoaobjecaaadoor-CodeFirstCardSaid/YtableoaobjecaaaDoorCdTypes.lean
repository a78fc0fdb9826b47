/- The types of this program, as the operations ask for them. -/
import Derived.Test.YtableoaobjecaaaDoorCdShelf
import Derived.Test.YtableoaobjecaaaDoorPvY
set_option maxRecDepth 100000
namespace Go.Proofs.Cd
open Go.Pv
theorem tk_1 : tk Tryd.prog 1 = .fn := by kernel_rfl
theorem tsz_1 : tsz Tryd.prog 1 = 1 := by kernel_rfl
theorem tby_1 : tby Tryd.prog 1 = 8 := by kernel_rfl
theorem zc_1 : zc Tryd.prog 1 = some [.nilfn] := by kernel_rfl
theorem tk_2 : tk Tryd.prog 2 = .int .i64 := by kernel_rfl
theorem tsz_2 : tsz Tryd.prog 2 = 1 := by kernel_rfl
theorem tby_2 : tby Tryd.prog 2 = 8 := by kernel_rfl
theorem zc_2 : zc Tryd.prog 2 = some [.int .i64 (0)] := by kernel_rfl
theorem tk_3 : tk Tryd.prog 3 = .int .i64 := by kernel_rfl
theorem tsz_3 : tsz Tryd.prog 3 = 1 := by kernel_rfl
theorem tby_3 : tby Tryd.prog 3 = 8 := by kernel_rfl
theorem zc_3 : zc Tryd.prog 3 = some [.int .i64 (0)] := by kernel_rfl
theorem tk_4 : tk Tryd.prog 4 = .bool := by kernel_rfl
theorem tsz_4 : tsz Tryd.prog 4 = 1 := by kernel_rfl
theorem tby_4 : tby Tryd.prog 4 = 1 := by kernel_rfl
theorem zc_4 : zc Tryd.prog 4 = some [.bool false] := by kernel_rfl
theorem tk_5 : tk Tryd.prog 5 = .int .u8 := by kernel_rfl
theorem tsz_5 : tsz Tryd.prog 5 = 1 := by kernel_rfl
theorem tby_5 : tby Tryd.prog 5 = 1 := by kernel_rfl
theorem zc_5 : zc Tryd.prog 5 = some [.int .u8 (0)] := by kernel_rfl
theorem tk_9 : tk Tryd.prog 9 = .str := by kernel_rfl
theorem tsz_9 : tsz Tryd.prog 9 = 1 := by kernel_rfl
theorem tby_9 : tby Tryd.prog 9 = 16 := by kernel_rfl
theorem zc_9 : zc Tryd.prog 9 = some [.str []] := by kernel_rfl
theorem tk_21 : tk Tryd.prog 21 = .int .i32 := by kernel_rfl
theorem tsz_21 : tsz Tryd.prog 21 = 1 := by kernel_rfl
theorem tby_21 : tby Tryd.prog 21 = 4 := by kernel_rfl
theorem zc_21 : zc Tryd.prog 21 = some [.int .i32 (0)] := by kernel_rfl
theorem tk_22 : tk Tryd.prog 22 = .sl 9 := by kernel_rfl
theorem tsz_22 : tsz Tryd.prog 22 = 1 := by kernel_rfl
theorem tby_22 : tby Tryd.prog 22 = 24 := by kernel_rfl
theorem zc_22 : zc Tryd.prog 22 = some [.nilsl] := by kernel_rfl
theorem tk_27 : tk Tryd.prog 27 = .sl 3 := by kernel_rfl
theorem tsz_27 : tsz Tryd.prog 27 = 1 := by kernel_rfl
theorem tby_27 : tby Tryd.prog 27 = 24 := by kernel_rfl
theorem zc_27 : zc Tryd.prog 27 = some [.nilsl] := by kernel_rfl
theorem tk_29 : tk Tryd.prog 29 = .st := by kernel_rfl
theorem tsz_29 : tsz Tryd.prog 29 = 3 := by kernel_rfl
theorem tby_29 : tby Tryd.prog 29 = 40 := by kernel_rfl
theorem zc_29 : zc Tryd.prog 29 = some [.nilsl, .bool false, .int .i64 (0)] := by kernel_rfl
theorem plS_29 : plS Tryd.prog 29 = some [(0, 1), (1, 1), (2, 1)] := by kernel_rfl
theorem fld_29_0 : fld Tryd.prog 29 0 = some (0, 27) := by kernel_rfl
theorem fld_29_1 : fld Tryd.prog 29 1 = some (1, 4) := by kernel_rfl
theorem fld_29_2 : fld Tryd.prog 29 2 = some (2, 3) := by kernel_rfl
theorem tk_37 : tk Tryd.prog 37 = .st := by kernel_rfl
theorem tsz_37 : tsz Tryd.prog 37 = 3 := by kernel_rfl
theorem tby_37 : tby Tryd.prog 37 = 40 := by kernel_rfl
theorem zc_37 : zc Tryd.prog 37 = some [.nilsl, .bool false, .int .i64 (0)] := by kernel_rfl
theorem plS_37 : plS Tryd.prog 37 = some [(0, 1), (1, 1), (2, 1)] := by kernel_rfl
theorem fld_37_0 : fld Tryd.prog 37 0 = some (0, 27) := by kernel_rfl
theorem fld_37_1 : fld Tryd.prog 37 1 = some (1, 4) := by kernel_rfl
theorem fld_37_2 : fld Tryd.prog 37 2 = some (2, 3) := by kernel_rfl
theorem tk_41 : tk Tryd.prog 41 = .int .i64 := by kernel_rfl
theorem tsz_41 : tsz Tryd.prog 41 = 1 := by kernel_rfl
theorem tby_41 : tby Tryd.prog 41 = 8 := by kernel_rfl
theorem zc_41 : zc Tryd.prog 41 = some [.int .i64 (0)] := by kernel_rfl
theorem tk_43 : tk Tryd.prog 43 = .sl 2 := by kernel_rfl
theorem tsz_43 : tsz Tryd.prog 43 = 1 := by kernel_rfl
theorem tby_43 : tby Tryd.prog 43 = 24 := by kernel_rfl
theorem zc_43 : zc Tryd.prog 43 = some [.nilsl] := by kernel_rfl
theorem tk_44 : tk Tryd.prog 44 = .sl 5 := by kernel_rfl
theorem tsz_44 : tsz Tryd.prog 44 = 1 := by kernel_rfl
theorem tby_44 : tby Tryd.prog 44 = 24 := by kernel_rfl
theorem zc_44 : zc Tryd.prog 44 = some [.nilsl] := by kernel_rfl
theorem tk_46 : tk Tryd.prog 46 = .st := by kernel_rfl
theorem tsz_46 : tsz Tryd.prog 46 = 4 := by kernel_rfl
theorem tby_46 : tby Tryd.prog 46 = 72 := by kernel_rfl
theorem zc_46 : zc Tryd.prog 46 = some [.int .i64 (0), .nilsl, .str [], .nilsl] := by kernel_rfl
theorem plS_46 : plS Tryd.prog 46 = some [(0, 1), (1, 1), (2, 1), (3, 1)] := by kernel_rfl
theorem fld_46_0 : fld Tryd.prog 46 0 = some (0, 3) := by kernel_rfl
theorem fld_46_1 : fld Tryd.prog 46 1 = some (1, 43) := by kernel_rfl
theorem fld_46_2 : fld Tryd.prog 46 2 = some (2, 9) := by kernel_rfl
theorem fld_46_3 : fld Tryd.prog 46 3 = some (3, 43) := by kernel_rfl
theorem tk_54 : tk Tryd.prog 54 = .int .u16 := by kernel_rfl
theorem tsz_54 : tsz Tryd.prog 54 = 1 := by kernel_rfl
theorem tby_54 : tby Tryd.prog 54 = 2 := by kernel_rfl
theorem zc_54 : zc Tryd.prog 54 = some [.int .u16 (0)] := by kernel_rfl
theorem tk_65 : tk Tryd.prog 65 = .st := by kernel_rfl
theorem tsz_65 : tsz Tryd.prog 65 = 3 := by kernel_rfl
theorem tby_65 : tby Tryd.prog 65 = 48 := by kernel_rfl
theorem zc_65 : zc Tryd.prog 65 = some [.str [], .str [], .str []] := by kernel_rfl
theorem plS_65 : plS Tryd.prog 65 = some [(0, 1), (1, 1), (2, 1)] := by kernel_rfl
theorem fld_65_0 : fld Tryd.prog 65 0 = some (0, 9) := by kernel_rfl
theorem fld_65_1 : fld Tryd.prog 65 1 = some (1, 9) := by kernel_rfl
theorem fld_65_2 : fld Tryd.prog 65 2 = some (2, 9) := by kernel_rfl
theorem tk_75 : tk Tryd.prog 75 = .st := by kernel_rfl
theorem tsz_75 : tsz Tryd.prog 75 = 3 := by kernel_rfl
theorem tby_75 : tby Tryd.prog 75 = 64 := by kernel_rfl
theorem zc_75 : zc Tryd.prog 75 = some [.nilsl, .str [], .nilsl] := by kernel_rfl
theorem plS_75 : plS Tryd.prog 75 = some [(0, 1), (1, 1), (2, 1)] := by kernel_rfl
theorem fld_75_0 : fld Tryd.prog 75 0 = some (0, 43) := by kernel_rfl
theorem fld_75_1 : fld Tryd.prog 75 1 = some (1, 9) := by kernel_rfl
theorem fld_75_2 : fld Tryd.prog 75 2 = some (2, 43) := by kernel_rfl
theorem tk_84 : tk Tryd.prog 84 = .arr 256 5 := by kernel_rfl
theorem tsz_84 : tsz Tryd.prog 84 = 256 := by kernel_rfl
theorem tby_84 : tby Tryd.prog 84 = 256 := by kernel_rfl
theorem zc_84 : zc Tryd.prog 84 = some [.int .u8 (0), .int .u8 (0), .int .u8 (0), .int .u8 (0), .int .u8 (0), .int .u8 (0), .int .u8 (0), .int .u8 (0), .int .u8 (0), .int .u8 (0), .int .u8 (0), .int .u8 (0), .int .u8 (0), .int .u8 (0), .int .u8 (0), .int .u8 (0), .int .u8 (0), .int .u8 (0), .int .u8 (0), .int .u8 (0), .int .u8 (0), .int .u8 (0), .int .u8 (0), .int .u8 (0), .int .u8 (0), .int .u8 (0), .int .u8 (0), .int .u8 (0), .int .u8 (0), .int .u8 (0), .int .u8 (0), .int .u8 (0), .int .u8 (0), .int .u8 (0), .int .u8 (0), .int .u8 (0), .int .u8 (0), .int .u8 (0), .int .u8 (0), .int .u8 (0), .int .u8 (0), .int .u8 (0), .int .u8 (0), .int .u8 (0), .int .u8 (0), .int .u8 (0), .int .u8 (0), .int .u8 (0), .int .u8 (0), .int .u8 (0), .int .u8 (0), .int .u8 (0), .int .u8 (0), .int .u8 (0), .int .u8 (0), .int .u8 (0), .int .u8 (0), .int .u8 (0), .int .u8 (0), .int .u8 (0), .int .u8 (0), .int .u8 (0), .int .u8 (0), .int .u8 (0), .int .u8 (0), .int .u8 (0), .int .u8 (0), .int .u8 (0), .int .u8 (0), .int .u8 (0), .int .u8 (0), .int .u8 (0), .int .u8 (0), .int .u8 (0), .int .u8 (0), .int .u8 (0), .int .u8 (0), .int .u8 (0), .int .u8 (0), .int .u8 (0), .int .u8 (0), .int .u8 (0), .int .u8 (0), .int .u8 (0), .int .u8 (0), .int .u8 (0), .int .u8 (0), .int .u8 (0), .int .u8 (0), .int .u8 (0), .int .u8 (0), .int .u8 (0), .int .u8 (0), .int .u8 (0), .int .u8 (0), .int .u8 (0), .int .u8 (0), .int .u8 (0), .int .u8 (0), .int .u8 (0), .int .u8 (0), .int .u8 (0), .int .u8 (0), .int .u8 (0), .int .u8 (0), .int .u8 (0), .int .u8 (0), .int .u8 (0), .int .u8 (0), .int .u8 (0), .int .u8 (0), .int .u8 (0), .int .u8 (0), .int .u8 (0), .int .u8 (0), .int .u8 (0), .int .u8 (0), .int .u8 (0), .int .u8 (0), .int .u8 (0), .int .u8 (0), .int .u8 (0), .int .u8 (0), .int .u8 (0), .int .u8 (0), .int .u8 (0), .int .u8 (0), .int .u8 (0), .int .u8 (0), .int .u8 (0), .int .u8 (0), .int .u8 (0), .int .u8 (0), .int .u8 (0), .int .u8 (0), .int .u8 (0), .int .u8 (0), .int .u8 (0), .int .u8 (0), .int .u8 (0), .int .u8 (0), .int .u8 (0), .int .u8 (0), .int .u8 (0), .int .u8 (0), .int .u8 (0), .int .u8 (0), .int .u8 (0), .int .u8 (0), .int .u8 (0), .int .u8 (0), .int .u8 (0), .int .u8 (0), .int .u8 (0), .int .u8 (0), .int .u8 (0), .int .u8 (0), .int .u8 (0), .int .u8 (0), .int .u8 (0), .int .u8 (0), .int .u8 (0), .int .u8 (0), .int .u8 (0), .int .u8 (0), .int .u8 (0), .int .u8 (0), .int .u8 (0), .int .u8 (0), .int .u8 (0), .int .u8 (0), .int .u8 (0), .int .u8 (0), .int .u8 (0), .int .u8 (0), .int .u8 (0), .int .u8 (0), .int .u8 (0), .int .u8 (0), .int .u8 (0), .int .u8 (0), .int .u8 (0), .int .u8 (0), .int .u8 (0), .int .u8 (0), .int .u8 (0), .int .u8 (0), .int .u8 (0), .int .u8 (0), .int .u8 (0), .int .u8 (0), .int .u8 (0), .int .u8 (0), .int .u8 (0), .int .u8 (0), .int .u8 (0), .int .u8 (0), .int .u8 (0), .int .u8 (0), .int .u8 (0), .int .u8 (0), .int .u8 (0), .int .u8 (0), .int .u8 (0), .int .u8 (0), .int .u8 (0), .int .u8 (0), .int .u8 (0), .int .u8 (0), .int .u8 (0), .int .u8 (0), .int .u8 (0), .int .u8 (0), .int .u8 (0), .int .u8 (0), .int .u8 (0), .int .u8 (0), .int .u8 (0), .int .u8 (0), .int .u8 (0), .int .u8 (0), .int .u8 (0), .int .u8 (0), .int .u8 (0), .int .u8 (0), .int .u8 (0), .int .u8 (0), .int .u8 (0), .int .u8 (0), .int .u8 (0), .int .u8 (0), .int .u8 (0), .int .u8 (0), .int .u8 (0), .int .u8 (0), .int .u8 (0), .int .u8 (0), .int .u8 (0), .int .u8 (0), .int .u8 (0), .int .u8 (0), .int .u8 (0), .int .u8 (0), .int .u8 (0), .int .u8 (0), .int .u8 (0), .int .u8 (0), .int .u8 (0), .int .u8 (0), .int .u8 (0), .int .u8 (0), .int .u8 (0), .int .u8 (0), .int .u8 (0), .int .u8 (0), .int .u8 (0)] := by kernel_rfl
theorem tk_86 : tk Tryd.prog 86 = .fn := by kernel_rfl
theorem tsz_86 : tsz Tryd.prog 86 = 1 := by kernel_rfl
theorem tby_86 : tby Tryd.prog 86 = 8 := by kernel_rfl
theorem zc_86 : zc Tryd.prog 86 = some [.nilfn] := by kernel_rfl
theorem tk_87 : tk Tryd.prog 87 = .arr 30 65 := by kernel_rfl
theorem tsz_87 : tsz Tryd.prog 87 = 90 := by kernel_rfl
theorem tby_87 : tby Tryd.prog 87 = 1440 := by kernel_rfl
theorem zc_87 : zc Tryd.prog 87 = some [.str [], .str [], .str [], .str [], .str [], .str [], .str [], .str [], .str [], .str [], .str [], .str [], .str [], .str [], .str [], .str [], .str [], .str [], .str [], .str [], .str [], .str [], .str [], .str [], .str [], .str [], .str [], .str [], .str [], .str [], .str [], .str [], .str [], .str [], .str [], .str [], .str [], .str [], .str [], .str [], .str [], .str [], .str [], .str [], .str [], .str [], .str [], .str [], .str [], .str [], .str [], .str [], .str [], .str [], .str [], .str [], .str [], .str [], .str [], .str [], .str [], .str [], .str [], .str [], .str [], .str [], .str [], .str [], .str [], .str [], .str [], .str [], .str [], .str [], .str [], .str [], .str [], .str [], .str [], .str [], .str [], .str [], .str [], .str [], .str [], .str [], .str [], .str [], .str [], .str []] := by kernel_rfl
theorem tk_89 : tk Tryd.prog 89 = .arr 59 65 := by kernel_rfl
theorem tsz_89 : tsz Tryd.prog 89 = 177 := by kernel_rfl
theorem tby_89 : tby Tryd.prog 89 = 2832 := by kernel_rfl
theorem zc_89 : zc Tryd.prog 89 = some [.str [], .str [], .str [], .str [], .str [], .str [], .str [], .str [], .str [], .str [], .str [], .str [], .str [], .str [], .str [], .str [], .str [], .str [], .str [], .str [], .str [], .str [], .str [], .str [], .str [], .str [], .str [], .str [], .str [], .str [], .str [], .str [], .str [], .str [], .str [], .str [], .str [], .str [], .str [], .str [], .str [], .str [], .str [], .str [], .str [], .str [], .str [], .str [], .str [], .str [], .str [], .str [], .str [], .str [], .str [], .str [], .str [], .str [], .str [], .str [], .str [], .str [], .str [], .str [], .str [], .str [], .str [], .str [], .str [], .str [], .str [], .str [], .str [], .str [], .str [], .str [], .str [], .str [], .str [], .str [], .str [], .str [], .str [], .str [], .str [], .str [], .str [], .str [], .str [], .str [], .str [], .str [], .str [], .str [], .str [], .str [], .str [], .str [], .str [], .str [], .str [], .str [], .str [], .str [], .str [], .str [], .str [], .str [], .str [], .str [], .str [], .str [], .str [], .str [], .str [], .str [], .str [], .str [], .str [], .str [], .str [], .str [], .str [], .str [], .str [], .str [], .str [], .str [], .str [], .str [], .str [], .str [], .str [], .str [], .str [], .str [], .str [], .str [], .str [], .str [], .str [], .str [], .str [], .str [], .str [], .str [], .str [], .str [], .str [], .str [], .str [], .str [], .str [], .str [], .str [], .str [], .str [], .str [], .str [], .str [], .str [], .str [], .str [], .str [], .str [], .str [], .str [], .str [], .str [], .str [], .str [], .str [], .str [], .str [], .str [], .str [], .str []] := by kernel_rfl
theorem tk_92 : tk Tryd.prog 92 = .arr 26 65 := by kernel_rfl
theorem tsz_92 : tsz Tryd.prog 92 = 78 := by kernel_rfl
theorem tby_92 : tby Tryd.prog 92 = 1248 := by kernel_rfl
theorem zc_92 : zc Tryd.prog 92 = some [.str [], .str [], .str [], .str [], .str [], .str [], .str [], .str [], .str [], .str [], .str [], .str [], .str [], .str [], .str [], .str [], .str [], .str [], .str [], .str [], .str [], .str [], .str [], .str [], .str [], .str [], .str [], .str [], .str [], .str [], .str [], .str [], .str [], .str [], .str [], .str [], .str [], .str [], .str [], .str [], .str [], .str [], .str [], .str [], .str [], .str [], .str [], .str [], .str [], .str [], .str [], .str [], .str [], .str [], .str [], .str [], .str [], .str [], .str [], .str [], .str [], .str [], .str [], .str [], .str [], .str [], .str [], .str [], .str [], .str [], .str [], .str [], .str [], .str [], .str [], .str [], .str [], .str []] := by kernel_rfl
theorem tk_93 : tk Tryd.prog 93 = .arr 6 3 := by kernel_rfl
theorem tsz_93 : tsz Tryd.prog 93 = 6 := by kernel_rfl
theorem tby_93 : tby Tryd.prog 93 = 48 := by kernel_rfl
theorem zc_93 : zc Tryd.prog 93 = some [.int .i64 (0), .int .i64 (0), .int .i64 (0), .int .i64 (0), .int .i64 (0), .int .i64 (0)] := by kernel_rfl
theorem tk_96 : tk Tryd.prog 96 = .ptr 98 := by kernel_rfl
theorem tsz_96 : tsz Tryd.prog 96 = 1 := by kernel_rfl
theorem tby_96 : tby Tryd.prog 96 = 8 := by kernel_rfl
theorem zc_96 : zc Tryd.prog 96 = some [.nilptr] := by kernel_rfl
theorem tk_98 : tk Tryd.prog 98 = .st := by kernel_rfl
theorem tsz_98 : tsz Tryd.prog 98 = 2 := by kernel_rfl
theorem tby_98 : tby Tryd.prog 98 = 32 := by kernel_rfl
theorem zc_98 : zc Tryd.prog 98 = some [.nilptr, .nilsl] := by kernel_rfl
theorem plS_98 : plS Tryd.prog 98 = some [(0, 1), (1, 1)] := by kernel_rfl
theorem fld_98_0 : fld Tryd.prog 98 0 = some (0, 96) := by kernel_rfl
theorem fld_98_1 : fld Tryd.prog 98 1 = some (1, 44) := by kernel_rfl
theorem tk_109 : tk Tryd.prog 109 = .st := by kernel_rfl
theorem tsz_109 : tsz Tryd.prog 109 = 3 := by kernel_rfl
theorem tby_109 : tby Tryd.prog 109 = 24 := by kernel_rfl
theorem zc_109 : zc Tryd.prog 109 = some [.int .i64 (0), .int .i64 (0), .int .i64 (0)] := by kernel_rfl
theorem plS_109 : plS Tryd.prog 109 = some [(0, 1), (1, 1), (2, 1)] := by kernel_rfl
theorem fld_109_0 : fld Tryd.prog 109 0 = some (0, 3) := by kernel_rfl
theorem fld_109_1 : fld Tryd.prog 109 1 = some (1, 2) := by kernel_rfl
theorem fld_109_2 : fld Tryd.prog 109 2 = some (2, 2) := by kernel_rfl
theorem tk_115 : tk Tryd.prog 115 = .fn := by kernel_rfl
theorem tsz_115 : tsz Tryd.prog 115 = 1 := by kernel_rfl
theorem tby_115 : tby Tryd.prog 115 = 8 := by kernel_rfl
theorem zc_115 : zc Tryd.prog 115 = some [.nilfn] := by kernel_rfl
theorem tk_117 : tk Tryd.prog 117 = .ptr 3 := by kernel_rfl
theorem tsz_117 : tsz Tryd.prog 117 = 1 := by kernel_rfl
theorem tby_117 : tby Tryd.prog 117 = 8 := by kernel_rfl
theorem zc_117 : zc Tryd.prog 117 = some [.nilptr] := by kernel_rfl
theorem tk_118 : tk Tryd.prog 118 = .ptr 41 := by kernel_rfl
theorem tsz_118 : tsz Tryd.prog 118 = 1 := by kernel_rfl
theorem tby_118 : tby Tryd.prog 118 = 8 := by kernel_rfl
theorem zc_118 : zc Tryd.prog 118 = some [.nilptr] := by kernel_rfl
theorem tk_120 : tk Tryd.prog 120 = .sl 122 := by kernel_rfl
theorem tsz_120 : tsz Tryd.prog 120 = 1 := by kernel_rfl
theorem tby_120 : tby Tryd.prog 120 = 24 := by kernel_rfl
theorem zc_120 : zc Tryd.prog 120 = some [.nilsl] := by kernel_rfl
theorem tk_122 : tk Tryd.prog 122 = .st := by kernel_rfl
theorem tsz_122 : tsz Tryd.prog 122 = 2 := by kernel_rfl
theorem tby_122 : tby Tryd.prog 122 = 16 := by kernel_rfl
theorem zc_122 : zc Tryd.prog 122 = some [.int .i64 (0), .int .i64 (0)] := by kernel_rfl
theorem plS_122 : plS Tryd.prog 122 = some [(0, 1), (1, 1)] := by kernel_rfl
theorem fld_122_0 : fld Tryd.prog 122 0 = some (0, 3) := by kernel_rfl
theorem fld_122_1 : fld Tryd.prog 122 1 = some (1, 3) := by kernel_rfl
theorem tk_123 : tk Tryd.prog 123 = .int .u32 := by kernel_rfl
theorem tsz_123 : tsz Tryd.prog 123 = 1 := by kernel_rfl
theorem tby_123 : tby Tryd.prog 123 = 4 := by kernel_rfl
theorem zc_123 : zc Tryd.prog 123 = some [.int .u32 (0)] := by kernel_rfl
theorem tk_125 : tk Tryd.prog 125 = .ptr 138 := by kernel_rfl
theorem tsz_125 : tsz Tryd.prog 125 = 1 := by kernel_rfl
theorem tby_125 : tby Tryd.prog 125 = 8 := by kernel_rfl
theorem zc_125 : zc Tryd.prog 125 = some [.nilptr] := by kernel_rfl
theorem tk_128 : tk Tryd.prog 128 = .arr 256 4 := by kernel_rfl
theorem tsz_128 : tsz Tryd.prog 128 = 256 := by kernel_rfl
theorem tby_128 : tby Tryd.prog 128 = 256 := by kernel_rfl
theorem zc_128 : zc Tryd.prog 128 = some [.bool false, .bool false, .bool false, .bool false, .bool false, .bool false, .bool false, .bool false, .bool false, .bool false, .bool false, .bool false, .bool false, .bool false, .bool false, .bool false, .bool false, .bool false, .bool false, .bool false, .bool false, .bool false, .bool false, .bool false, .bool false, .bool false, .bool false, .bool false, .bool false, .bool false, .bool false, .bool false, .bool false, .bool false, .bool false, .bool false, .bool false, .bool false, .bool false, .bool false, .bool false, .bool false, .bool false, .bool false, .bool false, .bool false, .bool false, .bool false, .bool false, .bool false, .bool false, .bool false, .bool false, .bool false, .bool false, .bool false, .bool false, .bool false, .bool false, .bool false, .bool false, .bool false, .bool false, .bool false, .bool false, .bool false, .bool false, .bool false, .bool false, .bool false, .bool false, .bool false, .bool false, .bool false, .bool false, .bool false, .bool false, .bool false, .bool false, .bool false, .bool false, .bool false, .bool false, .bool false, .bool false, .bool false, .bool false, .bool false, .bool false, .bool false, .bool false, .bool false, .bool false, .bool false, .bool false, .bool false, .bool false, .bool false, .bool false, .bool false, .bool false, .bool false, .bool false, .bool false, .bool false, .bool false, .bool false, .bool false, .bool false, .bool false, .bool false, .bool false, .bool false, .bool false, .bool false, .bool false, .bool false, .bool false, .bool false, .bool false, .bool false, .bool false, .bool false, .bool false, .bool false, .bool false, .bool false, .bool false, .bool false, .bool false, .bool false, .bool false, .bool false, .bool false, .bool false, .bool false, .bool false, .bool false, .bool false, .bool false, .bool false, .bool false, .bool false, .bool false, .bool false, .bool false, .bool false, .bool false, .bool false, .bool false, .bool false, .bool false, .bool false, .bool false, .bool false, .bool false, .bool false, .bool false, .bool false, .bool false, .bool false, .bool false, .bool false, .bool false, .bool false, .bool false, .bool false, .bool false, .bool false, .bool false, .bool false, .bool false, .bool false, .bool false, .bool false, .bool false, .bool false, .bool false, .bool false, .bool false, .bool false, .bool false, .bool false, .bool false, .bool false, .bool false, .bool false, .bool false, .bool false, .bool false, .bool false, .bool false, .bool false, .bool false, .bool false, .bool false, .bool false, .bool false, .bool false, .bool false, .bool false, .bool false, .bool false, .bool false, .bool false, .bool false, .bool false, .bool false, .bool false, .bool false, .bool false, .bool false, .bool false, .bool false, .bool false, .bool false, .bool false, .bool false, .bool false, .bool false, .bool false, .bool false, .bool false, .bool false, .bool false, .bool false, .bool false, .bool false, .bool false, .bool false, .bool false, .bool false, .bool false, .bool false, .bool false, .bool false, .bool false, .bool false, .bool false, .bool false, .bool false, .bool false, .bool false, .bool false, .bool false, .bool false, .bool false, .bool false, .bool false, .bool false, .bool false, .bool false, .bool false, .bool false, .bool false, .bool false] := by kernel_rfl
theorem tk_132 : tk Tryd.prog 132 = .ptr 5 := by kernel_rfl
theorem tsz_132 : tsz Tryd.prog 132 = 1 := by kernel_rfl
theorem tby_132 : tby Tryd.prog 132 = 8 := by kernel_rfl
theorem zc_132 : zc Tryd.prog 132 = some [.nilptr] := by kernel_rfl
theorem tk_133 : tk Tryd.prog 133 = .arr 6 109 := by kernel_rfl
theorem tsz_133 : tsz Tryd.prog 133 = 18 := by kernel_rfl
theorem tby_133 : tby Tryd.prog 133 = 144 := by kernel_rfl
theorem zc_133 : zc Tryd.prog 133 = some [.int .i64 (0), .int .i64 (0), .int .i64 (0), .int .i64 (0), .int .i64 (0), .int .i64 (0), .int .i64 (0), .int .i64 (0), .int .i64 (0), .int .i64 (0), .int .i64 (0), .int .i64 (0), .int .i64 (0), .int .i64 (0), .int .i64 (0), .int .i64 (0), .int .i64 (0), .int .i64 (0)] := by kernel_rfl
theorem tk_134 : tk Tryd.prog 134 = .int .u64 := by kernel_rfl
theorem tsz_134 : tsz Tryd.prog 134 = 1 := by kernel_rfl
theorem tby_134 : tby Tryd.prog 134 = 8 := by kernel_rfl
theorem zc_134 : zc Tryd.prog 134 = some [.int .u64 (0)] := by kernel_rfl
theorem tk_135 : tk Tryd.prog 135 = .sl 140 := by kernel_rfl
theorem tsz_135 : tsz Tryd.prog 135 = 1 := by kernel_rfl
theorem tby_135 : tby Tryd.prog 135 = 24 := by kernel_rfl
theorem zc_135 : zc Tryd.prog 135 = some [.nilsl] := by kernel_rfl
theorem tk_136 : tk Tryd.prog 136 = .sl 143 := by kernel_rfl
theorem tsz_136 : tsz Tryd.prog 136 = 1 := by kernel_rfl
theorem tby_136 : tby Tryd.prog 136 = 24 := by kernel_rfl
theorem zc_136 : zc Tryd.prog 136 = some [.nilsl] := by kernel_rfl
theorem tk_138 : tk Tryd.prog 138 = .st := by kernel_rfl
theorem tsz_138 : tsz Tryd.prog 138 = 3 := by kernel_rfl
theorem tby_138 : tby Tryd.prog 138 = 56 := by kernel_rfl
theorem zc_138 : zc Tryd.prog 138 = some [.nilsl, .nilsl, .int .i64 (0)] := by kernel_rfl
theorem plS_138 : plS Tryd.prog 138 = some [(0, 1), (1, 1), (2, 1)] := by kernel_rfl
theorem fld_138_0 : fld Tryd.prog 138 0 = some (0, 135) := by kernel_rfl
theorem fld_138_1 : fld Tryd.prog 138 1 = some (1, 136) := by kernel_rfl
theorem fld_138_2 : fld Tryd.prog 138 2 = some (2, 3) := by kernel_rfl
theorem tk_140 : tk Tryd.prog 140 = .st := by kernel_rfl
theorem tsz_140 : tsz Tryd.prog 140 = 3 := by kernel_rfl
theorem tby_140 : tby Tryd.prog 140 = 6 := by kernel_rfl
theorem zc_140 : zc Tryd.prog 140 = some [.int .u16 (0), .int .u16 (0), .int .u16 (0)] := by kernel_rfl
theorem plS_140 : plS Tryd.prog 140 = some [(0, 1), (1, 1), (2, 1)] := by kernel_rfl
theorem fld_140_0 : fld Tryd.prog 140 0 = some (0, 54) := by kernel_rfl
theorem fld_140_1 : fld Tryd.prog 140 1 = some (1, 54) := by kernel_rfl
theorem fld_140_2 : fld Tryd.prog 140 2 = some (2, 54) := by kernel_rfl
theorem tk_143 : tk Tryd.prog 143 = .st := by kernel_rfl
theorem tsz_143 : tsz Tryd.prog 143 = 3 := by kernel_rfl
theorem tby_143 : tby Tryd.prog 143 = 12 := by kernel_rfl
theorem zc_143 : zc Tryd.prog 143 = some [.int .u32 (0), .int .u32 (0), .int .u32 (0)] := by kernel_rfl
theorem plS_143 : plS Tryd.prog 143 = some [(0, 1), (1, 1), (2, 1)] := by kernel_rfl
theorem fld_143_0 : fld Tryd.prog 143 0 = some (0, 123) := by kernel_rfl
theorem fld_143_1 : fld Tryd.prog 143 1 = some (1, 123) := by kernel_rfl
theorem fld_143_2 : fld Tryd.prog 143 2 = some (2, 123) := by kernel_rfl
theorem tk_146 : tk Tryd.prog 146 = .int .u64 := by kernel_rfl
theorem tsz_146 : tsz Tryd.prog 146 = 1 := by kernel_rfl
theorem tby_146 : tby Tryd.prog 146 = 8 := by kernel_rfl
theorem zc_146 : zc Tryd.prog 146 = some [.int .u64 (0)] := by kernel_rfl
theorem tk_148 : tk Tryd.prog 148 = .other := by kernel_rfl
theorem tsz_148 : tsz Tryd.prog 148 = 1 := by kernel_rfl
theorem tby_148 : tby Tryd.prog 148 = 8 := by kernel_rfl
theorem zc_148 : zc Tryd.prog 148 = some [.nilptr] := by kernel_rfl
attribute [push_cast] tk_1 tsz_1 tby_1 zc_1 tk_2 tsz_2 tby_2 zc_2 tk_3 tsz_3 tby_3 zc_3 tk_4 tsz_4 tby_4 zc_4 tk_5 tsz_5 tby_5 zc_5 tk_9 tsz_9 tby_9 zc_9 tk_21 tsz_21 tby_21 zc_21 tk_22 tsz_22 tby_22 zc_22 tk_27 tsz_27
  tby_27 zc_27 tk_29 tsz_29 tby_29 zc_29 plS_29 fld_29_0 fld_29_1 fld_29_2 tk_37 tsz_37 tby_37 zc_37 plS_37 fld_37_0 fld_37_1 fld_37_2 tk_41 tsz_41 tby_41 zc_41 tk_43 tsz_43 tby_43 zc_43 tk_44 tsz_44
  tby_44 zc_44 tk_46 tsz_46 tby_46 zc_46 plS_46 fld_46_0 fld_46_1 fld_46_2 fld_46_3 tk_54 tsz_54 tby_54 zc_54 tk_65 tsz_65 tby_65 zc_65 plS_65 fld_65_0 fld_65_1 fld_65_2 tk_75 tsz_75 tby_75 zc_75 plS_75
  fld_75_0 fld_75_1 fld_75_2 tk_84 tsz_84 tby_84 zc_84 tk_86 tsz_86 tby_86 zc_86 tk_87 tsz_87 tby_87 zc_87 tk_89 tsz_89 tby_89 zc_89 tk_92 tsz_92 tby_92 zc_92 tk_93 tsz_93 tby_93 zc_93 tk_96 tsz_96
  tby_96 zc_96 tk_98 tsz_98 tby_98 zc_98 plS_98 fld_98_0 fld_98_1 tk_109 tsz_109 tby_109 zc_109 plS_109 fld_109_0 fld_109_1 fld_109_2 tk_115 tsz_115 tby_115 zc_115 tk_117 tsz_117 tby_117 zc_117 tk_118
  tsz_118 tby_118 zc_118 tk_120 tsz_120 tby_120 zc_120 tk_122 tsz_122 tby_122 zc_122 plS_122 fld_122_0 fld_122_1 tk_123 tsz_123 tby_123 zc_123 tk_125 tsz_125 tby_125 zc_125 tk_128 tsz_128 tby_128 zc_128
  tk_132 tsz_132 tby_132 zc_132 tk_133 tsz_133 tby_133 zc_133 tk_134 tsz_134 tby_134 zc_134 tk_135 tsz_135 tby_135 zc_135 tk_136 tsz_136 tby_136 zc_136 tk_138 tsz_138 tby_138 zc_138 plS_138 fld_138_0
  fld_138_1 fld_138_2 tk_140 tsz_140 tby_140 zc_140 plS_140 fld_140_0 fld_140_1 fld_140_2 tk_143 tsz_143 tby_143 zc_143 plS_143 fld_143_0 fld_143_1 fld_143_2 tk_146 tsz_146 tby_146 zc_146 tk_148 tsz_148
  tby_148 zc_148
end Go.Proofs.Cd
