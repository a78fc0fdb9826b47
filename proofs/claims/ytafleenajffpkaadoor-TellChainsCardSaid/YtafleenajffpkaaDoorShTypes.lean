/- The types of this program, as the operations ask for them. -/
import Derived.Test.YtafleenajffpkaaDoorShShelf
import Derived.Test.YtafleenajffpkaaDoorPvY
set_option maxRecDepth 100000
namespace Go.Proofs.Sh
open Go.Pv
theorem tk_1 : tk Tryd.prog 1 = .fn := by kernel_rfl
theorem tsz_1 : tsz Tryd.prog 1 = 1 := by kernel_rfl
theorem tby_1 : tby Tryd.prog 1 = 8 := by kernel_rfl
theorem bld_1 : bldE Tryd.prog 1 = none := by kernel_rfl
theorem zc_1 : zc Tryd.prog 1 = some [.nilfn] := by kernel_rfl
theorem tk_2 : tk Tryd.prog 2 = .int .i64 := by kernel_rfl
theorem tsz_2 : tsz Tryd.prog 2 = 1 := by kernel_rfl
theorem tby_2 : tby Tryd.prog 2 = 8 := by kernel_rfl
theorem bld_2 : bldE Tryd.prog 2 = none := by kernel_rfl
theorem zc_2 : zc Tryd.prog 2 = some [.int .i64 (0)] := by kernel_rfl
theorem tk_3 : tk Tryd.prog 3 = .int .i64 := by kernel_rfl
theorem tsz_3 : tsz Tryd.prog 3 = 1 := by kernel_rfl
theorem tby_3 : tby Tryd.prog 3 = 8 := by kernel_rfl
theorem bld_3 : bldE Tryd.prog 3 = none := by kernel_rfl
theorem zc_3 : zc Tryd.prog 3 = some [.int .i64 (0)] := by kernel_rfl
theorem tk_4 : tk Tryd.prog 4 = .bool := by kernel_rfl
theorem tsz_4 : tsz Tryd.prog 4 = 1 := by kernel_rfl
theorem tby_4 : tby Tryd.prog 4 = 1 := by kernel_rfl
theorem bld_4 : bldE Tryd.prog 4 = none := by kernel_rfl
theorem zc_4 : zc Tryd.prog 4 = some [.bool false] := by kernel_rfl
theorem tk_5 : tk Tryd.prog 5 = .int .u8 := by kernel_rfl
theorem tsz_5 : tsz Tryd.prog 5 = 1 := by kernel_rfl
theorem tby_5 : tby Tryd.prog 5 = 1 := by kernel_rfl
theorem bld_5 : bldE Tryd.prog 5 = none := by kernel_rfl
theorem zc_5 : zc Tryd.prog 5 = some [.int .u8 (0)] := by kernel_rfl
theorem tk_9 : tk Tryd.prog 9 = .str := by kernel_rfl
theorem tsz_9 : tsz Tryd.prog 9 = 1 := by kernel_rfl
theorem tby_9 : tby Tryd.prog 9 = 16 := by kernel_rfl
theorem bld_9 : bldE Tryd.prog 9 = none := by kernel_rfl
theorem zc_9 : zc Tryd.prog 9 = some [.str []] := by kernel_rfl
theorem tk_21 : tk Tryd.prog 21 = .int .i32 := by kernel_rfl
theorem tsz_21 : tsz Tryd.prog 21 = 1 := by kernel_rfl
theorem tby_21 : tby Tryd.prog 21 = 4 := by kernel_rfl
theorem bld_21 : bldE Tryd.prog 21 = none := by kernel_rfl
theorem zc_21 : zc Tryd.prog 21 = some [.int .i32 (0)] := by kernel_rfl
theorem tk_23 : tk Tryd.prog 23 = .sl 2 := by kernel_rfl
theorem tsz_23 : tsz Tryd.prog 23 = 1 := by kernel_rfl
theorem tby_23 : tby Tryd.prog 23 = 24 := by kernel_rfl
theorem bld_23 : bldE Tryd.prog 23 = none := by kernel_rfl
theorem zc_23 : zc Tryd.prog 23 = some [.nilsl] := by kernel_rfl
theorem tk_25 : tk Tryd.prog 25 = .st := by kernel_rfl
theorem tsz_25 : tsz Tryd.prog 25 = 6 := by kernel_rfl
theorem tby_25 : tby Tryd.prog 25 = 88 := by kernel_rfl
theorem bld_25 : bldE Tryd.prog 25 = none := by kernel_rfl
theorem zc_25 : zc Tryd.prog 25 = some [.int .i64 (0), .int .i64 (0), .int .i64 (0), .nilsl, .str [], .nilsl] := by kernel_rfl
theorem plS_25 : plS Tryd.prog 25 = some [(0, 1), (1, 1), (2, 1), (3, 1), (4, 1), (5, 1)] := by kernel_rfl
theorem fld_25_0 : fld Tryd.prog 25 0 = some (0, 3) := by kernel_rfl
theorem fld_25_1 : fld Tryd.prog 25 1 = some (1, 3) := by kernel_rfl
theorem fld_25_2 : fld Tryd.prog 25 2 = some (2, 3) := by kernel_rfl
theorem fld_25_3 : fld Tryd.prog 25 3 = some (3, 23) := by kernel_rfl
theorem fld_25_4 : fld Tryd.prog 25 4 = some (4, 9) := by kernel_rfl
theorem fld_25_5 : fld Tryd.prog 25 5 = some (5, 23) := by kernel_rfl
theorem tk_26 : tk Tryd.prog 26 = .int .i64 := by kernel_rfl
theorem tsz_26 : tsz Tryd.prog 26 = 1 := by kernel_rfl
theorem tby_26 : tby Tryd.prog 26 = 8 := by kernel_rfl
theorem bld_26 : bldE Tryd.prog 26 = none := by kernel_rfl
theorem zc_26 : zc Tryd.prog 26 = some [.int .i64 (0)] := by kernel_rfl
theorem tk_41 : tk Tryd.prog 41 = .sl 25 := by kernel_rfl
theorem tsz_41 : tsz Tryd.prog 41 = 1 := by kernel_rfl
theorem tby_41 : tby Tryd.prog 41 = 24 := by kernel_rfl
theorem bld_41 : bldE Tryd.prog 41 = none := by kernel_rfl
theorem zc_41 : zc Tryd.prog 41 = some [.nilsl] := by kernel_rfl
theorem tk_43 : tk Tryd.prog 43 = .int .u16 := by kernel_rfl
theorem tsz_43 : tsz Tryd.prog 43 = 1 := by kernel_rfl
theorem tby_43 : tby Tryd.prog 43 = 2 := by kernel_rfl
theorem bld_43 : bldE Tryd.prog 43 = none := by kernel_rfl
theorem zc_43 : zc Tryd.prog 43 = some [.int .u16 (0)] := by kernel_rfl
theorem tk_45 : tk Tryd.prog 45 = .int .u32 := by kernel_rfl
theorem tsz_45 : tsz Tryd.prog 45 = 1 := by kernel_rfl
theorem tby_45 : tby Tryd.prog 45 = 4 := by kernel_rfl
theorem bld_45 : bldE Tryd.prog 45 = none := by kernel_rfl
theorem zc_45 : zc Tryd.prog 45 = some [.int .u32 (0)] := by kernel_rfl
theorem tk_53 : tk Tryd.prog 53 = .sl 3 := by kernel_rfl
theorem tsz_53 : tsz Tryd.prog 53 = 1 := by kernel_rfl
theorem tby_53 : tby Tryd.prog 53 = 24 := by kernel_rfl
theorem bld_53 : bldE Tryd.prog 53 = none := by kernel_rfl
theorem zc_53 : zc Tryd.prog 53 = some [.nilsl] := by kernel_rfl
theorem tk_55 : tk Tryd.prog 55 = .st := by kernel_rfl
theorem tsz_55 : tsz Tryd.prog 55 = 3 := by kernel_rfl
theorem tby_55 : tby Tryd.prog 55 = 40 := by kernel_rfl
theorem bld_55 : bldE Tryd.prog 55 = none := by kernel_rfl
theorem zc_55 : zc Tryd.prog 55 = some [.nilsl, .bool false, .int .i64 (0)] := by kernel_rfl
theorem plS_55 : plS Tryd.prog 55 = some [(0, 1), (1, 1), (2, 1)] := by kernel_rfl
theorem fld_55_0 : fld Tryd.prog 55 0 = some (0, 53) := by kernel_rfl
theorem fld_55_1 : fld Tryd.prog 55 1 = some (1, 4) := by kernel_rfl
theorem fld_55_2 : fld Tryd.prog 55 2 = some (2, 3) := by kernel_rfl
theorem tk_61 : tk Tryd.prog 61 = .st := by kernel_rfl
theorem tsz_61 : tsz Tryd.prog 61 = 3 := by kernel_rfl
theorem tby_61 : tby Tryd.prog 61 = 64 := by kernel_rfl
theorem bld_61 : bldE Tryd.prog 61 = none := by kernel_rfl
theorem zc_61 : zc Tryd.prog 61 = some [.nilsl, .str [], .nilsl] := by kernel_rfl
theorem plS_61 : plS Tryd.prog 61 = some [(0, 1), (1, 1), (2, 1)] := by kernel_rfl
theorem fld_61_0 : fld Tryd.prog 61 0 = some (0, 23) := by kernel_rfl
theorem fld_61_1 : fld Tryd.prog 61 1 = some (1, 9) := by kernel_rfl
theorem fld_61_2 : fld Tryd.prog 61 2 = some (2, 23) := by kernel_rfl
theorem tk_64 : tk Tryd.prog 64 = .st := by kernel_rfl
theorem tsz_64 : tsz Tryd.prog 64 = 3 := by kernel_rfl
theorem tby_64 : tby Tryd.prog 64 = 40 := by kernel_rfl
theorem bld_64 : bldE Tryd.prog 64 = none := by kernel_rfl
theorem zc_64 : zc Tryd.prog 64 = some [.nilsl, .bool false, .int .i64 (0)] := by kernel_rfl
theorem plS_64 : plS Tryd.prog 64 = some [(0, 1), (1, 1), (2, 1)] := by kernel_rfl
theorem fld_64_0 : fld Tryd.prog 64 0 = some (0, 53) := by kernel_rfl
theorem fld_64_1 : fld Tryd.prog 64 1 = some (1, 4) := by kernel_rfl
theorem fld_64_2 : fld Tryd.prog 64 2 = some (2, 3) := by kernel_rfl
theorem tk_67 : tk Tryd.prog 67 = .st := by kernel_rfl
theorem tsz_67 : tsz Tryd.prog 67 = 3 := by kernel_rfl
theorem tby_67 : tby Tryd.prog 67 = 64 := by kernel_rfl
theorem bld_67 : bldE Tryd.prog 67 = none := by kernel_rfl
theorem zc_67 : zc Tryd.prog 67 = some [.nilsl, .str [], .nilsl] := by kernel_rfl
theorem plS_67 : plS Tryd.prog 67 = some [(0, 1), (1, 1), (2, 1)] := by kernel_rfl
theorem fld_67_0 : fld Tryd.prog 67 0 = some (0, 23) := by kernel_rfl
theorem fld_67_1 : fld Tryd.prog 67 1 = some (1, 9) := by kernel_rfl
theorem fld_67_2 : fld Tryd.prog 67 2 = some (2, 23) := by kernel_rfl
theorem tk_74 : tk Tryd.prog 74 = .sl 5 := by kernel_rfl
theorem tsz_74 : tsz Tryd.prog 74 = 1 := by kernel_rfl
theorem tby_74 : tby Tryd.prog 74 = 24 := by kernel_rfl
theorem bld_74 : bldE Tryd.prog 74 = none := by kernel_rfl
theorem zc_74 : zc Tryd.prog 74 = some [.nilsl] := by kernel_rfl
theorem tk_77 : tk Tryd.prog 77 = .st := by kernel_rfl
theorem tsz_77 : tsz Tryd.prog 77 = 3 := by kernel_rfl
theorem tby_77 : tby Tryd.prog 77 = 24 := by kernel_rfl
theorem bld_77 : bldE Tryd.prog 77 = none := by kernel_rfl
theorem zc_77 : zc Tryd.prog 77 = some [.int .i64 (0), .int .i64 (0), .int .i64 (0)] := by kernel_rfl
theorem plS_77 : plS Tryd.prog 77 = some [(0, 1), (1, 1), (2, 1)] := by kernel_rfl
theorem fld_77_0 : fld Tryd.prog 77 0 = some (0, 3) := by kernel_rfl
theorem fld_77_1 : fld Tryd.prog 77 1 = some (1, 3) := by kernel_rfl
theorem fld_77_2 : fld Tryd.prog 77 2 = some (2, 3) := by kernel_rfl
theorem tk_82 : tk Tryd.prog 82 = .st := by kernel_rfl
theorem tsz_82 : tsz Tryd.prog 82 = 3 := by kernel_rfl
theorem tby_82 : tby Tryd.prog 82 = 24 := by kernel_rfl
theorem bld_82 : bldE Tryd.prog 82 = none := by kernel_rfl
theorem zc_82 : zc Tryd.prog 82 = some [.int .i64 (0), .int .i64 (0), .int .i64 (0)] := by kernel_rfl
theorem plS_82 : plS Tryd.prog 82 = some [(0, 1), (1, 1), (2, 1)] := by kernel_rfl
theorem fld_82_0 : fld Tryd.prog 82 0 = some (0, 3) := by kernel_rfl
theorem fld_82_1 : fld Tryd.prog 82 1 = some (1, 2) := by kernel_rfl
theorem fld_82_2 : fld Tryd.prog 82 2 = some (2, 2) := by kernel_rfl
theorem tk_89 : tk Tryd.prog 89 = .fn := by kernel_rfl
theorem tsz_89 : tsz Tryd.prog 89 = 1 := by kernel_rfl
theorem tby_89 : tby Tryd.prog 89 = 8 := by kernel_rfl
theorem bld_89 : bldE Tryd.prog 89 = none := by kernel_rfl
theorem zc_89 : zc Tryd.prog 89 = some [.nilfn] := by kernel_rfl
theorem tk_91 : tk Tryd.prog 91 = .ptr 3 := by kernel_rfl
theorem tsz_91 : tsz Tryd.prog 91 = 1 := by kernel_rfl
theorem tby_91 : tby Tryd.prog 91 = 8 := by kernel_rfl
theorem bld_91 : bldE Tryd.prog 91 = none := by kernel_rfl
theorem zc_91 : zc Tryd.prog 91 = some [.nilptr] := by kernel_rfl
theorem tk_92 : tk Tryd.prog 92 = .ptr 26 := by kernel_rfl
theorem tsz_92 : tsz Tryd.prog 92 = 1 := by kernel_rfl
theorem tby_92 : tby Tryd.prog 92 = 8 := by kernel_rfl
theorem bld_92 : bldE Tryd.prog 92 = none := by kernel_rfl
theorem zc_92 : zc Tryd.prog 92 = some [.nilptr] := by kernel_rfl
theorem tk_93 : tk Tryd.prog 93 = .st := by kernel_rfl
theorem tsz_93 : tsz Tryd.prog 93 = 3 := by kernel_rfl
theorem tby_93 : tby Tryd.prog 93 = 40 := by kernel_rfl
theorem bld_93 : bldE Tryd.prog 93 = none := by kernel_rfl
theorem zc_93 : zc Tryd.prog 93 = some [.nilsl, .bool false, .int .i64 (0)] := by kernel_rfl
theorem plS_93 : plS Tryd.prog 93 = some [(0, 1), (1, 1), (2, 1)] := by kernel_rfl
theorem fld_93_0 : fld Tryd.prog 93 0 = some (0, 53) := by kernel_rfl
theorem fld_93_1 : fld Tryd.prog 93 1 = some (1, 4) := by kernel_rfl
theorem fld_93_2 : fld Tryd.prog 93 2 = some (2, 3) := by kernel_rfl
theorem tk_97 : tk Tryd.prog 97 = .ptr 99 := by kernel_rfl
theorem tsz_97 : tsz Tryd.prog 97 = 1 := by kernel_rfl
theorem tby_97 : tby Tryd.prog 97 = 8 := by kernel_rfl
theorem bld_97 : bldE Tryd.prog 97 = none := by kernel_rfl
theorem zc_97 : zc Tryd.prog 97 = some [.nilptr] := by kernel_rfl
theorem tk_99 : tk Tryd.prog 99 = .st := by kernel_rfl
theorem tsz_99 : tsz Tryd.prog 99 = 3 := by kernel_rfl
theorem tby_99 : tby Tryd.prog 99 = 32 := by kernel_rfl
theorem bld_99 : bldE Tryd.prog 99 = none := by kernel_rfl
theorem zc_99 : zc Tryd.prog 99 = some [.str [], .int .i64 (0), .int .i64 (0)] := by kernel_rfl
theorem plS_99 : plS Tryd.prog 99 = some [(0, 1), (1, 1), (2, 1)] := by kernel_rfl
theorem fld_99_0 : fld Tryd.prog 99 0 = some (0, 9) := by kernel_rfl
theorem fld_99_1 : fld Tryd.prog 99 1 = some (1, 3) := by kernel_rfl
theorem fld_99_2 : fld Tryd.prog 99 2 = some (2, 3) := by kernel_rfl
theorem tk_108 : tk Tryd.prog 108 = .st := by kernel_rfl
theorem tsz_108 : tsz Tryd.prog 108 = 3 := by kernel_rfl
theorem tby_108 : tby Tryd.prog 108 = 48 := by kernel_rfl
theorem bld_108 : bldE Tryd.prog 108 = none := by kernel_rfl
theorem zc_108 : zc Tryd.prog 108 = some [.str [], .str [], .str []] := by kernel_rfl
theorem plS_108 : plS Tryd.prog 108 = some [(0, 1), (1, 1), (2, 1)] := by kernel_rfl
theorem fld_108_0 : fld Tryd.prog 108 0 = some (0, 9) := by kernel_rfl
theorem fld_108_1 : fld Tryd.prog 108 1 = some (1, 9) := by kernel_rfl
theorem fld_108_2 : fld Tryd.prog 108 2 = some (2, 9) := by kernel_rfl
theorem tk_111 : tk Tryd.prog 111 = .arr 6 82 := by kernel_rfl
theorem tsz_111 : tsz Tryd.prog 111 = 18 := by kernel_rfl
theorem tby_111 : tby Tryd.prog 111 = 144 := by kernel_rfl
theorem bld_111 : bldE Tryd.prog 111 = none := by kernel_rfl
theorem zc_111 : zc Tryd.prog 111 = some [.int .i64 (0), .int .i64 (0), .int .i64 (0), .int .i64 (0), .int .i64 (0), .int .i64 (0), .int .i64 (0), .int .i64 (0), .int .i64 (0), .int .i64 (0), .int .i64 (0), .int .i64 (0), .int .i64 (0), .int .i64 (0), .int .i64 (0), .int .i64 (0), .int .i64 (0), .int .i64 (0)] := by kernel_rfl
theorem tk_112 : tk Tryd.prog 112 = .int .u64 := by kernel_rfl
theorem tsz_112 : tsz Tryd.prog 112 = 1 := by kernel_rfl
theorem tby_112 : tby Tryd.prog 112 = 8 := by kernel_rfl
theorem bld_112 : bldE Tryd.prog 112 = none := by kernel_rfl
theorem zc_112 : zc Tryd.prog 112 = some [.int .u64 (0)] := by kernel_rfl
theorem tk_114 : tk Tryd.prog 114 = .sl 9 := by kernel_rfl
theorem tsz_114 : tsz Tryd.prog 114 = 1 := by kernel_rfl
theorem tby_114 : tby Tryd.prog 114 = 24 := by kernel_rfl
theorem bld_114 : bldE Tryd.prog 114 = none := by kernel_rfl
theorem zc_114 : zc Tryd.prog 114 = some [.nilsl] := by kernel_rfl
theorem tk_119 : tk Tryd.prog 119 = .ptr 121 := by kernel_rfl
theorem tsz_119 : tsz Tryd.prog 119 = 1 := by kernel_rfl
theorem tby_119 : tby Tryd.prog 119 = 8 := by kernel_rfl
theorem bld_119 : bldE Tryd.prog 119 = none := by kernel_rfl
theorem zc_119 : zc Tryd.prog 119 = some [.nilptr] := by kernel_rfl
theorem tk_121 : tk Tryd.prog 121 = .st := by kernel_rfl
theorem tsz_121 : tsz Tryd.prog 121 = 2 := by kernel_rfl
theorem tby_121 : tby Tryd.prog 121 = 32 := by kernel_rfl
theorem bld_121 : bldE Tryd.prog 121 = some 5 := by kernel_rfl
theorem zc_121 : zc Tryd.prog 121 = some [.nilptr, .nilsl] := by kernel_rfl
theorem plS_121 : plS Tryd.prog 121 = some [(0, 1), (1, 1)] := by kernel_rfl
theorem fld_121_0 : fld Tryd.prog 121 0 = some (0, 119) := by kernel_rfl
theorem fld_121_1 : fld Tryd.prog 121 1 = some (1, 74) := by kernel_rfl
theorem tk_131 : tk Tryd.prog 131 = .arr 30 108 := by kernel_rfl
theorem tsz_131 : tsz Tryd.prog 131 = 90 := by kernel_rfl
theorem tby_131 : tby Tryd.prog 131 = 1440 := by kernel_rfl
theorem bld_131 : bldE Tryd.prog 131 = none := by kernel_rfl
theorem zc_131 : zc Tryd.prog 131 = some [.str [], .str [], .str [], .str [], .str [], .str [], .str [], .str [], .str [], .str [], .str [], .str [], .str [], .str [], .str [], .str [], .str [], .str [], .str [], .str [], .str [], .str [], .str [], .str [], .str [], .str [], .str [], .str [], .str [], .str [], .str [], .str [], .str [], .str [], .str [], .str [], .str [], .str [], .str [], .str [], .str [], .str [], .str [], .str [], .str [], .str [], .str [], .str [], .str [], .str [], .str [], .str [], .str [], .str [], .str [], .str [], .str [], .str [], .str [], .str [], .str [], .str [], .str [], .str [], .str [], .str [], .str [], .str [], .str [], .str [], .str [], .str [], .str [], .str [], .str [], .str [], .str [], .str [], .str [], .str [], .str [], .str [], .str [], .str [], .str [], .str [], .str [], .str [], .str [], .str []] := by kernel_rfl
theorem tk_133 : tk Tryd.prog 133 = .arr 59 108 := by kernel_rfl
theorem tsz_133 : tsz Tryd.prog 133 = 177 := by kernel_rfl
theorem tby_133 : tby Tryd.prog 133 = 2832 := by kernel_rfl
theorem bld_133 : bldE Tryd.prog 133 = none := by kernel_rfl
theorem zc_133 : zc Tryd.prog 133 = some [.str [], .str [], .str [], .str [], .str [], .str [], .str [], .str [], .str [], .str [], .str [], .str [], .str [], .str [], .str [], .str [], .str [], .str [], .str [], .str [], .str [], .str [], .str [], .str [], .str [], .str [], .str [], .str [], .str [], .str [], .str [], .str [], .str [], .str [], .str [], .str [], .str [], .str [], .str [], .str [], .str [], .str [], .str [], .str [], .str [], .str [], .str [], .str [], .str [], .str [], .str [], .str [], .str [], .str [], .str [], .str [], .str [], .str [], .str [], .str [], .str [], .str [], .str [], .str [], .str [], .str [], .str [], .str [], .str [], .str [], .str [], .str [], .str [], .str [], .str [], .str [], .str [], .str [], .str [], .str [], .str [], .str [], .str [], .str [], .str [], .str [], .str [], .str [], .str [], .str [], .str [], .str [], .str [], .str [], .str [], .str [], .str [], .str [], .str [], .str [], .str [], .str [], .str [], .str [], .str [], .str [], .str [], .str [], .str [], .str [], .str [], .str [], .str [], .str [], .str [], .str [], .str [], .str [], .str [], .str [], .str [], .str [], .str [], .str [], .str [], .str [], .str [], .str [], .str [], .str [], .str [], .str [], .str [], .str [], .str [], .str [], .str [], .str [], .str [], .str [], .str [], .str [], .str [], .str [], .str [], .str [], .str [], .str [], .str [], .str [], .str [], .str [], .str [], .str [], .str [], .str [], .str [], .str [], .str [], .str [], .str [], .str [], .str [], .str [], .str [], .str [], .str [], .str [], .str [], .str [], .str [], .str [], .str [], .str [], .str [], .str [], .str []] := by kernel_rfl
theorem tk_137 : tk Tryd.prog 137 = .arr 26 108 := by kernel_rfl
theorem tsz_137 : tsz Tryd.prog 137 = 78 := by kernel_rfl
theorem tby_137 : tby Tryd.prog 137 = 1248 := by kernel_rfl
theorem bld_137 : bldE Tryd.prog 137 = none := by kernel_rfl
theorem zc_137 : zc Tryd.prog 137 = some [.str [], .str [], .str [], .str [], .str [], .str [], .str [], .str [], .str [], .str [], .str [], .str [], .str [], .str [], .str [], .str [], .str [], .str [], .str [], .str [], .str [], .str [], .str [], .str [], .str [], .str [], .str [], .str [], .str [], .str [], .str [], .str [], .str [], .str [], .str [], .str [], .str [], .str [], .str [], .str [], .str [], .str [], .str [], .str [], .str [], .str [], .str [], .str [], .str [], .str [], .str [], .str [], .str [], .str [], .str [], .str [], .str [], .str [], .str [], .str [], .str [], .str [], .str [], .str [], .str [], .str [], .str [], .str [], .str [], .str [], .str [], .str [], .str [], .str [], .str [], .str [], .str [], .str []] := by kernel_rfl
theorem tk_138 : tk Tryd.prog 138 = .ptr 5 := by kernel_rfl
theorem tsz_138 : tsz Tryd.prog 138 = 1 := by kernel_rfl
theorem tby_138 : tby Tryd.prog 138 = 8 := by kernel_rfl
theorem bld_138 : bldE Tryd.prog 138 = none := by kernel_rfl
theorem zc_138 : zc Tryd.prog 138 = some [.nilptr] := by kernel_rfl
theorem tk_139 : tk Tryd.prog 139 = .arr 256 5 := by kernel_rfl
theorem tsz_139 : tsz Tryd.prog 139 = 256 := by kernel_rfl
theorem tby_139 : tby Tryd.prog 139 = 256 := by kernel_rfl
theorem bld_139 : bldE Tryd.prog 139 = none := by kernel_rfl
theorem zc_139 : zc Tryd.prog 139 = some [.int .u8 (0), .int .u8 (0), .int .u8 (0), .int .u8 (0), .int .u8 (0), .int .u8 (0), .int .u8 (0), .int .u8 (0), .int .u8 (0), .int .u8 (0), .int .u8 (0), .int .u8 (0), .int .u8 (0), .int .u8 (0), .int .u8 (0), .int .u8 (0), .int .u8 (0), .int .u8 (0), .int .u8 (0), .int .u8 (0), .int .u8 (0), .int .u8 (0), .int .u8 (0), .int .u8 (0), .int .u8 (0), .int .u8 (0), .int .u8 (0), .int .u8 (0), .int .u8 (0), .int .u8 (0), .int .u8 (0), .int .u8 (0), .int .u8 (0), .int .u8 (0), .int .u8 (0), .int .u8 (0), .int .u8 (0), .int .u8 (0), .int .u8 (0), .int .u8 (0), .int .u8 (0), .int .u8 (0), .int .u8 (0), .int .u8 (0), .int .u8 (0), .int .u8 (0), .int .u8 (0), .int .u8 (0), .int .u8 (0), .int .u8 (0), .int .u8 (0), .int .u8 (0), .int .u8 (0), .int .u8 (0), .int .u8 (0), .int .u8 (0), .int .u8 (0), .int .u8 (0), .int .u8 (0), .int .u8 (0), .int .u8 (0), .int .u8 (0), .int .u8 (0), .int .u8 (0), .int .u8 (0), .int .u8 (0), .int .u8 (0), .int .u8 (0), .int .u8 (0), .int .u8 (0), .int .u8 (0), .int .u8 (0), .int .u8 (0), .int .u8 (0), .int .u8 (0), .int .u8 (0), .int .u8 (0), .int .u8 (0), .int .u8 (0), .int .u8 (0), .int .u8 (0), .int .u8 (0), .int .u8 (0), .int .u8 (0), .int .u8 (0), .int .u8 (0), .int .u8 (0), .int .u8 (0), .int .u8 (0), .int .u8 (0), .int .u8 (0), .int .u8 (0), .int .u8 (0), .int .u8 (0), .int .u8 (0), .int .u8 (0), .int .u8 (0), .int .u8 (0), .int .u8 (0), .int .u8 (0), .int .u8 (0), .int .u8 (0), .int .u8 (0), .int .u8 (0), .int .u8 (0), .int .u8 (0), .int .u8 (0), .int .u8 (0), .int .u8 (0), .int .u8 (0), .int .u8 (0), .int .u8 (0), .int .u8 (0), .int .u8 (0), .int .u8 (0), .int .u8 (0), .int .u8 (0), .int .u8 (0), .int .u8 (0), .int .u8 (0), .int .u8 (0), .int .u8 (0), .int .u8 (0), .int .u8 (0), .int .u8 (0), .int .u8 (0), .int .u8 (0), .int .u8 (0), .int .u8 (0), .int .u8 (0), .int .u8 (0), .int .u8 (0), .int .u8 (0), .int .u8 (0), .int .u8 (0), .int .u8 (0), .int .u8 (0), .int .u8 (0), .int .u8 (0), .int .u8 (0), .int .u8 (0), .int .u8 (0), .int .u8 (0), .int .u8 (0), .int .u8 (0), .int .u8 (0), .int .u8 (0), .int .u8 (0), .int .u8 (0), .int .u8 (0), .int .u8 (0), .int .u8 (0), .int .u8 (0), .int .u8 (0), .int .u8 (0), .int .u8 (0), .int .u8 (0), .int .u8 (0), .int .u8 (0), .int .u8 (0), .int .u8 (0), .int .u8 (0), .int .u8 (0), .int .u8 (0), .int .u8 (0), .int .u8 (0), .int .u8 (0), .int .u8 (0), .int .u8 (0), .int .u8 (0), .int .u8 (0), .int .u8 (0), .int .u8 (0), .int .u8 (0), .int .u8 (0), .int .u8 (0), .int .u8 (0), .int .u8 (0), .int .u8 (0), .int .u8 (0), .int .u8 (0), .int .u8 (0), .int .u8 (0), .int .u8 (0), .int .u8 (0), .int .u8 (0), .int .u8 (0), .int .u8 (0), .int .u8 (0), .int .u8 (0), .int .u8 (0), .int .u8 (0), .int .u8 (0), .int .u8 (0), .int .u8 (0), .int .u8 (0), .int .u8 (0), .int .u8 (0), .int .u8 (0), .int .u8 (0), .int .u8 (0), .int .u8 (0), .int .u8 (0), .int .u8 (0), .int .u8 (0), .int .u8 (0), .int .u8 (0), .int .u8 (0), .int .u8 (0), .int .u8 (0), .int .u8 (0), .int .u8 (0), .int .u8 (0), .int .u8 (0), .int .u8 (0), .int .u8 (0), .int .u8 (0), .int .u8 (0), .int .u8 (0), .int .u8 (0), .int .u8 (0), .int .u8 (0), .int .u8 (0), .int .u8 (0), .int .u8 (0), .int .u8 (0), .int .u8 (0), .int .u8 (0), .int .u8 (0), .int .u8 (0), .int .u8 (0), .int .u8 (0), .int .u8 (0), .int .u8 (0), .int .u8 (0), .int .u8 (0), .int .u8 (0), .int .u8 (0), .int .u8 (0), .int .u8 (0), .int .u8 (0), .int .u8 (0), .int .u8 (0), .int .u8 (0), .int .u8 (0), .int .u8 (0), .int .u8 (0), .int .u8 (0), .int .u8 (0), .int .u8 (0), .int .u8 (0), .int .u8 (0), .int .u8 (0), .int .u8 (0), .int .u8 (0), .int .u8 (0)] := by kernel_rfl
theorem tk_141 : tk Tryd.prog 141 = .fn := by kernel_rfl
theorem tsz_141 : tsz Tryd.prog 141 = 1 := by kernel_rfl
theorem tby_141 : tby Tryd.prog 141 = 8 := by kernel_rfl
theorem bld_141 : bldE Tryd.prog 141 = none := by kernel_rfl
theorem zc_141 : zc Tryd.prog 141 = some [.nilfn] := by kernel_rfl
theorem tk_143 : tk Tryd.prog 143 = .arr 6 3 := by kernel_rfl
theorem tsz_143 : tsz Tryd.prog 143 = 6 := by kernel_rfl
theorem tby_143 : tby Tryd.prog 143 = 48 := by kernel_rfl
theorem bld_143 : bldE Tryd.prog 143 = none := by kernel_rfl
theorem zc_143 : zc Tryd.prog 143 = some [.int .i64 (0), .int .i64 (0), .int .i64 (0), .int .i64 (0), .int .i64 (0), .int .i64 (0)] := by kernel_rfl
theorem tk_144 : tk Tryd.prog 144 = .other := by kernel_rfl
theorem tsz_144 : tsz Tryd.prog 144 = 1 := by kernel_rfl
theorem tby_144 : tby Tryd.prog 144 = 8 := by kernel_rfl
theorem bld_144 : bldE Tryd.prog 144 = none := by kernel_rfl
theorem zc_144 : zc Tryd.prog 144 = some [.nilptr] := by kernel_rfl
theorem tk_146 : tk Tryd.prog 146 = .sl 148 := by kernel_rfl
theorem tsz_146 : tsz Tryd.prog 146 = 1 := by kernel_rfl
theorem tby_146 : tby Tryd.prog 146 = 24 := by kernel_rfl
theorem bld_146 : bldE Tryd.prog 146 = none := by kernel_rfl
theorem zc_146 : zc Tryd.prog 146 = some [.nilsl] := by kernel_rfl
theorem tk_148 : tk Tryd.prog 148 = .st := by kernel_rfl
theorem tsz_148 : tsz Tryd.prog 148 = 2 := by kernel_rfl
theorem tby_148 : tby Tryd.prog 148 = 16 := by kernel_rfl
theorem bld_148 : bldE Tryd.prog 148 = none := by kernel_rfl
theorem zc_148 : zc Tryd.prog 148 = some [.int .i64 (0), .int .i64 (0)] := by kernel_rfl
theorem plS_148 : plS Tryd.prog 148 = some [(0, 1), (1, 1)] := by kernel_rfl
theorem fld_148_0 : fld Tryd.prog 148 0 = some (0, 3) := by kernel_rfl
theorem fld_148_1 : fld Tryd.prog 148 1 = some (1, 3) := by kernel_rfl
theorem tk_150 : tk Tryd.prog 150 = .ptr 160 := by kernel_rfl
theorem tsz_150 : tsz Tryd.prog 150 = 1 := by kernel_rfl
theorem tby_150 : tby Tryd.prog 150 = 8 := by kernel_rfl
theorem bld_150 : bldE Tryd.prog 150 = none := by kernel_rfl
theorem zc_150 : zc Tryd.prog 150 = some [.nilptr] := by kernel_rfl
theorem tk_153 : tk Tryd.prog 153 = .arr 256 4 := by kernel_rfl
theorem tsz_153 : tsz Tryd.prog 153 = 256 := by kernel_rfl
theorem tby_153 : tby Tryd.prog 153 = 256 := by kernel_rfl
theorem bld_153 : bldE Tryd.prog 153 = none := by kernel_rfl
theorem zc_153 : zc Tryd.prog 153 = some [.bool false, .bool false, .bool false, .bool false, .bool false, .bool false, .bool false, .bool false, .bool false, .bool false, .bool false, .bool false, .bool false, .bool false, .bool false, .bool false, .bool false, .bool false, .bool false, .bool false, .bool false, .bool false, .bool false, .bool false, .bool false, .bool false, .bool false, .bool false, .bool false, .bool false, .bool false, .bool false, .bool false, .bool false, .bool false, .bool false, .bool false, .bool false, .bool false, .bool false, .bool false, .bool false, .bool false, .bool false, .bool false, .bool false, .bool false, .bool false, .bool false, .bool false, .bool false, .bool false, .bool false, .bool false, .bool false, .bool false, .bool false, .bool false, .bool false, .bool false, .bool false, .bool false, .bool false, .bool false, .bool false, .bool false, .bool false, .bool false, .bool false, .bool false, .bool false, .bool false, .bool false, .bool false, .bool false, .bool false, .bool false, .bool false, .bool false, .bool false, .bool false, .bool false, .bool false, .bool false, .bool false, .bool false, .bool false, .bool false, .bool false, .bool false, .bool false, .bool false, .bool false, .bool false, .bool false, .bool false, .bool false, .bool false, .bool false, .bool false, .bool false, .bool false, .bool false, .bool false, .bool false, .bool false, .bool false, .bool false, .bool false, .bool false, .bool false, .bool false, .bool false, .bool false, .bool false, .bool false, .bool false, .bool false, .bool false, .bool false, .bool false, .bool false, .bool false, .bool false, .bool false, .bool false, .bool false, .bool false, .bool false, .bool false, .bool false, .bool false, .bool false, .bool false, .bool false, .bool false, .bool false, .bool false, .bool false, .bool false, .bool false, .bool false, .bool false, .bool false, .bool false, .bool false, .bool false, .bool false, .bool false, .bool false, .bool false, .bool false, .bool false, .bool false, .bool false, .bool false, .bool false, .bool false, .bool false, .bool false, .bool false, .bool false, .bool false, .bool false, .bool false, .bool false, .bool false, .bool false, .bool false, .bool false, .bool false, .bool false, .bool false, .bool false, .bool false, .bool false, .bool false, .bool false, .bool false, .bool false, .bool false, .bool false, .bool false, .bool false, .bool false, .bool false, .bool false, .bool false, .bool false, .bool false, .bool false, .bool false, .bool false, .bool false, .bool false, .bool false, .bool false, .bool false, .bool false, .bool false, .bool false, .bool false, .bool false, .bool false, .bool false, .bool false, .bool false, .bool false, .bool false, .bool false, .bool false, .bool false, .bool false, .bool false, .bool false, .bool false, .bool false, .bool false, .bool false, .bool false, .bool false, .bool false, .bool false, .bool false, .bool false, .bool false, .bool false, .bool false, .bool false, .bool false, .bool false, .bool false, .bool false, .bool false, .bool false, .bool false, .bool false, .bool false, .bool false, .bool false, .bool false, .bool false, .bool false, .bool false, .bool false, .bool false, .bool false, .bool false, .bool false, .bool false, .bool false, .bool false, .bool false, .bool false, .bool false, .bool false] := by kernel_rfl
theorem tk_157 : tk Tryd.prog 157 = .sl 162 := by kernel_rfl
theorem tsz_157 : tsz Tryd.prog 157 = 1 := by kernel_rfl
theorem tby_157 : tby Tryd.prog 157 = 24 := by kernel_rfl
theorem bld_157 : bldE Tryd.prog 157 = none := by kernel_rfl
theorem zc_157 : zc Tryd.prog 157 = some [.nilsl] := by kernel_rfl
theorem tk_158 : tk Tryd.prog 158 = .sl 165 := by kernel_rfl
theorem tsz_158 : tsz Tryd.prog 158 = 1 := by kernel_rfl
theorem tby_158 : tby Tryd.prog 158 = 24 := by kernel_rfl
theorem bld_158 : bldE Tryd.prog 158 = none := by kernel_rfl
theorem zc_158 : zc Tryd.prog 158 = some [.nilsl] := by kernel_rfl
theorem tk_160 : tk Tryd.prog 160 = .st := by kernel_rfl
theorem tsz_160 : tsz Tryd.prog 160 = 3 := by kernel_rfl
theorem tby_160 : tby Tryd.prog 160 = 56 := by kernel_rfl
theorem bld_160 : bldE Tryd.prog 160 = none := by kernel_rfl
theorem zc_160 : zc Tryd.prog 160 = some [.nilsl, .nilsl, .int .i64 (0)] := by kernel_rfl
theorem plS_160 : plS Tryd.prog 160 = some [(0, 1), (1, 1), (2, 1)] := by kernel_rfl
theorem fld_160_0 : fld Tryd.prog 160 0 = some (0, 157) := by kernel_rfl
theorem fld_160_1 : fld Tryd.prog 160 1 = some (1, 158) := by kernel_rfl
theorem fld_160_2 : fld Tryd.prog 160 2 = some (2, 3) := by kernel_rfl
theorem tk_162 : tk Tryd.prog 162 = .st := by kernel_rfl
theorem tsz_162 : tsz Tryd.prog 162 = 3 := by kernel_rfl
theorem tby_162 : tby Tryd.prog 162 = 6 := by kernel_rfl
theorem bld_162 : bldE Tryd.prog 162 = none := by kernel_rfl
theorem zc_162 : zc Tryd.prog 162 = some [.int .u16 (0), .int .u16 (0), .int .u16 (0)] := by kernel_rfl
theorem plS_162 : plS Tryd.prog 162 = some [(0, 1), (1, 1), (2, 1)] := by kernel_rfl
theorem fld_162_0 : fld Tryd.prog 162 0 = some (0, 43) := by kernel_rfl
theorem fld_162_1 : fld Tryd.prog 162 1 = some (1, 43) := by kernel_rfl
theorem fld_162_2 : fld Tryd.prog 162 2 = some (2, 43) := by kernel_rfl
theorem tk_165 : tk Tryd.prog 165 = .st := by kernel_rfl
theorem tsz_165 : tsz Tryd.prog 165 = 3 := by kernel_rfl
theorem tby_165 : tby Tryd.prog 165 = 12 := by kernel_rfl
theorem bld_165 : bldE Tryd.prog 165 = none := by kernel_rfl
theorem zc_165 : zc Tryd.prog 165 = some [.int .u32 (0), .int .u32 (0), .int .u32 (0)] := by kernel_rfl
theorem plS_165 : plS Tryd.prog 165 = some [(0, 1), (1, 1), (2, 1)] := by kernel_rfl
theorem fld_165_0 : fld Tryd.prog 165 0 = some (0, 45) := by kernel_rfl
theorem fld_165_1 : fld Tryd.prog 165 1 = some (1, 45) := by kernel_rfl
theorem fld_165_2 : fld Tryd.prog 165 2 = some (2, 45) := by kernel_rfl
theorem tk_168 : tk Tryd.prog 168 = .int .u64 := by kernel_rfl
theorem tsz_168 : tsz Tryd.prog 168 = 1 := by kernel_rfl
theorem tby_168 : tby Tryd.prog 168 = 8 := by kernel_rfl
theorem bld_168 : bldE Tryd.prog 168 = none := by kernel_rfl
theorem zc_168 : zc Tryd.prog 168 = some [.int .u64 (0)] := by kernel_rfl
attribute [push_cast] tk_1 tsz_1 tby_1 bld_1 zc_1 tk_2 tsz_2 tby_2 bld_2 zc_2 tk_3 tsz_3 tby_3 bld_3 zc_3 tk_4 tsz_4 tby_4 bld_4 zc_4 tk_5 tsz_5 tby_5 bld_5 zc_5 tk_9 tsz_9 tby_9 bld_9 zc_9 tk_21 tsz_21 tby_21 bld_21 zc_21 tk_23 tsz_23 tby_23 bld_23 zc_23 tk_25 tsz_25 tby_25 bld_25 zc_25 plS_25 fld_25_0 fld_25_1 fld_25_2 fld_25_3 fld_25_4 fld_25_5 tk_26 tsz_26 tby_26 bld_26 zc_26 tk_41 tsz_41 tby_41 bld_41 zc_41 tk_43 tsz_43 tby_43 bld_43 zc_43 tk_45 tsz_45 tby_45 bld_45 zc_45 tk_53 tsz_53 tby_53 bld_53 zc_53 tk_55 tsz_55 tby_55 bld_55 zc_55 plS_55 fld_55_0 fld_55_1 fld_55_2 tk_61 tsz_61 tby_61 bld_61 zc_61 plS_61 fld_61_0 fld_61_1 fld_61_2 tk_64 tsz_64 tby_64 bld_64 zc_64 plS_64 fld_64_0 fld_64_1 fld_64_2 tk_67 tsz_67 tby_67 bld_67 zc_67 plS_67 fld_67_0 fld_67_1 fld_67_2 tk_74 tsz_74 tby_74 bld_74 zc_74 tk_77 tsz_77 tby_77 bld_77 zc_77 plS_77 fld_77_0 fld_77_1 fld_77_2 tk_82 tsz_82 tby_82 bld_82 zc_82 plS_82 fld_82_0 fld_82_1 fld_82_2 tk_89 tsz_89 tby_89 bld_89 zc_89 tk_91 tsz_91 tby_91 bld_91 zc_91 tk_92 tsz_92 tby_92 bld_92 zc_92 tk_93 tsz_93 tby_93 bld_93 zc_93 plS_93 fld_93_0 fld_93_1 fld_93_2 tk_97 tsz_97 tby_97 bld_97 zc_97 tk_99 tsz_99 tby_99 bld_99 zc_99 plS_99 fld_99_0 fld_99_1 fld_99_2 tk_108 tsz_108 tby_108 bld_108 zc_108 plS_108 fld_108_0 fld_108_1 fld_108_2 tk_111 tsz_111 tby_111 bld_111 zc_111 tk_112 tsz_112 tby_112 bld_112 zc_112 tk_114 tsz_114 tby_114 bld_114 zc_114 tk_119 tsz_119 tby_119 bld_119 zc_119 tk_121 tsz_121 tby_121 bld_121 zc_121 plS_121 fld_121_0 fld_121_1 tk_131 tsz_131 tby_131 bld_131 zc_131 tk_133 tsz_133 tby_133 bld_133 zc_133 tk_137 tsz_137 tby_137 bld_137 zc_137 tk_138 tsz_138 tby_138 bld_138 zc_138 tk_139 tsz_139 tby_139 bld_139 zc_139 tk_141 tsz_141 tby_141 bld_141 zc_141 tk_143 tsz_143 tby_143 bld_143 zc_143 tk_144 tsz_144 tby_144 bld_144 zc_144 tk_146 tsz_146 tby_146 bld_146 zc_146 tk_148 tsz_148 tby_148 bld_148 zc_148 plS_148 fld_148_0 fld_148_1 tk_150 tsz_150 tby_150 bld_150 zc_150 tk_153 tsz_153 tby_153 bld_153 zc_153 tk_157 tsz_157 tby_157 bld_157 zc_157 tk_158 tsz_158 tby_158 bld_158 zc_158 tk_160 tsz_160 tby_160 bld_160 zc_160 plS_160 fld_160_0 fld_160_1 fld_160_2 tk_162 tsz_162 tby_162 bld_162 zc_162 plS_162 fld_162_0 fld_162_1 fld_162_2 tk_165 tsz_165 tby_165 bld_165 zc_165 plS_165 fld_165_0 fld_165_1 fld_165_2 tk_168 tsz_168 tby_168 bld_168 zc_168
end Go.Proofs.Sh
