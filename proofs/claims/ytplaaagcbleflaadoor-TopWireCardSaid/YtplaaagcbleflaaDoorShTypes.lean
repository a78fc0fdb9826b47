/- The types of this program, as the operations ask for them. -/
import Derived.Test.YtplaaagcbleflaaDoorShShelf
import Derived.Test.YtplaaagcbleflaaDoorPvY
set_option maxRecDepth 100000
namespace Go.Proofs.Sh
open Go.Pv
theorem tk_1 : tk Tryd.prog 1 = .fn := by kernel_rfl
theorem tsz_1 : tsz Tryd.prog 1 = 1 := by kernel_rfl
theorem tby_1 : tby Tryd.prog 1 = 8 := by kernel_rfl
theorem bld_1 : bldE Tryd.prog 1 = none := by kernel_rfl
theorem zc_1 : zc Tryd.prog 1 = some [.nilfn] := by kernel_rfl
theorem tk_2 : tk Tryd.prog 2 = .int .i64 := by kernel_rfl
theorem tsz_2 : tsz Tryd.prog 2 = 1 := by kernel_rfl
theorem tby_2 : tby Tryd.prog 2 = 8 := by kernel_rfl
theorem bld_2 : bldE Tryd.prog 2 = none := by kernel_rfl
theorem zc_2 : zc Tryd.prog 2 = some [.int .i64 (0)] := by kernel_rfl
theorem tk_3 : tk Tryd.prog 3 = .int .i64 := by kernel_rfl
theorem tsz_3 : tsz Tryd.prog 3 = 1 := by kernel_rfl
theorem tby_3 : tby Tryd.prog 3 = 8 := by kernel_rfl
theorem bld_3 : bldE Tryd.prog 3 = none := by kernel_rfl
theorem zc_3 : zc Tryd.prog 3 = some [.int .i64 (0)] := by kernel_rfl
theorem zvO_3 : zvO Tryd.prog 3 = some (.int .i64 (0)) := by kernel_rfl
theorem tk_4 : tk Tryd.prog 4 = .bool := by kernel_rfl
theorem tsz_4 : tsz Tryd.prog 4 = 1 := by kernel_rfl
theorem tby_4 : tby Tryd.prog 4 = 1 := by kernel_rfl
theorem bld_4 : bldE Tryd.prog 4 = none := by kernel_rfl
theorem zc_4 : zc Tryd.prog 4 = some [.bool false] := by kernel_rfl
theorem tk_5 : tk Tryd.prog 5 = .int .u8 := by kernel_rfl
theorem tsz_5 : tsz Tryd.prog 5 = 1 := by kernel_rfl
theorem tby_5 : tby Tryd.prog 5 = 1 := by kernel_rfl
theorem bld_5 : bldE Tryd.prog 5 = none := by kernel_rfl
theorem zc_5 : zc Tryd.prog 5 = some [.int .u8 (0)] := by kernel_rfl
theorem tk_9 : tk Tryd.prog 9 = .str := by kernel_rfl
theorem tsz_9 : tsz Tryd.prog 9 = 1 := by kernel_rfl
theorem tby_9 : tby Tryd.prog 9 = 16 := by kernel_rfl
theorem bld_9 : bldE Tryd.prog 9 = none := by kernel_rfl
theorem zc_9 : zc Tryd.prog 9 = some [.str []] := by kernel_rfl
theorem tk_20 : tk Tryd.prog 20 = .ifc := by kernel_rfl
theorem tsz_20 : tsz Tryd.prog 20 = 1 := by kernel_rfl
theorem tby_20 : tby Tryd.prog 20 = 16 := by kernel_rfl
theorem bld_20 : bldE Tryd.prog 20 = none := by kernel_rfl
theorem zc_20 : zc Tryd.prog 20 = some [.nilif] := by kernel_rfl
theorem tk_21 : tk Tryd.prog 21 = .int .i32 := by kernel_rfl
theorem tsz_21 : tsz Tryd.prog 21 = 1 := by kernel_rfl
theorem tby_21 : tby Tryd.prog 21 = 4 := by kernel_rfl
theorem bld_21 : bldE Tryd.prog 21 = none := by kernel_rfl
theorem zc_21 : zc Tryd.prog 21 = some [.int .i32 (0)] := by kernel_rfl
theorem tk_22 : tk Tryd.prog 22 = .int .u16 := by kernel_rfl
theorem tsz_22 : tsz Tryd.prog 22 = 1 := by kernel_rfl
theorem tby_22 : tby Tryd.prog 22 = 2 := by kernel_rfl
theorem bld_22 : bldE Tryd.prog 22 = none := by kernel_rfl
theorem zc_22 : zc Tryd.prog 22 = some [.int .u16 (0)] := by kernel_rfl
theorem tk_25 : tk Tryd.prog 25 = .st := by kernel_rfl
theorem tsz_25 : tsz Tryd.prog 25 = 4 := by kernel_rfl
theorem tby_25 : tby Tryd.prog 25 = 32 := by kernel_rfl
theorem bld_25 : bldE Tryd.prog 25 = none := by kernel_rfl
theorem zc_25 : zc Tryd.prog 25 = some [.bool false, .bool false, .int .i64 (0), .str []] := by kernel_rfl
theorem plS_25 : plS Tryd.prog 25 = some [(0, 1), (1, 1), (2, 1), (3, 1)] := by kernel_rfl
theorem fld_25_0 : fld Tryd.prog 25 0 = some (0, 4) := by kernel_rfl
theorem fld_25_1 : fld Tryd.prog 25 1 = some (1, 4) := by kernel_rfl
theorem fld_25_2 : fld Tryd.prog 25 2 = some (2, 3) := by kernel_rfl
theorem fld_25_3 : fld Tryd.prog 25 3 = some (3, 9) := by kernel_rfl
theorem tk_26 : tk Tryd.prog 26 = .sl 56 := by kernel_rfl
theorem tsz_26 : tsz Tryd.prog 26 = 1 := by kernel_rfl
theorem tby_26 : tby Tryd.prog 26 = 24 := by kernel_rfl
theorem bld_26 : bldE Tryd.prog 26 = none := by kernel_rfl
theorem zc_26 : zc Tryd.prog 26 = some [.nilsl] := by kernel_rfl
theorem tk_32 : tk Tryd.prog 32 = .arr 4 5 := by kernel_rfl
theorem tsz_32 : tsz Tryd.prog 32 = 4 := by kernel_rfl
theorem tby_32 : tby Tryd.prog 32 = 4 := by kernel_rfl
theorem bld_32 : bldE Tryd.prog 32 = none := by kernel_rfl
theorem zc_32 : zc Tryd.prog 32 = some [.int .u8 (0), .int .u8 (0), .int .u8 (0), .int .u8 (0)] := by kernel_rfl
theorem tk_34 : tk Tryd.prog 34 = .sl 5 := by kernel_rfl
theorem tsz_34 : tsz Tryd.prog 34 = 1 := by kernel_rfl
theorem tby_34 : tby Tryd.prog 34 = 24 := by kernel_rfl
theorem bld_34 : bldE Tryd.prog 34 = none := by kernel_rfl
theorem zc_34 : zc Tryd.prog 34 = some [.nilsl] := by kernel_rfl
theorem tk_38 : tk Tryd.prog 38 = .sl 50 := by kernel_rfl
theorem tsz_38 : tsz Tryd.prog 38 = 1 := by kernel_rfl
theorem tby_38 : tby Tryd.prog 38 = 24 := by kernel_rfl
theorem bld_38 : bldE Tryd.prog 38 = none := by kernel_rfl
theorem zc_38 : zc Tryd.prog 38 = some [.nilsl] := by kernel_rfl
theorem tk_39 : tk Tryd.prog 39 = .sl 3 := by kernel_rfl
theorem tsz_39 : tsz Tryd.prog 39 = 1 := by kernel_rfl
theorem tby_39 : tby Tryd.prog 39 = 24 := by kernel_rfl
theorem bld_39 : bldE Tryd.prog 39 = none := by kernel_rfl
theorem zc_39 : zc Tryd.prog 39 = some [.nilsl] := by kernel_rfl
theorem tk_40 : tk Tryd.prog 40 = .map 3 3 := by kernel_rfl
theorem tsz_40 : tsz Tryd.prog 40 = 1 := by kernel_rfl
theorem tby_40 : tby Tryd.prog 40 = 8 := by kernel_rfl
theorem bld_40 : bldE Tryd.prog 40 = none := by kernel_rfl
theorem zc_40 : zc Tryd.prog 40 = some [.nilm] := by kernel_rfl
theorem tk_42 : tk Tryd.prog 42 = .st := by kernel_rfl
theorem tsz_42 : tsz Tryd.prog 42 = 10 := by kernel_rfl
theorem tby_42 : tby Tryd.prog 42 = 112 := by kernel_rfl
theorem bld_42 : bldE Tryd.prog 42 = none := by kernel_rfl
theorem zc_42 : zc Tryd.prog 42 = some [.int .i64 (0), .int .i64 (0), .bool false, .int .i64 (0), .int .i64 (0), .int .i64 (0), .str [], .str [], .nilsl, .nilm] := by kernel_rfl
theorem plS_42 : plS Tryd.prog 42 = some [(0, 1), (1, 1), (2, 1), (3, 1), (4, 1), (5, 1), (6, 1), (7, 1), (8, 1), (9, 1)] := by kernel_rfl
theorem fld_42_0 : fld Tryd.prog 42 0 = some (0, 3) := by kernel_rfl
theorem fld_42_1 : fld Tryd.prog 42 1 = some (1, 3) := by kernel_rfl
theorem fld_42_2 : fld Tryd.prog 42 2 = some (2, 4) := by kernel_rfl
theorem fld_42_3 : fld Tryd.prog 42 3 = some (3, 3) := by kernel_rfl
theorem fld_42_4 : fld Tryd.prog 42 4 = some (4, 3) := by kernel_rfl
theorem fld_42_5 : fld Tryd.prog 42 5 = some (5, 3) := by kernel_rfl
theorem fld_42_6 : fld Tryd.prog 42 6 = some (6, 9) := by kernel_rfl
theorem fld_42_7 : fld Tryd.prog 42 7 = some (7, 9) := by kernel_rfl
theorem fld_42_8 : fld Tryd.prog 42 8 = some (8, 39) := by kernel_rfl
theorem fld_42_9 : fld Tryd.prog 42 9 = some (9, 40) := by kernel_rfl
theorem tk_43 : tk Tryd.prog 43 = .int .i64 := by kernel_rfl
theorem tsz_43 : tsz Tryd.prog 43 = 1 := by kernel_rfl
theorem tby_43 : tby Tryd.prog 43 = 8 := by kernel_rfl
theorem bld_43 : bldE Tryd.prog 43 = none := by kernel_rfl
theorem zc_43 : zc Tryd.prog 43 = some [.int .i64 (0)] := by kernel_rfl
theorem tk_48 : tk Tryd.prog 48 = .sl 2 := by kernel_rfl
theorem tsz_48 : tsz Tryd.prog 48 = 1 := by kernel_rfl
theorem tby_48 : tby Tryd.prog 48 = 24 := by kernel_rfl
theorem bld_48 : bldE Tryd.prog 48 = none := by kernel_rfl
theorem zc_48 : zc Tryd.prog 48 = some [.nilsl] := by kernel_rfl
theorem tk_50 : tk Tryd.prog 50 = .st := by kernel_rfl
theorem tsz_50 : tsz Tryd.prog 50 = 4 := by kernel_rfl
theorem tby_50 : tby Tryd.prog 50 = 72 := by kernel_rfl
theorem bld_50 : bldE Tryd.prog 50 = none := by kernel_rfl
theorem zc_50 : zc Tryd.prog 50 = some [.int .i64 (0), .nilsl, .str [], .nilsl] := by kernel_rfl
theorem plS_50 : plS Tryd.prog 50 = some [(0, 1), (1, 1), (2, 1), (3, 1)] := by kernel_rfl
theorem fld_50_0 : fld Tryd.prog 50 0 = some (0, 3) := by kernel_rfl
theorem fld_50_1 : fld Tryd.prog 50 1 = some (1, 48) := by kernel_rfl
theorem fld_50_2 : fld Tryd.prog 50 2 = some (2, 9) := by kernel_rfl
theorem fld_50_3 : fld Tryd.prog 50 3 = some (3, 48) := by kernel_rfl
theorem tk_56 : tk Tryd.prog 56 = .st := by kernel_rfl
theorem tsz_56 : tsz Tryd.prog 56 = 6 := by kernel_rfl
theorem tby_56 : tby Tryd.prog 56 = 88 := by kernel_rfl
theorem bld_56 : bldE Tryd.prog 56 = none := by kernel_rfl
theorem zc_56 : zc Tryd.prog 56 = some [.int .i64 (0), .nilsl, .str [], .nilsl, .int .i64 (0), .int .i64 (0)] := by kernel_rfl
theorem plS_56 : plS Tryd.prog 56 = some [(0, 4), (4, 1), (5, 1)] := by kernel_rfl
theorem fld_56_0 : fld Tryd.prog 56 0 = some (0, 50) := by kernel_rfl
theorem fld_56_1 : fld Tryd.prog 56 1 = some (4, 3) := by kernel_rfl
theorem fld_56_2 : fld Tryd.prog 56 2 = some (5, 3) := by kernel_rfl
theorem tk_60 : tk Tryd.prog 60 = .st := by kernel_rfl
theorem tsz_60 : tsz Tryd.prog 60 = 6 := by kernel_rfl
theorem tby_60 : tby Tryd.prog 60 = 72 := by kernel_rfl
theorem bld_60 : bldE Tryd.prog 60 = none := by kernel_rfl
theorem zc_60 : zc Tryd.prog 60 = some [.int .i64 (0), .bool false, .bool false, .nilsl, .nilsl, .int .i64 (0)] := by kernel_rfl
theorem plS_60 : plS Tryd.prog 60 = some [(0, 1), (1, 1), (2, 1), (3, 1), (4, 1), (5, 1)] := by kernel_rfl
theorem fld_60_0 : fld Tryd.prog 60 0 = some (0, 3) := by kernel_rfl
theorem fld_60_1 : fld Tryd.prog 60 1 = some (1, 4) := by kernel_rfl
theorem fld_60_2 : fld Tryd.prog 60 2 = some (2, 4) := by kernel_rfl
theorem fld_60_3 : fld Tryd.prog 60 3 = some (3, 39) := by kernel_rfl
theorem fld_60_4 : fld Tryd.prog 60 4 = some (4, 39) := by kernel_rfl
theorem fld_60_5 : fld Tryd.prog 60 5 = some (5, 3) := by kernel_rfl
theorem tk_77 : tk Tryd.prog 77 = .int .u32 := by kernel_rfl
theorem tsz_77 : tsz Tryd.prog 77 = 1 := by kernel_rfl
theorem tby_77 : tby Tryd.prog 77 = 4 := by kernel_rfl
theorem bld_77 : bldE Tryd.prog 77 = none := by kernel_rfl
theorem zc_77 : zc Tryd.prog 77 = some [.int .u32 (0)] := by kernel_rfl
theorem tk_78 : tk Tryd.prog 78 = .int .u32 := by kernel_rfl
theorem tsz_78 : tsz Tryd.prog 78 = 1 := by kernel_rfl
theorem tby_78 : tby Tryd.prog 78 = 4 := by kernel_rfl
theorem bld_78 : bldE Tryd.prog 78 = none := by kernel_rfl
theorem zc_78 : zc Tryd.prog 78 = some [.int .u32 (0)] := by kernel_rfl
theorem tk_83 : tk Tryd.prog 83 = .st := by kernel_rfl
theorem tsz_83 : tsz Tryd.prog 83 = 3 := by kernel_rfl
theorem tby_83 : tby Tryd.prog 83 = 40 := by kernel_rfl
theorem bld_83 : bldE Tryd.prog 83 = none := by kernel_rfl
theorem zc_83 : zc Tryd.prog 83 = some [.nilsl, .bool false, .int .i64 (0)] := by kernel_rfl
theorem plS_83 : plS Tryd.prog 83 = some [(0, 1), (1, 1), (2, 1)] := by kernel_rfl
theorem fld_83_0 : fld Tryd.prog 83 0 = some (0, 39) := by kernel_rfl
theorem fld_83_1 : fld Tryd.prog 83 1 = some (1, 4) := by kernel_rfl
theorem fld_83_2 : fld Tryd.prog 83 2 = some (2, 3) := by kernel_rfl
theorem tk_94 : tk Tryd.prog 94 = .st := by kernel_rfl
theorem tsz_94 : tsz Tryd.prog 94 = 3 := by kernel_rfl
theorem tby_94 : tby Tryd.prog 94 = 64 := by kernel_rfl
theorem bld_94 : bldE Tryd.prog 94 = none := by kernel_rfl
theorem zc_94 : zc Tryd.prog 94 = some [.nilsl, .str [], .nilsl] := by kernel_rfl
theorem plS_94 : plS Tryd.prog 94 = some [(0, 1), (1, 1), (2, 1)] := by kernel_rfl
theorem fld_94_0 : fld Tryd.prog 94 0 = some (0, 48) := by kernel_rfl
theorem fld_94_1 : fld Tryd.prog 94 1 = some (1, 9) := by kernel_rfl
theorem fld_94_2 : fld Tryd.prog 94 2 = some (2, 48) := by kernel_rfl
theorem tk_104 : tk Tryd.prog 104 = .st := by kernel_rfl
theorem tsz_104 : tsz Tryd.prog 104 = 3 := by kernel_rfl
theorem tby_104 : tby Tryd.prog 104 = 48 := by kernel_rfl
theorem bld_104 : bldE Tryd.prog 104 = none := by kernel_rfl
theorem zc_104 : zc Tryd.prog 104 = some [.str [], .str [], .str []] := by kernel_rfl
theorem plS_104 : plS Tryd.prog 104 = some [(0, 1), (1, 1), (2, 1)] := by kernel_rfl
theorem fld_104_0 : fld Tryd.prog 104 0 = some (0, 9) := by kernel_rfl
theorem fld_104_1 : fld Tryd.prog 104 1 = some (1, 9) := by kernel_rfl
theorem fld_104_2 : fld Tryd.prog 104 2 = some (2, 9) := by kernel_rfl
theorem tk_109 : tk Tryd.prog 109 = .fn := by kernel_rfl
theorem tsz_109 : tsz Tryd.prog 109 = 1 := by kernel_rfl
theorem tby_109 : tby Tryd.prog 109 = 8 := by kernel_rfl
theorem bld_109 : bldE Tryd.prog 109 = none := by kernel_rfl
theorem zc_109 : zc Tryd.prog 109 = some [.nilfn] := by kernel_rfl
theorem tk_114 : tk Tryd.prog 114 = .ptr 116 := by kernel_rfl
theorem tsz_114 : tsz Tryd.prog 114 = 1 := by kernel_rfl
theorem tby_114 : tby Tryd.prog 114 = 8 := by kernel_rfl
theorem bld_114 : bldE Tryd.prog 114 = none := by kernel_rfl
theorem zc_114 : zc Tryd.prog 114 = some [.nilptr] := by kernel_rfl
theorem tk_116 : tk Tryd.prog 116 = .st := by kernel_rfl
theorem tsz_116 : tsz Tryd.prog 116 = 2 := by kernel_rfl
theorem tby_116 : tby Tryd.prog 116 = 32 := by kernel_rfl
theorem bld_116 : bldE Tryd.prog 116 = some 5 := by kernel_rfl
theorem zc_116 : zc Tryd.prog 116 = some [.nilptr, .nilsl] := by kernel_rfl
theorem plS_116 : plS Tryd.prog 116 = some [(0, 1), (1, 1)] := by kernel_rfl
theorem fld_116_0 : fld Tryd.prog 116 0 = some (0, 114) := by kernel_rfl
theorem fld_116_1 : fld Tryd.prog 116 1 = some (1, 34) := by kernel_rfl
theorem tk_125 : tk Tryd.prog 125 = .st := by kernel_rfl
theorem tsz_125 : tsz Tryd.prog 125 = 3 := by kernel_rfl
theorem tby_125 : tby Tryd.prog 125 = 24 := by kernel_rfl
theorem bld_125 : bldE Tryd.prog 125 = none := by kernel_rfl
theorem zc_125 : zc Tryd.prog 125 = some [.int .i64 (0), .int .i64 (0), .int .i64 (0)] := by kernel_rfl
theorem plS_125 : plS Tryd.prog 125 = some [(0, 1), (1, 1), (2, 1)] := by kernel_rfl
theorem fld_125_0 : fld Tryd.prog 125 0 = some (0, 3) := by kernel_rfl
theorem fld_125_1 : fld Tryd.prog 125 1 = some (1, 2) := by kernel_rfl
theorem fld_125_2 : fld Tryd.prog 125 2 = some (2, 2) := by kernel_rfl
theorem tk_130 : tk Tryd.prog 130 = .sl 9 := by kernel_rfl
theorem tsz_130 : tsz Tryd.prog 130 = 1 := by kernel_rfl
theorem tby_130 : tby Tryd.prog 130 = 24 := by kernel_rfl
theorem bld_130 : bldE Tryd.prog 130 = none := by kernel_rfl
theorem zc_130 : zc Tryd.prog 130 = some [.nilsl] := by kernel_rfl
theorem tk_134 : tk Tryd.prog 134 = .arr 30 104 := by kernel_rfl
theorem tsz_134 : tsz Tryd.prog 134 = 90 := by kernel_rfl
theorem tby_134 : tby Tryd.prog 134 = 1440 := by kernel_rfl
theorem bld_134 : bldE Tryd.prog 134 = none := by kernel_rfl
theorem zc_134 : zc Tryd.prog 134 = some [.str [], .str [], .str [], .str [], .str [], .str [], .str [], .str [], .str [], .str [], .str [], .str [], .str [], .str [], .str [], .str [], .str [], .str [], .str [], .str [], .str [], .str [], .str [], .str [], .str [], .str [], .str [], .str [], .str [], .str [], .str [], .str [], .str [], .str [], .str [], .str [], .str [], .str [], .str [], .str [], .str [], .str [], .str [], .str [], .str [], .str [], .str [], .str [], .str [], .str [], .str [], .str [], .str [], .str [], .str [], .str [], .str [], .str [], .str [], .str [], .str [], .str [], .str [], .str [], .str [], .str [], .str [], .str [], .str [], .str [], .str [], .str [], .str [], .str [], .str [], .str [], .str [], .str [], .str [], .str [], .str [], .str [], .str [], .str [], .str [], .str [], .str [], .str [], .str [], .str []] := by kernel_rfl
theorem tk_136 : tk Tryd.prog 136 = .arr 59 104 := by kernel_rfl
theorem tsz_136 : tsz Tryd.prog 136 = 177 := by kernel_rfl
theorem tby_136 : tby Tryd.prog 136 = 2832 := by kernel_rfl
theorem bld_136 : bldE Tryd.prog 136 = none := by kernel_rfl
theorem zc_136 : zc Tryd.prog 136 = some [.str [], .str [], .str [], .str [], .str [], .str [], .str [], .str [], .str [], .str [], .str [], .str [], .str [], .str [], .str [], .str [], .str [], .str [], .str [], .str [], .str [], .str [], .str [], .str [], .str [], .str [], .str [], .str [], .str [], .str [], .str [], .str [], .str [], .str [], .str [], .str [], .str [], .str [], .str [], .str [], .str [], .str [], .str [], .str [], .str [], .str [], .str [], .str [], .str [], .str [], .str [], .str [], .str [], .str [], .str [], .str [], .str [], .str [], .str [], .str [], .str [], .str [], .str [], .str [], .str [], .str [], .str [], .str [], .str [], .str [], .str [], .str [], .str [], .str [], .str [], .str [], .str [], .str [], .str [], .str [], .str [], .str [], .str [], .str [], .str [], .str [], .str [], .str [], .str [], .str [], .str [], .str [], .str [], .str [], .str [], .str [], .str [], .str [], .str [], .str [], .str [], .str [], .str [], .str [], .str [], .str [], .str [], .str [], .str [], .str [], .str [], .str [], .str [], .str [], .str [], .str [], .str [], .str [], .str [], .str [], .str [], .str [], .str [], .str [], .str [], .str [], .str [], .str [], .str [], .str [], .str [], .str [], .str [], .str [], .str [], .str [], .str [], .str [], .str [], .str [], .str [], .str [], .str [], .str [], .str [], .str [], .str [], .str [], .str [], .str [], .str [], .str [], .str [], .str [], .str [], .str [], .str [], .str [], .str [], .str [], .str [], .str [], .str [], .str [], .str [], .str [], .str [], .str [], .str [], .str [], .str [], .str [], .str [], .str [], .str [], .str [], .str []] := by kernel_rfl
theorem tk_142 : tk Tryd.prog 142 = .ptr 3 := by kernel_rfl
theorem tsz_142 : tsz Tryd.prog 142 = 1 := by kernel_rfl
theorem tby_142 : tby Tryd.prog 142 = 8 := by kernel_rfl
theorem bld_142 : bldE Tryd.prog 142 = none := by kernel_rfl
theorem zc_142 : zc Tryd.prog 142 = some [.nilptr] := by kernel_rfl
theorem tk_143 : tk Tryd.prog 143 = .ptr 43 := by kernel_rfl
theorem tsz_143 : tsz Tryd.prog 143 = 1 := by kernel_rfl
theorem tby_143 : tby Tryd.prog 143 = 8 := by kernel_rfl
theorem bld_143 : bldE Tryd.prog 143 = none := by kernel_rfl
theorem zc_143 : zc Tryd.prog 143 = some [.nilptr] := by kernel_rfl
theorem tk_145 : tk Tryd.prog 145 = .ptr 5 := by kernel_rfl
theorem tsz_145 : tsz Tryd.prog 145 = 1 := by kernel_rfl
theorem tby_145 : tby Tryd.prog 145 = 8 := by kernel_rfl
theorem bld_145 : bldE Tryd.prog 145 = none := by kernel_rfl
theorem zc_145 : zc Tryd.prog 145 = some [.nilptr] := by kernel_rfl
theorem tk_146 : tk Tryd.prog 146 = .arr 6 125 := by kernel_rfl
theorem tsz_146 : tsz Tryd.prog 146 = 18 := by kernel_rfl
theorem tby_146 : tby Tryd.prog 146 = 144 := by kernel_rfl
theorem bld_146 : bldE Tryd.prog 146 = none := by kernel_rfl
theorem zc_146 : zc Tryd.prog 146 = some [.int .i64 (0), .int .i64 (0), .int .i64 (0), .int .i64 (0), .int .i64 (0), .int .i64 (0), .int .i64 (0), .int .i64 (0), .int .i64 (0), .int .i64 (0), .int .i64 (0), .int .i64 (0), .int .i64 (0), .int .i64 (0), .int .i64 (0), .int .i64 (0), .int .i64 (0), .int .i64 (0)] := by kernel_rfl
theorem tk_147 : tk Tryd.prog 147 = .int .u64 := by kernel_rfl
theorem tsz_147 : tsz Tryd.prog 147 = 1 := by kernel_rfl
theorem tby_147 : tby Tryd.prog 147 = 8 := by kernel_rfl
theorem bld_147 : bldE Tryd.prog 147 = none := by kernel_rfl
theorem zc_147 : zc Tryd.prog 147 = some [.int .u64 (0)] := by kernel_rfl
theorem tk_149 : tk Tryd.prog 149 = .arr 256 5 := by kernel_rfl
theorem tsz_149 : tsz Tryd.prog 149 = 256 := by kernel_rfl
theorem tby_149 : tby Tryd.prog 149 = 256 := by kernel_rfl
theorem bld_149 : bldE Tryd.prog 149 = none := by kernel_rfl
theorem zc_149 : zc Tryd.prog 149 = some [.int .u8 (0), .int .u8 (0), .int .u8 (0), .int .u8 (0), .int .u8 (0), .int .u8 (0), .int .u8 (0), .int .u8 (0), .int .u8 (0), .int .u8 (0), .int .u8 (0), .int .u8 (0), .int .u8 (0), .int .u8 (0), .int .u8 (0), .int .u8 (0), .int .u8 (0), .int .u8 (0), .int .u8 (0), .int .u8 (0), .int .u8 (0), .int .u8 (0), .int .u8 (0), .int .u8 (0), .int .u8 (0), .int .u8 (0), .int .u8 (0), .int .u8 (0), .int .u8 (0), .int .u8 (0), .int .u8 (0), .int .u8 (0), .int .u8 (0), .int .u8 (0), .int .u8 (0), .int .u8 (0), .int .u8 (0), .int .u8 (0), .int .u8 (0), .int .u8 (0), .int .u8 (0), .int .u8 (0), .int .u8 (0), .int .u8 (0), .int .u8 (0), .int .u8 (0), .int .u8 (0), .int .u8 (0), .int .u8 (0), .int .u8 (0), .int .u8 (0), .int .u8 (0), .int .u8 (0), .int .u8 (0), .int .u8 (0), .int .u8 (0), .int .u8 (0), .int .u8 (0), .int .u8 (0), .int .u8 (0), .int .u8 (0), .int .u8 (0), .int .u8 (0), .int .u8 (0), .int .u8 (0), .int .u8 (0), .int .u8 (0), .int .u8 (0), .int .u8 (0), .int .u8 (0), .int .u8 (0), .int .u8 (0), .int .u8 (0), .int .u8 (0), .int .u8 (0), .int .u8 (0), .int .u8 (0), .int .u8 (0), .int .u8 (0), .int .u8 (0), .int .u8 (0), .int .u8 (0), .int .u8 (0), .int .u8 (0), .int .u8 (0), .int .u8 (0), .int .u8 (0), .int .u8 (0), .int .u8 (0), .int .u8 (0), .int .u8 (0), .int .u8 (0), .int .u8 (0), .int .u8 (0), .int .u8 (0), .int .u8 (0), .int .u8 (0), .int .u8 (0), .int .u8 (0), .int .u8 (0), .int .u8 (0), .int .u8 (0), .int .u8 (0), .int .u8 (0), .int .u8 (0), .int .u8 (0), .int .u8 (0), .int .u8 (0), .int .u8 (0), .int .u8 (0), .int .u8 (0), .int .u8 (0), .int .u8 (0), .int .u8 (0), .int .u8 (0), .int .u8 (0), .int .u8 (0), .int .u8 (0), .int .u8 (0), .int .u8 (0), .int .u8 (0), .int .u8 (0), .int .u8 (0), .int .u8 (0), .int .u8 (0), .int .u8 (0), .int .u8 (0), .int .u8 (0), .int .u8 (0), .int .u8 (0), .int .u8 (0), .int .u8 (0), .int .u8 (0), .int .u8 (0), .int .u8 (0), .int .u8 (0), .int .u8 (0), .int .u8 (0), .int .u8 (0), .int .u8 (0), .int .u8 (0), .int .u8 (0), .int .u8 (0), .int .u8 (0), .int .u8 (0), .int .u8 (0), .int .u8 (0), .int .u8 (0), .int .u8 (0), .int .u8 (0), .int .u8 (0), .int .u8 (0), .int .u8 (0), .int .u8 (0), .int .u8 (0), .int .u8 (0), .int .u8 (0), .int .u8 (0), .int .u8 (0), .int .u8 (0), .int .u8 (0), .int .u8 (0), .int .u8 (0), .int .u8 (0), .int .u8 (0), .int .u8 (0), .int .u8 (0), .int .u8 (0), .int .u8 (0), .int .u8 (0), .int .u8 (0), .int .u8 (0), .int .u8 (0), .int .u8 (0), .int .u8 (0), .int .u8 (0), .int .u8 (0), .int .u8 (0), .int .u8 (0), .int .u8 (0), .int .u8 (0), .int .u8 (0), .int .u8 (0), .int .u8 (0), .int .u8 (0), .int .u8 (0), .int .u8 (0), .int .u8 (0), .int .u8 (0), .int .u8 (0), .int .u8 (0), .int .u8 (0), .int .u8 (0), .int .u8 (0), .int .u8 (0), .int .u8 (0), .int .u8 (0), .int .u8 (0), .int .u8 (0), .int .u8 (0), .int .u8 (0), .int .u8 (0), .int .u8 (0), .int .u8 (0), .int .u8 (0), .int .u8 (0), .int .u8 (0), .int .u8 (0), .int .u8 (0), .int .u8 (0), .int .u8 (0), .int .u8 (0), .int .u8 (0), .int .u8 (0), .int .u8 (0), .int .u8 (0), .int .u8 (0), .int .u8 (0), .int .u8 (0), .int .u8 (0), .int .u8 (0), .int .u8 (0), .int .u8 (0), .int .u8 (0), .int .u8 (0), .int .u8 (0), .int .u8 (0), .int .u8 (0), .int .u8 (0), .int .u8 (0), .int .u8 (0), .int .u8 (0), .int .u8 (0), .int .u8 (0), .int .u8 (0), .int .u8 (0), .int .u8 (0), .int .u8 (0), .int .u8 (0), .int .u8 (0), .int .u8 (0), .int .u8 (0), .int .u8 (0), .int .u8 (0), .int .u8 (0), .int .u8 (0), .int .u8 (0), .int .u8 (0), .int .u8 (0), .int .u8 (0), .int .u8 (0), .int .u8 (0), .int .u8 (0), .int .u8 (0), .int .u8 (0), .int .u8 (0)] := by kernel_rfl
theorem tk_151 : tk Tryd.prog 151 = .fn := by kernel_rfl
theorem tsz_151 : tsz Tryd.prog 151 = 1 := by kernel_rfl
theorem tby_151 : tby Tryd.prog 151 = 8 := by kernel_rfl
theorem bld_151 : bldE Tryd.prog 151 = none := by kernel_rfl
theorem zc_151 : zc Tryd.prog 151 = some [.nilfn] := by kernel_rfl
theorem tk_153 : tk Tryd.prog 153 = .other := by kernel_rfl
theorem tsz_153 : tsz Tryd.prog 153 = 1 := by kernel_rfl
theorem tby_153 : tby Tryd.prog 153 = 8 := by kernel_rfl
theorem bld_153 : bldE Tryd.prog 153 = none := by kernel_rfl
theorem zc_153 : zc Tryd.prog 153 = some [.nilptr] := by kernel_rfl
theorem tk_155 : tk Tryd.prog 155 = .sl 157 := by kernel_rfl
theorem tsz_155 : tsz Tryd.prog 155 = 1 := by kernel_rfl
theorem tby_155 : tby Tryd.prog 155 = 24 := by kernel_rfl
theorem bld_155 : bldE Tryd.prog 155 = none := by kernel_rfl
theorem zc_155 : zc Tryd.prog 155 = some [.nilsl] := by kernel_rfl
theorem tk_157 : tk Tryd.prog 157 = .st := by kernel_rfl
theorem tsz_157 : tsz Tryd.prog 157 = 2 := by kernel_rfl
theorem tby_157 : tby Tryd.prog 157 = 16 := by kernel_rfl
theorem bld_157 : bldE Tryd.prog 157 = none := by kernel_rfl
theorem zc_157 : zc Tryd.prog 157 = some [.int .i64 (0), .int .i64 (0)] := by kernel_rfl
theorem plS_157 : plS Tryd.prog 157 = some [(0, 1), (1, 1)] := by kernel_rfl
theorem fld_157_0 : fld Tryd.prog 157 0 = some (0, 3) := by kernel_rfl
theorem fld_157_1 : fld Tryd.prog 157 1 = some (1, 3) := by kernel_rfl
theorem tk_159 : tk Tryd.prog 159 = .ptr 170 := by kernel_rfl
theorem tsz_159 : tsz Tryd.prog 159 = 1 := by kernel_rfl
theorem tby_159 : tby Tryd.prog 159 = 8 := by kernel_rfl
theorem bld_159 : bldE Tryd.prog 159 = none := by kernel_rfl
theorem zc_159 : zc Tryd.prog 159 = some [.nilptr] := by kernel_rfl
theorem tk_162 : tk Tryd.prog 162 = .arr 256 4 := by kernel_rfl
theorem tsz_162 : tsz Tryd.prog 162 = 256 := by kernel_rfl
theorem tby_162 : tby Tryd.prog 162 = 256 := by kernel_rfl
theorem bld_162 : bldE Tryd.prog 162 = none := by kernel_rfl
theorem zc_162 : zc Tryd.prog 162 = some [.bool false, .bool false, .bool false, .bool false, .bool false, .bool false, .bool false, .bool false, .bool false, .bool false, .bool false, .bool false, .bool false, .bool false, .bool false, .bool false, .bool false, .bool false, .bool false, .bool false, .bool false, .bool false, .bool false, .bool false, .bool false, .bool false, .bool false, .bool false, .bool false, .bool false, .bool false, .bool false, .bool false, .bool false, .bool false, .bool false, .bool false, .bool false, .bool false, .bool false, .bool false, .bool false, .bool false, .bool false, .bool false, .bool false, .bool false, .bool false, .bool false, .bool false, .bool false, .bool false, .bool false, .bool false, .bool false, .bool false, .bool false, .bool false, .bool false, .bool false, .bool false, .bool false, .bool false, .bool false, .bool false, .bool false, .bool false, .bool false, .bool false, .bool false, .bool false, .bool false, .bool false, .bool false, .bool false, .bool false, .bool false, .bool false, .bool false, .bool false, .bool false, .bool false, .bool false, .bool false, .bool false, .bool false, .bool false, .bool false, .bool false, .bool false, .bool false, .bool false, .bool false, .bool false, .bool false, .bool false, .bool false, .bool false, .bool false, .bool false, .bool false, .bool false, .bool false, .bool false, .bool false, .bool false, .bool false, .bool false, .bool false, .bool false, .bool false, .bool false, .bool false, .bool false, .bool false, .bool false, .bool false, .bool false, .bool false, .bool false, .bool false, .bool false, .bool false, .bool false, .bool false, .bool false, .bool false, .bool false, .bool false, .bool false, .bool false, .bool false, .bool false, .bool false, .bool false, .bool false, .bool false, .bool false, .bool false, .bool false, .bool false, .bool false, .bool false, .bool false, .bool false, .bool false, .bool false, .bool false, .bool false, .bool false, .bool false, .bool false, .bool false, .bool false, .bool false, .bool false, .bool false, .bool false, .bool false, .bool false, .bool false, .bool false, .bool false, .bool false, .bool false, .bool false, .bool false, .bool false, .bool false, .bool false, .bool false, .bool false, .bool false, .bool false, .bool false, .bool false, .bool false, .bool false, .bool false, .bool false, .bool false, .bool false, .bool false, .bool false, .bool false, .bool false, .bool false, .bool false, .bool false, .bool false, .bool false, .bool false, .bool false, .bool false, .bool false, .bool false, .bool false, .bool false, .bool false, .bool false, .bool false, .bool false, .bool false, .bool false, .bool false, .bool false, .bool false, .bool false, .bool false, .bool false, .bool false, .bool false, .bool false, .bool false, .bool false, .bool false, .bool false, .bool false, .bool false, .bool false, .bool false, .bool false, .bool false, .bool false, .bool false, .bool false, .bool false, .bool false, .bool false, .bool false, .bool false, .bool false, .bool false, .bool false, .bool false, .bool false, .bool false, .bool false, .bool false, .bool false, .bool false, .bool false, .bool false, .bool false, .bool false, .bool false, .bool false, .bool false, .bool false, .bool false, .bool false, .bool false, .bool false, .bool false, .bool false, .bool false] := by kernel_rfl
theorem tk_166 : tk Tryd.prog 166 = .arr 6 3 := by kernel_rfl
theorem tsz_166 : tsz Tryd.prog 166 = 6 := by kernel_rfl
theorem tby_166 : tby Tryd.prog 166 = 48 := by kernel_rfl
theorem bld_166 : bldE Tryd.prog 166 = none := by kernel_rfl
theorem zc_166 : zc Tryd.prog 166 = some [.int .i64 (0), .int .i64 (0), .int .i64 (0), .int .i64 (0), .int .i64 (0), .int .i64 (0)] := by kernel_rfl
theorem tk_167 : tk Tryd.prog 167 = .sl 172 := by kernel_rfl
theorem tsz_167 : tsz Tryd.prog 167 = 1 := by kernel_rfl
theorem tby_167 : tby Tryd.prog 167 = 24 := by kernel_rfl
theorem bld_167 : bldE Tryd.prog 167 = none := by kernel_rfl
theorem zc_167 : zc Tryd.prog 167 = some [.nilsl] := by kernel_rfl
theorem tk_168 : tk Tryd.prog 168 = .sl 175 := by kernel_rfl
theorem tsz_168 : tsz Tryd.prog 168 = 1 := by kernel_rfl
theorem tby_168 : tby Tryd.prog 168 = 24 := by kernel_rfl
theorem bld_168 : bldE Tryd.prog 168 = none := by kernel_rfl
theorem zc_168 : zc Tryd.prog 168 = some [.nilsl] := by kernel_rfl
theorem tk_170 : tk Tryd.prog 170 = .st := by kernel_rfl
theorem tsz_170 : tsz Tryd.prog 170 = 3 := by kernel_rfl
theorem tby_170 : tby Tryd.prog 170 = 56 := by kernel_rfl
theorem bld_170 : bldE Tryd.prog 170 = none := by kernel_rfl
theorem zc_170 : zc Tryd.prog 170 = some [.nilsl, .nilsl, .int .i64 (0)] := by kernel_rfl
theorem plS_170 : plS Tryd.prog 170 = some [(0, 1), (1, 1), (2, 1)] := by kernel_rfl
theorem fld_170_0 : fld Tryd.prog 170 0 = some (0, 167) := by kernel_rfl
theorem fld_170_1 : fld Tryd.prog 170 1 = some (1, 168) := by kernel_rfl
theorem fld_170_2 : fld Tryd.prog 170 2 = some (2, 3) := by kernel_rfl
theorem tk_172 : tk Tryd.prog 172 = .st := by kernel_rfl
theorem tsz_172 : tsz Tryd.prog 172 = 3 := by kernel_rfl
theorem tby_172 : tby Tryd.prog 172 = 6 := by kernel_rfl
theorem bld_172 : bldE Tryd.prog 172 = none := by kernel_rfl
theorem zc_172 : zc Tryd.prog 172 = some [.int .u16 (0), .int .u16 (0), .int .u16 (0)] := by kernel_rfl
theorem plS_172 : plS Tryd.prog 172 = some [(0, 1), (1, 1), (2, 1)] := by kernel_rfl
theorem fld_172_0 : fld Tryd.prog 172 0 = some (0, 22) := by kernel_rfl
theorem fld_172_1 : fld Tryd.prog 172 1 = some (1, 22) := by kernel_rfl
theorem fld_172_2 : fld Tryd.prog 172 2 = some (2, 22) := by kernel_rfl
theorem tk_175 : tk Tryd.prog 175 = .st := by kernel_rfl
theorem tsz_175 : tsz Tryd.prog 175 = 3 := by kernel_rfl
theorem tby_175 : tby Tryd.prog 175 = 12 := by kernel_rfl
theorem bld_175 : bldE Tryd.prog 175 = none := by kernel_rfl
theorem zc_175 : zc Tryd.prog 175 = some [.int .u32 (0), .int .u32 (0), .int .u32 (0)] := by kernel_rfl
theorem plS_175 : plS Tryd.prog 175 = some [(0, 1), (1, 1), (2, 1)] := by kernel_rfl
theorem fld_175_0 : fld Tryd.prog 175 0 = some (0, 77) := by kernel_rfl
theorem fld_175_1 : fld Tryd.prog 175 1 = some (1, 77) := by kernel_rfl
theorem fld_175_2 : fld Tryd.prog 175 2 = some (2, 77) := by kernel_rfl
theorem tk_178 : tk Tryd.prog 178 = .int .u64 := by kernel_rfl
theorem tsz_178 : tsz Tryd.prog 178 = 1 := by kernel_rfl
theorem tby_178 : tby Tryd.prog 178 = 8 := by kernel_rfl
theorem bld_178 : bldE Tryd.prog 178 = none := by kernel_rfl
theorem zc_178 : zc Tryd.prog 178 = some [.int .u64 (0)] := by kernel_rfl
attribute [push_cast] tk_1 tsz_1 tby_1 bld_1 zc_1 tk_2 tsz_2 tby_2 bld_2 zc_2 tk_3 tsz_3 tby_3 bld_3 zc_3 zvO_3 tk_4 tsz_4 tby_4 bld_4 zc_4 tk_5 tsz_5 tby_5 bld_5 zc_5 tk_9 tsz_9 tby_9 bld_9 zc_9 tk_20 tsz_20 tby_20 bld_20 zc_20 tk_21 tsz_21 tby_21 bld_21 zc_21 tk_22 tsz_22 tby_22 bld_22 zc_22 tk_25 tsz_25 tby_25 bld_25 zc_25 plS_25 fld_25_0 fld_25_1 fld_25_2 fld_25_3 tk_26 tsz_26 tby_26 bld_26 zc_26 tk_32 tsz_32 tby_32 bld_32 zc_32 tk_34 tsz_34 tby_34 bld_34 zc_34 tk_38 tsz_38 tby_38 bld_38 zc_38 tk_39 tsz_39 tby_39 bld_39 zc_39 tk_40 tsz_40 tby_40 bld_40 zc_40 tk_42 tsz_42 tby_42 bld_42 zc_42 plS_42 fld_42_0 fld_42_1 fld_42_2 fld_42_3 fld_42_4 fld_42_5 fld_42_6 fld_42_7 fld_42_8 fld_42_9 tk_43 tsz_43 tby_43 bld_43 zc_43 tk_48 tsz_48 tby_48 bld_48 zc_48 tk_50 tsz_50 tby_50 bld_50 zc_50 plS_50 fld_50_0 fld_50_1 fld_50_2 fld_50_3 tk_56 tsz_56 tby_56 bld_56 zc_56 plS_56 fld_56_0 fld_56_1 fld_56_2 tk_60 tsz_60 tby_60 bld_60 zc_60 plS_60 fld_60_0 fld_60_1 fld_60_2 fld_60_3 fld_60_4 fld_60_5 tk_77 tsz_77 tby_77 bld_77 zc_77 tk_78 tsz_78 tby_78 bld_78 zc_78 tk_83 tsz_83 tby_83 bld_83 zc_83 plS_83 fld_83_0 fld_83_1 fld_83_2 tk_94 tsz_94 tby_94 bld_94 zc_94 plS_94 fld_94_0 fld_94_1 fld_94_2 tk_104 tsz_104 tby_104 bld_104 zc_104 plS_104 fld_104_0 fld_104_1 fld_104_2 tk_109 tsz_109 tby_109 bld_109 zc_109 tk_114 tsz_114 tby_114 bld_114 zc_114 tk_116 tsz_116 tby_116 bld_116 zc_116 plS_116 fld_116_0 fld_116_1 tk_125 tsz_125 tby_125 bld_125 zc_125 plS_125 fld_125_0 fld_125_1 fld_125_2 tk_130 tsz_130 tby_130 bld_130 zc_130 tk_134 tsz_134 tby_134 bld_134 zc_134 tk_136 tsz_136 tby_136 bld_136 zc_136 tk_142 tsz_142 tby_142 bld_142 zc_142 tk_143 tsz_143 tby_143 bld_143 zc_143 tk_145 tsz_145 tby_145 bld_145 zc_145 tk_146 tsz_146 tby_146 bld_146 zc_146 tk_147 tsz_147 tby_147 bld_147 zc_147 tk_149 tsz_149 tby_149 bld_149 zc_149 tk_151 tsz_151 tby_151 bld_151 zc_151 tk_153 tsz_153 tby_153 bld_153 zc_153 tk_155 tsz_155 tby_155 bld_155 zc_155 tk_157 tsz_157 tby_157 bld_157 zc_157 plS_157 fld_157_0 fld_157_1 tk_159 tsz_159 tby_159 bld_159 zc_159 tk_162 tsz_162 tby_162 bld_162 zc_162 tk_166 tsz_166 tby_166 bld_166 zc_166 tk_167 tsz_167 tby_167 bld_167 zc_167 tk_168 tsz_168 tby_168 bld_168 zc_168 tk_170 tsz_170 tby_170 bld_170 zc_170 plS_170 fld_170_0 fld_170_1 fld_170_2 tk_172 tsz_172 tby_172 bld_172 zc_172 plS_172 fld_172_0 fld_172_1 fld_172_2 tk_175 tsz_175 tby_175 bld_175 zc_175 plS_175 fld_175_0 fld_175_1 fld_175_2 tk_178 tsz_178 tby_178 bld_178 zc_178
end Go.Proofs.Sh
