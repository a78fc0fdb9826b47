/- The types of this program, as the operations ask for them. -/
import Derived.Test.YtbpjoeopnaggoaaDoorShShelf
import Derived.Test.YtbpjoeopnaggoaaDoorPvY
set_option maxRecDepth 100000
namespace Go.Proofs.Sh
open Go.Pv
theorem tk_1 : tk Tryd.prog 1 = .fn := by kernel_rfl
theorem tsz_1 : tsz Tryd.prog 1 = 1 := by kernel_rfl
theorem tby_1 : tby Tryd.prog 1 = 8 := by kernel_rfl
theorem bld_1 : bldE Tryd.prog 1 = none := by kernel_rfl
theorem zc_1 : zc Tryd.prog 1 = some [.nilfn] := by kernel_rfl
theorem tk_2 : tk Tryd.prog 2 = .int .i64 := by kernel_rfl
theorem tsz_2 : tsz Tryd.prog 2 = 1 := by kernel_rfl
theorem tby_2 : tby Tryd.prog 2 = 8 := by kernel_rfl
theorem bld_2 : bldE Tryd.prog 2 = none := by kernel_rfl
theorem zc_2 : zc Tryd.prog 2 = some [.int .i64 (0)] := by kernel_rfl
theorem tk_3 : tk Tryd.prog 3 = .int .i64 := by kernel_rfl
theorem tsz_3 : tsz Tryd.prog 3 = 1 := by kernel_rfl
theorem tby_3 : tby Tryd.prog 3 = 8 := by kernel_rfl
theorem bld_3 : bldE Tryd.prog 3 = none := by kernel_rfl
theorem zc_3 : zc Tryd.prog 3 = some [.int .i64 (0)] := by kernel_rfl
theorem zvO_3 : zvO Tryd.prog 3 = some (.int .i64 (0)) := by kernel_rfl
theorem tk_4 : tk Tryd.prog 4 = .bool := by kernel_rfl
theorem tsz_4 : tsz Tryd.prog 4 = 1 := by kernel_rfl
theorem tby_4 : tby Tryd.prog 4 = 1 := by kernel_rfl
theorem bld_4 : bldE Tryd.prog 4 = none := by kernel_rfl
theorem zc_4 : zc Tryd.prog 4 = some [.bool false] := by kernel_rfl
theorem tk_5 : tk Tryd.prog 5 = .int .u8 := by kernel_rfl
theorem tsz_5 : tsz Tryd.prog 5 = 1 := by kernel_rfl
theorem tby_5 : tby Tryd.prog 5 = 1 := by kernel_rfl
theorem bld_5 : bldE Tryd.prog 5 = none := by kernel_rfl
theorem zc_5 : zc Tryd.prog 5 = some [.int .u8 (0)] := by kernel_rfl
theorem tk_9 : tk Tryd.prog 9 = .str := by kernel_rfl
theorem tsz_9 : tsz Tryd.prog 9 = 1 := by kernel_rfl
theorem tby_9 : tby Tryd.prog 9 = 16 := by kernel_rfl
theorem bld_9 : bldE Tryd.prog 9 = none := by kernel_rfl
theorem zc_9 : zc Tryd.prog 9 = some [.str []] := by kernel_rfl
theorem tk_20 : tk Tryd.prog 20 = .ifc := by kernel_rfl
theorem tsz_20 : tsz Tryd.prog 20 = 1 := by kernel_rfl
theorem tby_20 : tby Tryd.prog 20 = 16 := by kernel_rfl
theorem bld_20 : bldE Tryd.prog 20 = none := by kernel_rfl
theorem zc_20 : zc Tryd.prog 20 = some [.nilif] := by kernel_rfl
theorem tk_21 : tk Tryd.prog 21 = .int .i32 := by kernel_rfl
theorem tsz_21 : tsz Tryd.prog 21 = 1 := by kernel_rfl
theorem tby_21 : tby Tryd.prog 21 = 4 := by kernel_rfl
theorem bld_21 : bldE Tryd.prog 21 = none := by kernel_rfl
theorem zc_21 : zc Tryd.prog 21 = some [.int .i32 (0)] := by kernel_rfl
theorem tk_25 : tk Tryd.prog 25 = .sl 28 := by kernel_rfl
theorem tsz_25 : tsz Tryd.prog 25 = 1 := by kernel_rfl
theorem tby_25 : tby Tryd.prog 25 = 24 := by kernel_rfl
theorem bld_25 : bldE Tryd.prog 25 = none := by kernel_rfl
theorem zc_25 : zc Tryd.prog 25 = some [.nilsl] := by kernel_rfl
theorem tk_26 : tk Tryd.prog 26 = .sl 4 := by kernel_rfl
theorem tsz_26 : tsz Tryd.prog 26 = 1 := by kernel_rfl
theorem tby_26 : tby Tryd.prog 26 = 24 := by kernel_rfl
theorem bld_26 : bldE Tryd.prog 26 = none := by kernel_rfl
theorem zc_26 : zc Tryd.prog 26 = some [.nilsl] := by kernel_rfl
theorem tk_27 : tk Tryd.prog 27 = .sl 31 := by kernel_rfl
theorem tsz_27 : tsz Tryd.prog 27 = 1 := by kernel_rfl
theorem tby_27 : tby Tryd.prog 27 = 24 := by kernel_rfl
theorem bld_27 : bldE Tryd.prog 27 = none := by kernel_rfl
theorem zc_27 : zc Tryd.prog 27 = some [.nilsl] := by kernel_rfl
theorem tk_28 : tk Tryd.prog 28 = .sl 44 := by kernel_rfl
theorem tsz_28 : tsz Tryd.prog 28 = 1 := by kernel_rfl
theorem tby_28 : tby Tryd.prog 28 = 24 := by kernel_rfl
theorem bld_28 : bldE Tryd.prog 28 = none := by kernel_rfl
theorem zc_28 : zc Tryd.prog 28 = some [.nilsl] := by kernel_rfl
theorem tk_29 : tk Tryd.prog 29 = .sl 64 := by kernel_rfl
theorem tsz_29 : tsz Tryd.prog 29 = 1 := by kernel_rfl
theorem tby_29 : tby Tryd.prog 29 = 24 := by kernel_rfl
theorem bld_29 : bldE Tryd.prog 29 = none := by kernel_rfl
theorem zc_29 : zc Tryd.prog 29 = some [.nilsl] := by kernel_rfl
theorem tk_31 : tk Tryd.prog 31 = .st := by kernel_rfl
theorem tsz_31 : tsz Tryd.prog 31 = 2 := by kernel_rfl
theorem tby_31 : tby Tryd.prog 31 = 48 := by kernel_rfl
theorem bld_31 : bldE Tryd.prog 31 = none := by kernel_rfl
theorem zc_31 : zc Tryd.prog 31 = some [.nilsl, .nilsl] := by kernel_rfl
theorem plS_31 : plS Tryd.prog 31 = some [(0, 1), (1, 1)] := by kernel_rfl
theorem fld_31_0 : fld Tryd.prog 31 0 = some (0, 28) := by kernel_rfl
theorem fld_31_1 : fld Tryd.prog 31 1 = some (1, 29) := by kernel_rfl
theorem tk_33 : tk Tryd.prog 33 = .sl 3 := by kernel_rfl
theorem tsz_33 : tsz Tryd.prog 33 = 1 := by kernel_rfl
theorem tby_33 : tby Tryd.prog 33 = 24 := by kernel_rfl
theorem bld_33 : bldE Tryd.prog 33 = none := by kernel_rfl
theorem zc_33 : zc Tryd.prog 33 = some [.nilsl] := by kernel_rfl
theorem tk_34 : tk Tryd.prog 34 = .map 3 3 := by kernel_rfl
theorem tsz_34 : tsz Tryd.prog 34 = 1 := by kernel_rfl
theorem tby_34 : tby Tryd.prog 34 = 8 := by kernel_rfl
theorem bld_34 : bldE Tryd.prog 34 = none := by kernel_rfl
theorem zc_34 : zc Tryd.prog 34 = some [.nilm] := by kernel_rfl
theorem tk_36 : tk Tryd.prog 36 = .st := by kernel_rfl
theorem tsz_36 : tsz Tryd.prog 36 = 10 := by kernel_rfl
theorem tby_36 : tby Tryd.prog 36 = 112 := by kernel_rfl
theorem bld_36 : bldE Tryd.prog 36 = none := by kernel_rfl
theorem zc_36 : zc Tryd.prog 36 = some [.int .i64 (0), .int .i64 (0), .bool false, .int .i64 (0), .int .i64 (0), .int .i64 (0), .str [], .str [], .nilsl, .nilm] := by kernel_rfl
theorem plS_36 : plS Tryd.prog 36 = some [(0, 1), (1, 1), (2, 1), (3, 1), (4, 1), (5, 1), (6, 1), (7, 1), (8, 1), (9, 1)] := by kernel_rfl
theorem fld_36_0 : fld Tryd.prog 36 0 = some (0, 3) := by kernel_rfl
theorem fld_36_1 : fld Tryd.prog 36 1 = some (1, 3) := by kernel_rfl
theorem fld_36_2 : fld Tryd.prog 36 2 = some (2, 4) := by kernel_rfl
theorem fld_36_3 : fld Tryd.prog 36 3 = some (3, 3) := by kernel_rfl
theorem fld_36_4 : fld Tryd.prog 36 4 = some (4, 3) := by kernel_rfl
theorem fld_36_5 : fld Tryd.prog 36 5 = some (5, 3) := by kernel_rfl
theorem fld_36_6 : fld Tryd.prog 36 6 = some (6, 9) := by kernel_rfl
theorem fld_36_7 : fld Tryd.prog 36 7 = some (7, 9) := by kernel_rfl
theorem fld_36_8 : fld Tryd.prog 36 8 = some (8, 33) := by kernel_rfl
theorem fld_36_9 : fld Tryd.prog 36 9 = some (9, 34) := by kernel_rfl
theorem tk_37 : tk Tryd.prog 37 = .int .i64 := by kernel_rfl
theorem tsz_37 : tsz Tryd.prog 37 = 1 := by kernel_rfl
theorem tby_37 : tby Tryd.prog 37 = 8 := by kernel_rfl
theorem bld_37 : bldE Tryd.prog 37 = none := by kernel_rfl
theorem zc_37 : zc Tryd.prog 37 = some [.int .i64 (0)] := by kernel_rfl
theorem tk_42 : tk Tryd.prog 42 = .sl 2 := by kernel_rfl
theorem tsz_42 : tsz Tryd.prog 42 = 1 := by kernel_rfl
theorem tby_42 : tby Tryd.prog 42 = 24 := by kernel_rfl
theorem bld_42 : bldE Tryd.prog 42 = none := by kernel_rfl
theorem zc_42 : zc Tryd.prog 42 = some [.nilsl] := by kernel_rfl
theorem tk_44 : tk Tryd.prog 44 = .st := by kernel_rfl
theorem tsz_44 : tsz Tryd.prog 44 = 4 := by kernel_rfl
theorem tby_44 : tby Tryd.prog 44 = 72 := by kernel_rfl
theorem bld_44 : bldE Tryd.prog 44 = none := by kernel_rfl
theorem zc_44 : zc Tryd.prog 44 = some [.int .i64 (0), .nilsl, .str [], .nilsl] := by kernel_rfl
theorem plS_44 : plS Tryd.prog 44 = some [(0, 1), (1, 1), (2, 1), (3, 1)] := by kernel_rfl
theorem fld_44_0 : fld Tryd.prog 44 0 = some (0, 3) := by kernel_rfl
theorem fld_44_1 : fld Tryd.prog 44 1 = some (1, 42) := by kernel_rfl
theorem fld_44_2 : fld Tryd.prog 44 2 = some (2, 9) := by kernel_rfl
theorem fld_44_3 : fld Tryd.prog 44 3 = some (3, 42) := by kernel_rfl
theorem tk_51 : tk Tryd.prog 51 = .int .u32 := by kernel_rfl
theorem tsz_51 : tsz Tryd.prog 51 = 1 := by kernel_rfl
theorem tby_51 : tby Tryd.prog 51 = 4 := by kernel_rfl
theorem bld_51 : bldE Tryd.prog 51 = none := by kernel_rfl
theorem zc_51 : zc Tryd.prog 51 = some [.int .u32 (0)] := by kernel_rfl
theorem tk_52 : tk Tryd.prog 52 = .int .u32 := by kernel_rfl
theorem tsz_52 : tsz Tryd.prog 52 = 1 := by kernel_rfl
theorem tby_52 : tby Tryd.prog 52 = 4 := by kernel_rfl
theorem bld_52 : bldE Tryd.prog 52 = none := by kernel_rfl
theorem zc_52 : zc Tryd.prog 52 = some [.int .u32 (0)] := by kernel_rfl
theorem tk_55 : tk Tryd.prog 55 = .int .u64 := by kernel_rfl
theorem tsz_55 : tsz Tryd.prog 55 = 1 := by kernel_rfl
theorem tby_55 : tby Tryd.prog 55 = 8 := by kernel_rfl
theorem bld_55 : bldE Tryd.prog 55 = none := by kernel_rfl
theorem zc_55 : zc Tryd.prog 55 = some [.int .u64 (0)] := by kernel_rfl
theorem tk_61 : tk Tryd.prog 61 = .sl 5 := by kernel_rfl
theorem tsz_61 : tsz Tryd.prog 61 = 1 := by kernel_rfl
theorem tby_61 : tby Tryd.prog 61 = 24 := by kernel_rfl
theorem bld_61 : bldE Tryd.prog 61 = none := by kernel_rfl
theorem zc_61 : zc Tryd.prog 61 = some [.nilsl] := by kernel_rfl
theorem tk_64 : tk Tryd.prog 64 = .st := by kernel_rfl
theorem tsz_64 : tsz Tryd.prog 64 = 6 := by kernel_rfl
theorem tby_64 : tby Tryd.prog 64 = 88 := by kernel_rfl
theorem bld_64 : bldE Tryd.prog 64 = none := by kernel_rfl
theorem zc_64 : zc Tryd.prog 64 = some [.int .i64 (0), .int .i64 (0), .int .i64 (0), .nilsl, .str [], .nilsl] := by kernel_rfl
theorem plS_64 : plS Tryd.prog 64 = some [(0, 1), (1, 1), (2, 1), (3, 1), (4, 1), (5, 1)] := by kernel_rfl
theorem fld_64_0 : fld Tryd.prog 64 0 = some (0, 3) := by kernel_rfl
theorem fld_64_1 : fld Tryd.prog 64 1 = some (1, 3) := by kernel_rfl
theorem fld_64_2 : fld Tryd.prog 64 2 = some (2, 3) := by kernel_rfl
theorem fld_64_3 : fld Tryd.prog 64 3 = some (3, 42) := by kernel_rfl
theorem fld_64_4 : fld Tryd.prog 64 4 = some (4, 9) := by kernel_rfl
theorem fld_64_5 : fld Tryd.prog 64 5 = some (5, 42) := by kernel_rfl
theorem tk_67 : tk Tryd.prog 67 = .st := by kernel_rfl
theorem tsz_67 : tsz Tryd.prog 67 = 4 := by kernel_rfl
theorem tby_67 : tby Tryd.prog 67 = 80 := by kernel_rfl
theorem bld_67 : bldE Tryd.prog 67 = none := by kernel_rfl
theorem zc_67 : zc Tryd.prog 67 = some [.nilsl, .nilsl, .nilsl, .int .i64 (0)] := by kernel_rfl
theorem plS_67 : plS Tryd.prog 67 = some [(0, 1), (1, 1), (2, 1), (3, 1)] := by kernel_rfl
theorem fld_67_0 : fld Tryd.prog 67 0 = some (0, 33) := by kernel_rfl
theorem fld_67_1 : fld Tryd.prog 67 1 = some (1, 26) := by kernel_rfl
theorem fld_67_2 : fld Tryd.prog 67 2 = some (2, 26) := by kernel_rfl
theorem fld_67_3 : fld Tryd.prog 67 3 = some (3, 3) := by kernel_rfl
theorem tk_77 : tk Tryd.prog 77 = .sl 80 := by kernel_rfl
theorem tsz_77 : tsz Tryd.prog 77 = 1 := by kernel_rfl
theorem tby_77 : tby Tryd.prog 77 = 24 := by kernel_rfl
theorem bld_77 : bldE Tryd.prog 77 = none := by kernel_rfl
theorem zc_77 : zc Tryd.prog 77 = some [.nilsl] := by kernel_rfl
theorem tk_78 : tk Tryd.prog 78 = .int .i16 := by kernel_rfl
theorem tsz_78 : tsz Tryd.prog 78 = 1 := by kernel_rfl
theorem tby_78 : tby Tryd.prog 78 = 2 := by kernel_rfl
theorem bld_78 : bldE Tryd.prog 78 = none := by kernel_rfl
theorem zc_78 : zc Tryd.prog 78 = some [.int .i16 (0)] := by kernel_rfl
theorem tk_80 : tk Tryd.prog 80 = .st := by kernel_rfl
theorem tsz_80 : tsz Tryd.prog 80 = 5 := by kernel_rfl
theorem tby_80 : tby Tryd.prog 80 = 6 := by kernel_rfl
theorem bld_80 : bldE Tryd.prog 80 = none := by kernel_rfl
theorem zc_80 : zc Tryd.prog 80 = some [.int .u8 (0), .int .u8 (0), .int .u8 (0), .bool false, .int .i16 (0)] := by kernel_rfl
theorem plS_80 : plS Tryd.prog 80 = some [(0, 1), (1, 1), (2, 1), (3, 1), (4, 1)] := by kernel_rfl
theorem fld_80_0 : fld Tryd.prog 80 0 = some (0, 5) := by kernel_rfl
theorem fld_80_1 : fld Tryd.prog 80 1 = some (1, 5) := by kernel_rfl
theorem fld_80_2 : fld Tryd.prog 80 2 = some (2, 5) := by kernel_rfl
theorem fld_80_3 : fld Tryd.prog 80 3 = some (3, 4) := by kernel_rfl
theorem fld_80_4 : fld Tryd.prog 80 4 = some (4, 78) := by kernel_rfl
theorem tk_83 : tk Tryd.prog 83 = .st := by kernel_rfl
theorem tsz_83 : tsz Tryd.prog 83 = 3 := by kernel_rfl
theorem tby_83 : tby Tryd.prog 83 = 40 := by kernel_rfl
theorem bld_83 : bldE Tryd.prog 83 = none := by kernel_rfl
theorem zc_83 : zc Tryd.prog 83 = some [.nilsl, .bool false, .int .i64 (0)] := by kernel_rfl
theorem plS_83 : plS Tryd.prog 83 = some [(0, 1), (1, 1), (2, 1)] := by kernel_rfl
theorem fld_83_0 : fld Tryd.prog 83 0 = some (0, 33) := by kernel_rfl
theorem fld_83_1 : fld Tryd.prog 83 1 = some (1, 4) := by kernel_rfl
theorem fld_83_2 : fld Tryd.prog 83 2 = some (2, 3) := by kernel_rfl
theorem tk_100 : tk Tryd.prog 100 = .st := by kernel_rfl
theorem tsz_100 : tsz Tryd.prog 100 = 3 := by kernel_rfl
theorem tby_100 : tby Tryd.prog 100 = 64 := by kernel_rfl
theorem bld_100 : bldE Tryd.prog 100 = none := by kernel_rfl
theorem zc_100 : zc Tryd.prog 100 = some [.nilsl, .str [], .nilsl] := by kernel_rfl
theorem plS_100 : plS Tryd.prog 100 = some [(0, 1), (1, 1), (2, 1)] := by kernel_rfl
theorem fld_100_0 : fld Tryd.prog 100 0 = some (0, 42) := by kernel_rfl
theorem fld_100_1 : fld Tryd.prog 100 1 = some (1, 9) := by kernel_rfl
theorem fld_100_2 : fld Tryd.prog 100 2 = some (2, 42) := by kernel_rfl
theorem tk_111 : tk Tryd.prog 111 = .st := by kernel_rfl
theorem tsz_111 : tsz Tryd.prog 111 = 3 := by kernel_rfl
theorem tby_111 : tby Tryd.prog 111 = 24 := by kernel_rfl
theorem bld_111 : bldE Tryd.prog 111 = none := by kernel_rfl
theorem zc_111 : zc Tryd.prog 111 = some [.int .i64 (0), .int .i64 (0), .int .i64 (0)] := by kernel_rfl
theorem plS_111 : plS Tryd.prog 111 = some [(0, 1), (1, 1), (2, 1)] := by kernel_rfl
theorem fld_111_0 : fld Tryd.prog 111 0 = some (0, 3) := by kernel_rfl
theorem fld_111_1 : fld Tryd.prog 111 1 = some (1, 3) := by kernel_rfl
theorem fld_111_2 : fld Tryd.prog 111 2 = some (2, 3) := by kernel_rfl
theorem tk_117 : tk Tryd.prog 117 = .st := by kernel_rfl
theorem tsz_117 : tsz Tryd.prog 117 = 3 := by kernel_rfl
theorem tby_117 : tby Tryd.prog 117 = 48 := by kernel_rfl
theorem bld_117 : bldE Tryd.prog 117 = none := by kernel_rfl
theorem zc_117 : zc Tryd.prog 117 = some [.str [], .str [], .str []] := by kernel_rfl
theorem plS_117 : plS Tryd.prog 117 = some [(0, 1), (1, 1), (2, 1)] := by kernel_rfl
theorem fld_117_0 : fld Tryd.prog 117 0 = some (0, 9) := by kernel_rfl
theorem fld_117_1 : fld Tryd.prog 117 1 = some (1, 9) := by kernel_rfl
theorem fld_117_2 : fld Tryd.prog 117 2 = some (2, 9) := by kernel_rfl
theorem tk_123 : tk Tryd.prog 123 = .ptr 125 := by kernel_rfl
theorem tsz_123 : tsz Tryd.prog 123 = 1 := by kernel_rfl
theorem tby_123 : tby Tryd.prog 123 = 8 := by kernel_rfl
theorem bld_123 : bldE Tryd.prog 123 = none := by kernel_rfl
theorem zc_123 : zc Tryd.prog 123 = some [.nilptr] := by kernel_rfl
theorem tk_125 : tk Tryd.prog 125 = .st := by kernel_rfl
theorem tsz_125 : tsz Tryd.prog 125 = 2 := by kernel_rfl
theorem tby_125 : tby Tryd.prog 125 = 32 := by kernel_rfl
theorem bld_125 : bldE Tryd.prog 125 = some 5 := by kernel_rfl
theorem zc_125 : zc Tryd.prog 125 = some [.nilptr, .nilsl] := by kernel_rfl
theorem plS_125 : plS Tryd.prog 125 = some [(0, 1), (1, 1)] := by kernel_rfl
theorem fld_125_0 : fld Tryd.prog 125 0 = some (0, 123) := by kernel_rfl
theorem fld_125_1 : fld Tryd.prog 125 1 = some (1, 61) := by kernel_rfl
theorem tk_135 : tk Tryd.prog 135 = .st := by kernel_rfl
theorem tsz_135 : tsz Tryd.prog 135 = 3 := by kernel_rfl
theorem tby_135 : tby Tryd.prog 135 = 24 := by kernel_rfl
theorem bld_135 : bldE Tryd.prog 135 = none := by kernel_rfl
theorem zc_135 : zc Tryd.prog 135 = some [.int .i64 (0), .int .i64 (0), .int .i64 (0)] := by kernel_rfl
theorem plS_135 : plS Tryd.prog 135 = some [(0, 1), (1, 1), (2, 1)] := by kernel_rfl
theorem fld_135_0 : fld Tryd.prog 135 0 = some (0, 3) := by kernel_rfl
theorem fld_135_1 : fld Tryd.prog 135 1 = some (1, 2) := by kernel_rfl
theorem fld_135_2 : fld Tryd.prog 135 2 = some (2, 2) := by kernel_rfl
theorem tk_140 : tk Tryd.prog 140 = .sl 9 := by kernel_rfl
theorem tsz_140 : tsz Tryd.prog 140 = 1 := by kernel_rfl
theorem tby_140 : tby Tryd.prog 140 = 24 := by kernel_rfl
theorem bld_140 : bldE Tryd.prog 140 = none := by kernel_rfl
theorem zc_140 : zc Tryd.prog 140 = some [.nilsl] := by kernel_rfl
theorem tk_150 : tk Tryd.prog 150 = .arr 30 117 := by kernel_rfl
theorem tsz_150 : tsz Tryd.prog 150 = 90 := by kernel_rfl
theorem tby_150 : tby Tryd.prog 150 = 1440 := by kernel_rfl
theorem bld_150 : bldE Tryd.prog 150 = none := by kernel_rfl
theorem zc_150 : zc Tryd.prog 150 = some [.str [], .str [], .str [], .str [], .str [], .str [], .str [], .str [], .str [], .str [], .str [], .str [], .str [], .str [], .str [], .str [], .str [], .str [], .str [], .str [], .str [], .str [], .str [], .str [], .str [], .str [], .str [], .str [], .str [], .str [], .str [], .str [], .str [], .str [], .str [], .str [], .str [], .str [], .str [], .str [], .str [], .str [], .str [], .str [], .str [], .str [], .str [], .str [], .str [], .str [], .str [], .str [], .str [], .str [], .str [], .str [], .str [], .str [], .str [], .str [], .str [], .str [], .str [], .str [], .str [], .str [], .str [], .str [], .str [], .str [], .str [], .str [], .str [], .str [], .str [], .str [], .str [], .str [], .str [], .str [], .str [], .str [], .str [], .str [], .str [], .str [], .str [], .str [], .str [], .str []] := by kernel_rfl
theorem tk_152 : tk Tryd.prog 152 = .arr 59 117 := by kernel_rfl
theorem tsz_152 : tsz Tryd.prog 152 = 177 := by kernel_rfl
theorem tby_152 : tby Tryd.prog 152 = 2832 := by kernel_rfl
theorem bld_152 : bldE Tryd.prog 152 = none := by kernel_rfl
theorem zc_152 : zc Tryd.prog 152 = some [.str [], .str [], .str [], .str [], .str [], .str [], .str [], .str [], .str [], .str [], .str [], .str [], .str [], .str [], .str [], .str [], .str [], .str [], .str [], .str [], .str [], .str [], .str [], .str [], .str [], .str [], .str [], .str [], .str [], .str [], .str [], .str [], .str [], .str [], .str [], .str [], .str [], .str [], .str [], .str [], .str [], .str [], .str [], .str [], .str [], .str [], .str [], .str [], .str [], .str [], .str [], .str [], .str [], .str [], .str [], .str [], .str [], .str [], .str [], .str [], .str [], .str [], .str [], .str [], .str [], .str [], .str [], .str [], .str [], .str [], .str [], .str [], .str [], .str [], .str [], .str [], .str [], .str [], .str [], .str [], .str [], .str [], .str [], .str [], .str [], .str [], .str [], .str [], .str [], .str [], .str [], .str [], .str [], .str [], .str [], .str [], .str [], .str [], .str [], .str [], .str [], .str [], .str [], .str [], .str [], .str [], .str [], .str [], .str [], .str [], .str [], .str [], .str [], .str [], .str [], .str [], .str [], .str [], .str [], .str [], .str [], .str [], .str [], .str [], .str [], .str [], .str [], .str [], .str [], .str [], .str [], .str [], .str [], .str [], .str [], .str [], .str [], .str [], .str [], .str [], .str [], .str [], .str [], .str [], .str [], .str [], .str [], .str [], .str [], .str [], .str [], .str [], .str [], .str [], .str [], .str [], .str [], .str [], .str [], .str [], .str [], .str [], .str [], .str [], .str [], .str [], .str [], .str [], .str [], .str [], .str [], .str [], .str [], .str [], .str [], .str [], .str []] := by kernel_rfl
theorem tk_159 : tk Tryd.prog 159 = .ptr 5 := by kernel_rfl
theorem tsz_159 : tsz Tryd.prog 159 = 1 := by kernel_rfl
theorem tby_159 : tby Tryd.prog 159 = 8 := by kernel_rfl
theorem bld_159 : bldE Tryd.prog 159 = none := by kernel_rfl
theorem zc_159 : zc Tryd.prog 159 = some [.nilptr] := by kernel_rfl
theorem tk_160 : tk Tryd.prog 160 = .arr 6 135 := by kernel_rfl
theorem tsz_160 : tsz Tryd.prog 160 = 18 := by kernel_rfl
theorem tby_160 : tby Tryd.prog 160 = 144 := by kernel_rfl
theorem bld_160 : bldE Tryd.prog 160 = none := by kernel_rfl
theorem zc_160 : zc Tryd.prog 160 = some [.int .i64 (0), .int .i64 (0), .int .i64 (0), .int .i64 (0), .int .i64 (0), .int .i64 (0), .int .i64 (0), .int .i64 (0), .int .i64 (0), .int .i64 (0), .int .i64 (0), .int .i64 (0), .int .i64 (0), .int .i64 (0), .int .i64 (0), .int .i64 (0), .int .i64 (0), .int .i64 (0)] := by kernel_rfl
theorem tk_161 : tk Tryd.prog 161 = .int .u64 := by kernel_rfl
theorem tsz_161 : tsz Tryd.prog 161 = 1 := by kernel_rfl
theorem tby_161 : tby Tryd.prog 161 = 8 := by kernel_rfl
theorem bld_161 : bldE Tryd.prog 161 = none := by kernel_rfl
theorem zc_161 : zc Tryd.prog 161 = some [.int .u64 (0)] := by kernel_rfl
theorem tk_163 : tk Tryd.prog 163 = .fn := by kernel_rfl
theorem tsz_163 : tsz Tryd.prog 163 = 1 := by kernel_rfl
theorem tby_163 : tby Tryd.prog 163 = 8 := by kernel_rfl
theorem bld_163 : bldE Tryd.prog 163 = none := by kernel_rfl
theorem zc_163 : zc Tryd.prog 163 = some [.nilfn] := by kernel_rfl
theorem tk_165 : tk Tryd.prog 165 = .ptr 3 := by kernel_rfl
theorem tsz_165 : tsz Tryd.prog 165 = 1 := by kernel_rfl
theorem tby_165 : tby Tryd.prog 165 = 8 := by kernel_rfl
theorem bld_165 : bldE Tryd.prog 165 = none := by kernel_rfl
theorem zc_165 : zc Tryd.prog 165 = some [.nilptr] := by kernel_rfl
theorem tk_166 : tk Tryd.prog 166 = .ptr 37 := by kernel_rfl
theorem tsz_166 : tsz Tryd.prog 166 = 1 := by kernel_rfl
theorem tby_166 : tby Tryd.prog 166 = 8 := by kernel_rfl
theorem bld_166 : bldE Tryd.prog 166 = none := by kernel_rfl
theorem zc_166 : zc Tryd.prog 166 = some [.nilptr] := by kernel_rfl
theorem tk_167 : tk Tryd.prog 167 = .arr 256 5 := by kernel_rfl
theorem tsz_167 : tsz Tryd.prog 167 = 256 := by kernel_rfl
theorem tby_167 : tby Tryd.prog 167 = 256 := by kernel_rfl
theorem bld_167 : bldE Tryd.prog 167 = none := by kernel_rfl
theorem zc_167 : zc Tryd.prog 167 = some [.int .u8 (0), .int .u8 (0), .int .u8 (0), .int .u8 (0), .int .u8 (0), .int .u8 (0), .int .u8 (0), .int .u8 (0), .int .u8 (0), .int .u8 (0), .int .u8 (0), .int .u8 (0), .int .u8 (0), .int .u8 (0), .int .u8 (0), .int .u8 (0), .int .u8 (0), .int .u8 (0), .int .u8 (0), .int .u8 (0), .int .u8 (0), .int .u8 (0), .int .u8 (0), .int .u8 (0), .int .u8 (0), .int .u8 (0), .int .u8 (0), .int .u8 (0), .int .u8 (0), .int .u8 (0), .int .u8 (0), .int .u8 (0), .int .u8 (0), .int .u8 (0), .int .u8 (0), .int .u8 (0), .int .u8 (0), .int .u8 (0), .int .u8 (0), .int .u8 (0), .int .u8 (0), .int .u8 (0), .int .u8 (0), .int .u8 (0), .int .u8 (0), .int .u8 (0), .int .u8 (0), .int .u8 (0), .int .u8 (0), .int .u8 (0), .int .u8 (0), .int .u8 (0), .int .u8 (0), .int .u8 (0), .int .u8 (0), .int .u8 (0), .int .u8 (0), .int .u8 (0), .int .u8 (0), .int .u8 (0), .int .u8 (0), .int .u8 (0), .int .u8 (0), .int .u8 (0), .int .u8 (0), .int .u8 (0), .int .u8 (0), .int .u8 (0), .int .u8 (0), .int .u8 (0), .int .u8 (0), .int .u8 (0), .int .u8 (0), .int .u8 (0), .int .u8 (0), .int .u8 (0), .int .u8 (0), .int .u8 (0), .int .u8 (0), .int .u8 (0), .int .u8 (0), .int .u8 (0), .int .u8 (0), .int .u8 (0), .int .u8 (0), .int .u8 (0), .int .u8 (0), .int .u8 (0), .int .u8 (0), .int .u8 (0), .int .u8 (0), .int .u8 (0), .int .u8 (0), .int .u8 (0), .int .u8 (0), .int .u8 (0), .int .u8 (0), .int .u8 (0), .int .u8 (0), .int .u8 (0), .int .u8 (0), .int .u8 (0), .int .u8 (0), .int .u8 (0), .int .u8 (0), .int .u8 (0), .int .u8 (0), .int .u8 (0), .int .u8 (0), .int .u8 (0), .int .u8 (0), .int .u8 (0), .int .u8 (0), .int .u8 (0), .int .u8 (0), .int .u8 (0), .int .u8 (0), .int .u8 (0), .int .u8 (0), .int .u8 (0), .int .u8 (0), .int .u8 (0), .int .u8 (0), .int .u8 (0), .int .u8 (0), .int .u8 (0), .int .u8 (0), .int .u8 (0), .int .u8 (0), .int .u8 (0), .int .u8 (0), .int .u8 (0), .int .u8 (0), .int .u8 (0), .int .u8 (0), .int .u8 (0), .int .u8 (0), .int .u8 (0), .int .u8 (0), .int .u8 (0), .int .u8 (0), .int .u8 (0), .int .u8 (0), .int .u8 (0), .int .u8 (0), .int .u8 (0), .int .u8 (0), .int .u8 (0), .int .u8 (0), .int .u8 (0), .int .u8 (0), .int .u8 (0), .int .u8 (0), .int .u8 (0), .int .u8 (0), .int .u8 (0), .int .u8 (0), .int .u8 (0), .int .u8 (0), .int .u8 (0), .int .u8 (0), .int .u8 (0), .int .u8 (0), .int .u8 (0), .int .u8 (0), .int .u8 (0), .int .u8 (0), .int .u8 (0), .int .u8 (0), .int .u8 (0), .int .u8 (0), .int .u8 (0), .int .u8 (0), .int .u8 (0), .int .u8 (0), .int .u8 (0), .int .u8 (0), .int .u8 (0), .int .u8 (0), .int .u8 (0), .int .u8 (0), .int .u8 (0), .int .u8 (0), .int .u8 (0), .int .u8 (0), .int .u8 (0), .int .u8 (0), .int .u8 (0), .int .u8 (0), .int .u8 (0), .int .u8 (0), .int .u8 (0), .int .u8 (0), .int .u8 (0), .int .u8 (0), .int .u8 (0), .int .u8 (0), .int .u8 (0), .int .u8 (0), .int .u8 (0), .int .u8 (0), .int .u8 (0), .int .u8 (0), .int .u8 (0), .int .u8 (0), .int .u8 (0), .int .u8 (0), .int .u8 (0), .int .u8 (0), .int .u8 (0), .int .u8 (0), .int .u8 (0), .int .u8 (0), .int .u8 (0), .int .u8 (0), .int .u8 (0), .int .u8 (0), .int .u8 (0), .int .u8 (0), .int .u8 (0), .int .u8 (0), .int .u8 (0), .int .u8 (0), .int .u8 (0), .int .u8 (0), .int .u8 (0), .int .u8 (0), .int .u8 (0), .int .u8 (0), .int .u8 (0), .int .u8 (0), .int .u8 (0), .int .u8 (0), .int .u8 (0), .int .u8 (0), .int .u8 (0), .int .u8 (0), .int .u8 (0), .int .u8 (0), .int .u8 (0), .int .u8 (0), .int .u8 (0), .int .u8 (0), .int .u8 (0), .int .u8 (0), .int .u8 (0), .int .u8 (0), .int .u8 (0), .int .u8 (0), .int .u8 (0), .int .u8 (0), .int .u8 (0), .int .u8 (0), .int .u8 (0), .int .u8 (0), .int .u8 (0)] := by kernel_rfl
theorem tk_169 : tk Tryd.prog 169 = .fn := by kernel_rfl
theorem tsz_169 : tsz Tryd.prog 169 = 1 := by kernel_rfl
theorem tby_169 : tby Tryd.prog 169 = 8 := by kernel_rfl
theorem bld_169 : bldE Tryd.prog 169 = none := by kernel_rfl
theorem zc_169 : zc Tryd.prog 169 = some [.nilfn] := by kernel_rfl
theorem tk_171 : tk Tryd.prog 171 = .other := by kernel_rfl
theorem tsz_171 : tsz Tryd.prog 171 = 1 := by kernel_rfl
theorem tby_171 : tby Tryd.prog 171 = 8 := by kernel_rfl
theorem bld_171 : bldE Tryd.prog 171 = none := by kernel_rfl
theorem zc_171 : zc Tryd.prog 171 = some [.nilptr] := by kernel_rfl
theorem tk_173 : tk Tryd.prog 173 = .sl 175 := by kernel_rfl
theorem tsz_173 : tsz Tryd.prog 173 = 1 := by kernel_rfl
theorem tby_173 : tby Tryd.prog 173 = 24 := by kernel_rfl
theorem bld_173 : bldE Tryd.prog 173 = none := by kernel_rfl
theorem zc_173 : zc Tryd.prog 173 = some [.nilsl] := by kernel_rfl
theorem tk_175 : tk Tryd.prog 175 = .st := by kernel_rfl
theorem tsz_175 : tsz Tryd.prog 175 = 2 := by kernel_rfl
theorem tby_175 : tby Tryd.prog 175 = 16 := by kernel_rfl
theorem bld_175 : bldE Tryd.prog 175 = none := by kernel_rfl
theorem zc_175 : zc Tryd.prog 175 = some [.int .i64 (0), .int .i64 (0)] := by kernel_rfl
theorem plS_175 : plS Tryd.prog 175 = some [(0, 1), (1, 1)] := by kernel_rfl
theorem fld_175_0 : fld Tryd.prog 175 0 = some (0, 3) := by kernel_rfl
theorem fld_175_1 : fld Tryd.prog 175 1 = some (1, 3) := by kernel_rfl
theorem tk_177 : tk Tryd.prog 177 = .ptr 189 := by kernel_rfl
theorem tsz_177 : tsz Tryd.prog 177 = 1 := by kernel_rfl
theorem tby_177 : tby Tryd.prog 177 = 8 := by kernel_rfl
theorem bld_177 : bldE Tryd.prog 177 = none := by kernel_rfl
theorem zc_177 : zc Tryd.prog 177 = some [.nilptr] := by kernel_rfl
theorem tk_180 : tk Tryd.prog 180 = .arr 256 4 := by kernel_rfl
theorem tsz_180 : tsz Tryd.prog 180 = 256 := by kernel_rfl
theorem tby_180 : tby Tryd.prog 180 = 256 := by kernel_rfl
theorem bld_180 : bldE Tryd.prog 180 = none := by kernel_rfl
theorem zc_180 : zc Tryd.prog 180 = some [.bool false, .bool false, .bool false, .bool false, .bool false, .bool false, .bool false, .bool false, .bool false, .bool false, .bool false, .bool false, .bool false, .bool false, .bool false, .bool false, .bool false, .bool false, .bool false, .bool false, .bool false, .bool false, .bool false, .bool false, .bool false, .bool false, .bool false, .bool false, .bool false, .bool false, .bool false, .bool false, .bool false, .bool false, .bool false, .bool false, .bool false, .bool false, .bool false, .bool false, .bool false, .bool false, .bool false, .bool false, .bool false, .bool false, .bool false, .bool false, .bool false, .bool false, .bool false, .bool false, .bool false, .bool false, .bool false, .bool false, .bool false, .bool false, .bool false, .bool false, .bool false, .bool false, .bool false, .bool false, .bool false, .bool false, .bool false, .bool false, .bool false, .bool false, .bool false, .bool false, .bool false, .bool false, .bool false, .bool false, .bool false, .bool false, .bool false, .bool false, .bool false, .bool false, .bool false, .bool false, .bool false, .bool false, .bool false, .bool false, .bool false, .bool false, .bool false, .bool false, .bool false, .bool false, .bool false, .bool false, .bool false, .bool false, .bool false, .bool false, .bool false, .bool false, .bool false, .bool false, .bool false, .bool false, .bool false, .bool false, .bool false, .bool false, .bool false, .bool false, .bool false, .bool false, .bool false, .bool false, .bool false, .bool false, .bool false, .bool false, .bool false, .bool false, .bool false, .bool false, .bool false, .bool false, .bool false, .bool false, .bool false, .bool false, .bool false, .bool false, .bool false, .bool false, .bool false, .bool false, .bool false, .bool false, .bool false, .bool false, .bool false, .bool false, .bool false, .bool false, .bool false, .bool false, .bool false, .bool false, .bool false, .bool false, .bool false, .bool false, .bool false, .bool false, .bool false, .bool false, .bool false, .bool false, .bool false, .bool false, .bool false, .bool false, .bool false, .bool false, .bool false, .bool false, .bool false, .bool false, .bool false, .bool false, .bool false, .bool false, .bool false, .bool false, .bool false, .bool false, .bool false, .bool false, .bool false, .bool false, .bool false, .bool false, .bool false, .bool false, .bool false, .bool false, .bool false, .bool false, .bool false, .bool false, .bool false, .bool false, .bool false, .bool false, .bool false, .bool false, .bool false, .bool false, .bool false, .bool false, .bool false, .bool false, .bool false, .bool false, .bool false, .bool false, .bool false, .bool false, .bool false, .bool false, .bool false, .bool false, .bool false, .bool false, .bool false, .bool false, .bool false, .bool false, .bool false, .bool false, .bool false, .bool false, .bool false, .bool false, .bool false, .bool false, .bool false, .bool false, .bool false, .bool false, .bool false, .bool false, .bool false, .bool false, .bool false, .bool false, .bool false, .bool false, .bool false, .bool false, .bool false, .bool false, .bool false, .bool false, .bool false, .bool false, .bool false, .bool false, .bool false, .bool false, .bool false, .bool false, .bool false, .bool false, .bool false, .bool false] := by kernel_rfl
theorem tk_184 : tk Tryd.prog 184 = .arr 6 3 := by kernel_rfl
theorem tsz_184 : tsz Tryd.prog 184 = 6 := by kernel_rfl
theorem tby_184 : tby Tryd.prog 184 = 48 := by kernel_rfl
theorem bld_184 : bldE Tryd.prog 184 = none := by kernel_rfl
theorem zc_184 : zc Tryd.prog 184 = some [.int .i64 (0), .int .i64 (0), .int .i64 (0), .int .i64 (0), .int .i64 (0), .int .i64 (0)] := by kernel_rfl
theorem tk_185 : tk Tryd.prog 185 = .arr 26 117 := by kernel_rfl
theorem tsz_185 : tsz Tryd.prog 185 = 78 := by kernel_rfl
theorem tby_185 : tby Tryd.prog 185 = 1248 := by kernel_rfl
theorem bld_185 : bldE Tryd.prog 185 = none := by kernel_rfl
theorem zc_185 : zc Tryd.prog 185 = some [.str [], .str [], .str [], .str [], .str [], .str [], .str [], .str [], .str [], .str [], .str [], .str [], .str [], .str [], .str [], .str [], .str [], .str [], .str [], .str [], .str [], .str [], .str [], .str [], .str [], .str [], .str [], .str [], .str [], .str [], .str [], .str [], .str [], .str [], .str [], .str [], .str [], .str [], .str [], .str [], .str [], .str [], .str [], .str [], .str [], .str [], .str [], .str [], .str [], .str [], .str [], .str [], .str [], .str [], .str [], .str [], .str [], .str [], .str [], .str [], .str [], .str [], .str [], .str [], .str [], .str [], .str [], .str [], .str [], .str [], .str [], .str [], .str [], .str [], .str [], .str [], .str [], .str []] := by kernel_rfl
theorem tk_186 : tk Tryd.prog 186 = .sl 192 := by kernel_rfl
theorem tsz_186 : tsz Tryd.prog 186 = 1 := by kernel_rfl
theorem tby_186 : tby Tryd.prog 186 = 24 := by kernel_rfl
theorem bld_186 : bldE Tryd.prog 186 = none := by kernel_rfl
theorem zc_186 : zc Tryd.prog 186 = some [.nilsl] := by kernel_rfl
theorem tk_187 : tk Tryd.prog 187 = .sl 195 := by kernel_rfl
theorem tsz_187 : tsz Tryd.prog 187 = 1 := by kernel_rfl
theorem tby_187 : tby Tryd.prog 187 = 24 := by kernel_rfl
theorem bld_187 : bldE Tryd.prog 187 = none := by kernel_rfl
theorem zc_187 : zc Tryd.prog 187 = some [.nilsl] := by kernel_rfl
theorem tk_189 : tk Tryd.prog 189 = .st := by kernel_rfl
theorem tsz_189 : tsz Tryd.prog 189 = 3 := by kernel_rfl
theorem tby_189 : tby Tryd.prog 189 = 56 := by kernel_rfl
theorem bld_189 : bldE Tryd.prog 189 = none := by kernel_rfl
theorem zc_189 : zc Tryd.prog 189 = some [.nilsl, .nilsl, .int .i64 (0)] := by kernel_rfl
theorem plS_189 : plS Tryd.prog 189 = some [(0, 1), (1, 1), (2, 1)] := by kernel_rfl
theorem fld_189_0 : fld Tryd.prog 189 0 = some (0, 186) := by kernel_rfl
theorem fld_189_1 : fld Tryd.prog 189 1 = some (1, 187) := by kernel_rfl
theorem fld_189_2 : fld Tryd.prog 189 2 = some (2, 3) := by kernel_rfl
theorem tk_190 : tk Tryd.prog 190 = .int .u16 := by kernel_rfl
theorem tsz_190 : tsz Tryd.prog 190 = 1 := by kernel_rfl
theorem tby_190 : tby Tryd.prog 190 = 2 := by kernel_rfl
theorem bld_190 : bldE Tryd.prog 190 = none := by kernel_rfl
theorem zc_190 : zc Tryd.prog 190 = some [.int .u16 (0)] := by kernel_rfl
theorem tk_192 : tk Tryd.prog 192 = .st := by kernel_rfl
theorem tsz_192 : tsz Tryd.prog 192 = 3 := by kernel_rfl
theorem tby_192 : tby Tryd.prog 192 = 6 := by kernel_rfl
theorem bld_192 : bldE Tryd.prog 192 = none := by kernel_rfl
theorem zc_192 : zc Tryd.prog 192 = some [.int .u16 (0), .int .u16 (0), .int .u16 (0)] := by kernel_rfl
theorem plS_192 : plS Tryd.prog 192 = some [(0, 1), (1, 1), (2, 1)] := by kernel_rfl
theorem fld_192_0 : fld Tryd.prog 192 0 = some (0, 190) := by kernel_rfl
theorem fld_192_1 : fld Tryd.prog 192 1 = some (1, 190) := by kernel_rfl
theorem fld_192_2 : fld Tryd.prog 192 2 = some (2, 190) := by kernel_rfl
theorem tk_195 : tk Tryd.prog 195 = .st := by kernel_rfl
theorem tsz_195 : tsz Tryd.prog 195 = 3 := by kernel_rfl
theorem tby_195 : tby Tryd.prog 195 = 12 := by kernel_rfl
theorem bld_195 : bldE Tryd.prog 195 = none := by kernel_rfl
theorem zc_195 : zc Tryd.prog 195 = some [.int .u32 (0), .int .u32 (0), .int .u32 (0)] := by kernel_rfl
theorem plS_195 : plS Tryd.prog 195 = some [(0, 1), (1, 1), (2, 1)] := by kernel_rfl
theorem fld_195_0 : fld Tryd.prog 195 0 = some (0, 51) := by kernel_rfl
theorem fld_195_1 : fld Tryd.prog 195 1 = some (1, 51) := by kernel_rfl
theorem fld_195_2 : fld Tryd.prog 195 2 = some (2, 51) := by kernel_rfl
attribute [push_cast] tk_1 tsz_1 tby_1 bld_1 zc_1 tk_2 tsz_2 tby_2 bld_2 zc_2 tk_3 tsz_3 tby_3 bld_3 zc_3 zvO_3 tk_4 tsz_4 tby_4 bld_4 zc_4 tk_5 tsz_5 tby_5 bld_5 zc_5 tk_9 tsz_9 tby_9 bld_9 zc_9 tk_20 tsz_20 tby_20 bld_20 zc_20 tk_21 tsz_21 tby_21 bld_21 zc_21 tk_25 tsz_25 tby_25 bld_25 zc_25 tk_26 tsz_26 tby_26 bld_26 zc_26 tk_27 tsz_27 tby_27 bld_27 zc_27 tk_28 tsz_28 tby_28 bld_28 zc_28 tk_29 tsz_29 tby_29 bld_29 zc_29 tk_31 tsz_31 tby_31 bld_31 zc_31 plS_31 fld_31_0 fld_31_1 tk_33 tsz_33 tby_33 bld_33 zc_33 tk_34 tsz_34 tby_34 bld_34 zc_34 tk_36 tsz_36 tby_36 bld_36 zc_36 plS_36 fld_36_0 fld_36_1 fld_36_2 fld_36_3 fld_36_4 fld_36_5 fld_36_6 fld_36_7 fld_36_8 fld_36_9 tk_37 tsz_37 tby_37 bld_37 zc_37 tk_42 tsz_42 tby_42 bld_42 zc_42 tk_44 tsz_44 tby_44 bld_44 zc_44 plS_44 fld_44_0 fld_44_1 fld_44_2 fld_44_3 tk_51 tsz_51 tby_51 bld_51 zc_51 tk_52 tsz_52 tby_52 bld_52 zc_52 tk_55 tsz_55 tby_55 bld_55 zc_55 tk_61 tsz_61 tby_61 bld_61 zc_61 tk_64 tsz_64 tby_64 bld_64 zc_64 plS_64 fld_64_0 fld_64_1 fld_64_2 fld_64_3 fld_64_4 fld_64_5 tk_67 tsz_67 tby_67 bld_67 zc_67 plS_67 fld_67_0 fld_67_1 fld_67_2 fld_67_3 tk_77 tsz_77 tby_77 bld_77 zc_77 tk_78 tsz_78 tby_78 bld_78 zc_78 tk_80 tsz_80 tby_80 bld_80 zc_80 plS_80 fld_80_0 fld_80_1 fld_80_2 fld_80_3 fld_80_4 tk_83 tsz_83 tby_83 bld_83 zc_83 plS_83 fld_83_0 fld_83_1 fld_83_2 tk_100 tsz_100 tby_100 bld_100 zc_100 plS_100 fld_100_0 fld_100_1 fld_100_2 tk_111 tsz_111 tby_111 bld_111 zc_111 plS_111 fld_111_0 fld_111_1 fld_111_2 tk_117 tsz_117 tby_117 bld_117 zc_117 plS_117 fld_117_0 fld_117_1 fld_117_2 tk_123 tsz_123 tby_123 bld_123 zc_123 tk_125 tsz_125 tby_125 bld_125 zc_125 plS_125 fld_125_0 fld_125_1 tk_135 tsz_135 tby_135 bld_135 zc_135 plS_135 fld_135_0 fld_135_1 fld_135_2 tk_140 tsz_140 tby_140 bld_140 zc_140 tk_150 tsz_150 tby_150 bld_150 zc_150 tk_152 tsz_152 tby_152 bld_152 zc_152 tk_159 tsz_159 tby_159 bld_159 zc_159 tk_160 tsz_160 tby_160 bld_160 zc_160 tk_161 tsz_161 tby_161 bld_161 zc_161 tk_163 tsz_163 tby_163 bld_163 zc_163 tk_165 tsz_165 tby_165 bld_165 zc_165 tk_166 tsz_166 tby_166 bld_166 zc_166 tk_167 tsz_167 tby_167 bld_167 zc_167 tk_169 tsz_169 tby_169 bld_169 zc_169 tk_171 tsz_171 tby_171 bld_171 zc_171 tk_173 tsz_173 tby_173 bld_173 zc_173 tk_175 tsz_175 tby_175 bld_175 zc_175 plS_175 fld_175_0 fld_175_1 tk_177 tsz_177 tby_177 bld_177 zc_177 tk_180 tsz_180 tby_180 bld_180 zc_180 tk_184 tsz_184 tby_184 bld_184 zc_184 tk_185 tsz_185 tby_185 bld_185 zc_185 tk_186 tsz_186 tby_186 bld_186 zc_186 tk_187 tsz_187 tby_187 bld_187 zc_187 tk_189 tsz_189 tby_189 bld_189 zc_189 plS_189 fld_189_0 fld_189_1 fld_189_2 tk_190 tsz_190 tby_190 bld_190 zc_190 tk_192 tsz_192 tby_192 bld_192 zc_192 plS_192 fld_192_0 fld_192_1 fld_192_2 tk_195 tsz_195 tby_195 bld_195 zc_195 plS_195 fld_195_0 fld_195_1 fld_195_2
end Go.Proofs.Sh
