/- The types of this program, as the operations ask for them. -/
import Derived.Test.YtnaldfmohncbhaaDoorShShelf
import Derived.Test.YtnaldfmohncbhaaDoorPvY
set_option maxRecDepth 100000
namespace Go.Proofs.Sh
open Go.Pv
theorem tk_2 : tk Tryd.prog 2 = .int .i64 := by kernel_rfl
theorem tsz_2 : tsz Tryd.prog 2 = 1 := by kernel_rfl
theorem tby_2 : tby Tryd.prog 2 = 8 := by kernel_rfl
theorem bld_2 : bldE Tryd.prog 2 = none := by kernel_rfl
theorem zc_2 : zc Tryd.prog 2 = some [.int .i64 (0)] := by kernel_rfl
theorem tk_3 : tk Tryd.prog 3 = .int .i64 := by kernel_rfl
theorem tsz_3 : tsz Tryd.prog 3 = 1 := by kernel_rfl
theorem tby_3 : tby Tryd.prog 3 = 8 := by kernel_rfl
theorem bld_3 : bldE Tryd.prog 3 = none := by kernel_rfl
theorem zc_3 : zc Tryd.prog 3 = some [.int .i64 (0)] := by kernel_rfl
theorem zvO_3 : zvO Tryd.prog 3 = some (.int .i64 (0)) := by kernel_rfl
theorem tk_4 : tk Tryd.prog 4 = .bool := by kernel_rfl
theorem tsz_4 : tsz Tryd.prog 4 = 1 := by kernel_rfl
theorem tby_4 : tby Tryd.prog 4 = 1 := by kernel_rfl
theorem bld_4 : bldE Tryd.prog 4 = none := by kernel_rfl
theorem zc_4 : zc Tryd.prog 4 = some [.bool false] := by kernel_rfl
theorem tk_5 : tk Tryd.prog 5 = .int .u8 := by kernel_rfl
theorem tsz_5 : tsz Tryd.prog 5 = 1 := by kernel_rfl
theorem tby_5 : tby Tryd.prog 5 = 1 := by kernel_rfl
theorem bld_5 : bldE Tryd.prog 5 = none := by kernel_rfl
theorem zc_5 : zc Tryd.prog 5 = some [.int .u8 (0)] := by kernel_rfl
theorem tk_9 : tk Tryd.prog 9 = .str := by kernel_rfl
theorem tsz_9 : tsz Tryd.prog 9 = 1 := by kernel_rfl
theorem tby_9 : tby Tryd.prog 9 = 16 := by kernel_rfl
theorem bld_9 : bldE Tryd.prog 9 = none := by kernel_rfl
theorem zc_9 : zc Tryd.prog 9 = some [.str []] := by kernel_rfl
theorem tk_21 : tk Tryd.prog 21 = .int .i32 := by kernel_rfl
theorem tsz_21 : tsz Tryd.prog 21 = 1 := by kernel_rfl
theorem tby_21 : tby Tryd.prog 21 = 4 := by kernel_rfl
theorem bld_21 : bldE Tryd.prog 21 = none := by kernel_rfl
theorem zc_21 : zc Tryd.prog 21 = some [.int .i32 (0)] := by kernel_rfl
theorem tk_22 : tk Tryd.prog 22 = .sl 81 := by kernel_rfl
theorem tsz_22 : tsz Tryd.prog 22 = 1 := by kernel_rfl
theorem tby_22 : tby Tryd.prog 22 = 24 := by kernel_rfl
theorem bld_22 : bldE Tryd.prog 22 = none := by kernel_rfl
theorem zc_22 : zc Tryd.prog 22 = some [.nilsl] := by kernel_rfl
theorem tk_23 : tk Tryd.prog 23 = .sl 83 := by kernel_rfl
theorem tsz_23 : tsz Tryd.prog 23 = 1 := by kernel_rfl
theorem tby_23 : tby Tryd.prog 23 = 24 := by kernel_rfl
theorem bld_23 : bldE Tryd.prog 23 = none := by kernel_rfl
theorem zc_23 : zc Tryd.prog 23 = some [.nilsl] := by kernel_rfl
theorem tk_24 : tk Tryd.prog 24 = .int .u32 := by kernel_rfl
theorem tsz_24 : tsz Tryd.prog 24 = 1 := by kernel_rfl
theorem tby_24 : tby Tryd.prog 24 = 4 := by kernel_rfl
theorem bld_24 : bldE Tryd.prog 24 = none := by kernel_rfl
theorem zc_24 : zc Tryd.prog 24 = some [.int .u32 (0)] := by kernel_rfl
theorem tk_25 : tk Tryd.prog 25 = .int .u32 := by kernel_rfl
theorem tsz_25 : tsz Tryd.prog 25 = 1 := by kernel_rfl
theorem tby_25 : tby Tryd.prog 25 = 4 := by kernel_rfl
theorem bld_25 : bldE Tryd.prog 25 = none := by kernel_rfl
theorem zc_25 : zc Tryd.prog 25 = some [.int .u32 (0)] := by kernel_rfl
theorem zvO_25 : zvO Tryd.prog 25 = some (.int .u32 (0)) := by kernel_rfl
theorem tk_26 : tk Tryd.prog 26 = .map 25 30 := by kernel_rfl
theorem tsz_26 : tsz Tryd.prog 26 = 1 := by kernel_rfl
theorem tby_26 : tby Tryd.prog 26 = 8 := by kernel_rfl
theorem bld_26 : bldE Tryd.prog 26 = none := by kernel_rfl
theorem zc_26 : zc Tryd.prog 26 = some [.nilm] := by kernel_rfl
theorem tk_27 : tk Tryd.prog 27 = .map 25 25 := by kernel_rfl
theorem tsz_27 : tsz Tryd.prog 27 = 1 := by kernel_rfl
theorem tby_27 : tby Tryd.prog 27 = 8 := by kernel_rfl
theorem bld_27 : bldE Tryd.prog 27 = none := by kernel_rfl
theorem zc_27 : zc Tryd.prog 27 = some [.nilm] := by kernel_rfl
theorem tk_29 : tk Tryd.prog 29 = .st := by kernel_rfl
theorem tsz_29 : tsz Tryd.prog 29 = 2 := by kernel_rfl
theorem tby_29 : tby Tryd.prog 29 = 16 := by kernel_rfl
theorem bld_29 : bldE Tryd.prog 29 = none := by kernel_rfl
theorem zc_29 : zc Tryd.prog 29 = some [.nilm, .nilm] := by kernel_rfl
theorem plS_29 : plS Tryd.prog 29 = some [(0, 1), (1, 1)] := by kernel_rfl
theorem fld_29_0 : fld Tryd.prog 29 0 = some (0, 26) := by kernel_rfl
theorem fld_29_1 : fld Tryd.prog 29 1 = some (1, 27) := by kernel_rfl
theorem tk_30 : tk Tryd.prog 30 = .sl 25 := by kernel_rfl
theorem tsz_30 : tsz Tryd.prog 30 = 1 := by kernel_rfl
theorem tby_30 : tby Tryd.prog 30 = 24 := by kernel_rfl
theorem bld_30 : bldE Tryd.prog 30 = none := by kernel_rfl
theorem zc_30 : zc Tryd.prog 30 = some [.nilsl] := by kernel_rfl
theorem zvO_30 : zvO Tryd.prog 30 = some (.nilsl) := by kernel_rfl
theorem tk_31 : tk Tryd.prog 31 = .map 87 3 := by kernel_rfl
theorem tsz_31 : tsz Tryd.prog 31 = 1 := by kernel_rfl
theorem tby_31 : tby Tryd.prog 31 = 8 := by kernel_rfl
theorem bld_31 : bldE Tryd.prog 31 = none := by kernel_rfl
theorem zc_31 : zc Tryd.prog 31 = some [.nilm] := by kernel_rfl
theorem tk_32 : tk Tryd.prog 32 = .map 25 3 := by kernel_rfl
theorem tsz_32 : tsz Tryd.prog 32 = 1 := by kernel_rfl
theorem tby_32 : tby Tryd.prog 32 = 8 := by kernel_rfl
theorem bld_32 : bldE Tryd.prog 32 = none := by kernel_rfl
theorem zc_32 : zc Tryd.prog 32 = some [.nilm] := by kernel_rfl
theorem tk_34 : tk Tryd.prog 34 = .st := by kernel_rfl
theorem tsz_34 : tsz Tryd.prog 34 = 2 := by kernel_rfl
theorem tby_34 : tby Tryd.prog 34 = 16 := by kernel_rfl
theorem bld_34 : bldE Tryd.prog 34 = none := by kernel_rfl
theorem zc_34 : zc Tryd.prog 34 = some [.nilm, .nilm] := by kernel_rfl
theorem plS_34 : plS Tryd.prog 34 = some [(0, 1), (1, 1)] := by kernel_rfl
theorem fld_34_0 : fld Tryd.prog 34 0 = some (0, 31) := by kernel_rfl
theorem fld_34_1 : fld Tryd.prog 34 1 = some (1, 32) := by kernel_rfl
theorem tk_39 : tk Tryd.prog 39 = .st := by kernel_rfl
theorem tsz_39 : tsz Tryd.prog 39 = 5 := by kernel_rfl
theorem tby_39 : tby Tryd.prog 39 = 5 := by kernel_rfl
theorem bld_39 : bldE Tryd.prog 39 = none := by kernel_rfl
theorem zc_39 : zc Tryd.prog 39 = some [.bool false, .bool false, .bool false, .bool false, .bool false] := by kernel_rfl
theorem plS_39 : plS Tryd.prog 39 = some [(0, 1), (1, 1), (2, 1), (3, 1), (4, 1)] := by kernel_rfl
theorem fld_39_0 : fld Tryd.prog 39 0 = some (0, 4) := by kernel_rfl
theorem fld_39_1 : fld Tryd.prog 39 1 = some (1, 4) := by kernel_rfl
theorem fld_39_2 : fld Tryd.prog 39 2 = some (2, 4) := by kernel_rfl
theorem fld_39_3 : fld Tryd.prog 39 3 = some (3, 4) := by kernel_rfl
theorem fld_39_4 : fld Tryd.prog 39 4 = some (4, 4) := by kernel_rfl
theorem tk_41 : tk Tryd.prog 41 = .map 60 96 := by kernel_rfl
theorem tsz_41 : tsz Tryd.prog 41 = 1 := by kernel_rfl
theorem tby_41 : tby Tryd.prog 41 = 8 := by kernel_rfl
theorem bld_41 : bldE Tryd.prog 41 = none := by kernel_rfl
theorem zc_41 : zc Tryd.prog 41 = some [.nilm] := by kernel_rfl
theorem tk_42 : tk Tryd.prog 42 = .sl 90 := by kernel_rfl
theorem tsz_42 : tsz Tryd.prog 42 = 1 := by kernel_rfl
theorem tby_42 : tby Tryd.prog 42 = 24 := by kernel_rfl
theorem bld_42 : bldE Tryd.prog 42 = none := by kernel_rfl
theorem zc_42 : zc Tryd.prog 42 = some [.nilsl] := by kernel_rfl
theorem tk_44 : tk Tryd.prog 44 = .st := by kernel_rfl
theorem tsz_44 : tsz Tryd.prog 44 = 2 := by kernel_rfl
theorem tby_44 : tby Tryd.prog 44 = 32 := by kernel_rfl
theorem bld_44 : bldE Tryd.prog 44 = none := by kernel_rfl
theorem zc_44 : zc Tryd.prog 44 = some [.nilm, .nilsl] := by kernel_rfl
theorem plS_44 : plS Tryd.prog 44 = some [(0, 1), (1, 1)] := by kernel_rfl
theorem fld_44_0 : fld Tryd.prog 44 0 = some (0, 41) := by kernel_rfl
theorem fld_44_1 : fld Tryd.prog 44 1 = some (1, 42) := by kernel_rfl
theorem tk_45 : tk Tryd.prog 45 = .int .u64 := by kernel_rfl
theorem tsz_45 : tsz Tryd.prog 45 = 1 := by kernel_rfl
theorem tby_45 : tby Tryd.prog 45 = 8 := by kernel_rfl
theorem bld_45 : bldE Tryd.prog 45 = none := by kernel_rfl
theorem zc_45 : zc Tryd.prog 45 = some [.int .u64 (0)] := by kernel_rfl
theorem tk_56 : tk Tryd.prog 56 = .st := by kernel_rfl
theorem tsz_56 : tsz Tryd.prog 56 = 5 := by kernel_rfl
theorem tby_56 : tby Tryd.prog 56 = 5 := by kernel_rfl
theorem bld_56 : bldE Tryd.prog 56 = none := by kernel_rfl
theorem zc_56 : zc Tryd.prog 56 = some [.bool false, .bool false, .bool false, .bool false, .bool false] := by kernel_rfl
theorem plS_56 : plS Tryd.prog 56 = some [(0, 1), (1, 1), (2, 1), (3, 1), (4, 1)] := by kernel_rfl
theorem fld_56_0 : fld Tryd.prog 56 0 = some (0, 4) := by kernel_rfl
theorem fld_56_1 : fld Tryd.prog 56 1 = some (1, 4) := by kernel_rfl
theorem fld_56_2 : fld Tryd.prog 56 2 = some (2, 4) := by kernel_rfl
theorem fld_56_3 : fld Tryd.prog 56 3 = some (3, 4) := by kernel_rfl
theorem fld_56_4 : fld Tryd.prog 56 4 = some (4, 4) := by kernel_rfl
theorem tk_57 : tk Tryd.prog 57 = .sl 3 := by kernel_rfl
theorem tsz_57 : tsz Tryd.prog 57 = 1 := by kernel_rfl
theorem tby_57 : tby Tryd.prog 57 = 24 := by kernel_rfl
theorem bld_57 : bldE Tryd.prog 57 = none := by kernel_rfl
theorem zc_57 : zc Tryd.prog 57 = some [.nilsl] := by kernel_rfl
theorem tk_60 : tk Tryd.prog 60 = .int .u32 := by kernel_rfl
theorem tsz_60 : tsz Tryd.prog 60 = 1 := by kernel_rfl
theorem tby_60 : tby Tryd.prog 60 = 4 := by kernel_rfl
theorem bld_60 : bldE Tryd.prog 60 = none := by kernel_rfl
theorem zc_60 : zc Tryd.prog 60 = some [.int .u32 (0)] := by kernel_rfl
theorem tk_61 : tk Tryd.prog 61 = .int .i64 := by kernel_rfl
theorem tsz_61 : tsz Tryd.prog 61 = 1 := by kernel_rfl
theorem tby_61 : tby Tryd.prog 61 = 8 := by kernel_rfl
theorem bld_61 : bldE Tryd.prog 61 = none := by kernel_rfl
theorem zc_61 : zc Tryd.prog 61 = some [.int .i64 (0)] := by kernel_rfl
theorem tk_65 : tk Tryd.prog 65 = .sl 101 := by kernel_rfl
theorem tsz_65 : tsz Tryd.prog 65 = 1 := by kernel_rfl
theorem tby_65 : tby Tryd.prog 65 = 24 := by kernel_rfl
theorem bld_65 : bldE Tryd.prog 65 = none := by kernel_rfl
theorem zc_65 : zc Tryd.prog 65 = some [.nilsl] := by kernel_rfl
theorem tk_69 : tk Tryd.prog 69 = .st := by kernel_rfl
theorem tsz_69 : tsz Tryd.prog 69 = 3 := by kernel_rfl
theorem tby_69 : tby Tryd.prog 69 = 16 := by kernel_rfl
theorem bld_69 : bldE Tryd.prog 69 = none := by kernel_rfl
theorem zc_69 : zc Tryd.prog 69 = some [.int .i64 (0), .int .u32 (0), .int .u32 (0)] := by kernel_rfl
theorem plS_69 : plS Tryd.prog 69 = some [(0, 1), (1, 1), (2, 1)] := by kernel_rfl
theorem fld_69_0 : fld Tryd.prog 69 0 = some (0, 3) := by kernel_rfl
theorem fld_69_1 : fld Tryd.prog 69 1 = some (1, 25) := by kernel_rfl
theorem fld_69_2 : fld Tryd.prog 69 2 = some (2, 24) := by kernel_rfl
theorem tk_73 : tk Tryd.prog 73 = .st := by kernel_rfl
theorem tsz_73 : tsz Tryd.prog 73 = 6 := by kernel_rfl
theorem tby_73 : tby Tryd.prog 73 = 32 := by kernel_rfl
theorem bld_73 : bldE Tryd.prog 73 = none := by kernel_rfl
theorem zc_73 : zc Tryd.prog 73 = some [.int .i64 (0), .int .u32 (0), .int .u32 (0), .int .u32 (0), .int .u32 (0), .int .u32 (0)] := by kernel_rfl
theorem plS_73 : plS Tryd.prog 73 = some [(0, 1), (1, 1), (2, 1), (3, 1), (4, 1), (5, 1)] := by kernel_rfl
theorem fld_73_0 : fld Tryd.prog 73 0 = some (0, 3) := by kernel_rfl
theorem fld_73_1 : fld Tryd.prog 73 1 = some (1, 25) := by kernel_rfl
theorem fld_73_2 : fld Tryd.prog 73 2 = some (2, 60) := by kernel_rfl
theorem fld_73_3 : fld Tryd.prog 73 3 = some (3, 60) := by kernel_rfl
theorem fld_73_4 : fld Tryd.prog 73 4 = some (4, 60) := by kernel_rfl
theorem fld_73_5 : fld Tryd.prog 73 5 = some (5, 24) := by kernel_rfl
theorem tk_76 : tk Tryd.prog 76 = .st := by kernel_rfl
theorem tsz_76 : tsz Tryd.prog 76 = 3 := by kernel_rfl
theorem tby_76 : tby Tryd.prog 76 = 40 := by kernel_rfl
theorem bld_76 : bldE Tryd.prog 76 = none := by kernel_rfl
theorem zc_76 : zc Tryd.prog 76 = some [.nilsl, .bool false, .int .i64 (0)] := by kernel_rfl
theorem plS_76 : plS Tryd.prog 76 = some [(0, 1), (1, 1), (2, 1)] := by kernel_rfl
theorem fld_76_0 : fld Tryd.prog 76 0 = some (0, 57) := by kernel_rfl
theorem fld_76_1 : fld Tryd.prog 76 1 = some (1, 4) := by kernel_rfl
theorem fld_76_2 : fld Tryd.prog 76 2 = some (2, 3) := by kernel_rfl
theorem tk_81 : tk Tryd.prog 81 = .st := by kernel_rfl
theorem tsz_81 : tsz Tryd.prog 81 = 2 := by kernel_rfl
theorem tby_81 : tby Tryd.prog 81 = 2 := by kernel_rfl
theorem bld_81 : bldE Tryd.prog 81 = none := by kernel_rfl
theorem zc_81 : zc Tryd.prog 81 = some [.int .u8 (0), .int .u8 (0)] := by kernel_rfl
theorem plS_81 : plS Tryd.prog 81 = some [(0, 1), (1, 1)] := by kernel_rfl
theorem fld_81_0 : fld Tryd.prog 81 0 = some (0, 5) := by kernel_rfl
theorem fld_81_1 : fld Tryd.prog 81 1 = some (1, 5) := by kernel_rfl
theorem tk_83 : tk Tryd.prog 83 = .st := by kernel_rfl
theorem tsz_83 : tsz Tryd.prog 83 = 3 := by kernel_rfl
theorem tby_83 : tby Tryd.prog 83 = 16 := by kernel_rfl
theorem bld_83 : bldE Tryd.prog 83 = none := by kernel_rfl
theorem zc_83 : zc Tryd.prog 83 = some [.int .u8 (0), .int .u8 (0), .int .i64 (0)] := by kernel_rfl
theorem plS_83 : plS Tryd.prog 83 = some [(0, 1), (1, 1), (2, 1)] := by kernel_rfl
theorem fld_83_0 : fld Tryd.prog 83 0 = some (0, 5) := by kernel_rfl
theorem fld_83_1 : fld Tryd.prog 83 1 = some (1, 5) := by kernel_rfl
theorem fld_83_2 : fld Tryd.prog 83 2 = some (2, 3) := by kernel_rfl
theorem tk_87 : tk Tryd.prog 87 = .st := by kernel_rfl
theorem tsz_87 : tsz Tryd.prog 87 = 2 := by kernel_rfl
theorem tby_87 : tby Tryd.prog 87 = 16 := by kernel_rfl
theorem bld_87 : bldE Tryd.prog 87 = none := by kernel_rfl
theorem zc_87 : zc Tryd.prog 87 = some [.int .i64 (0), .int .u32 (0)] := by kernel_rfl
theorem plS_87 : plS Tryd.prog 87 = some [(0, 1), (1, 1)] := by kernel_rfl
theorem fld_87_0 : fld Tryd.prog 87 0 = some (0, 3) := by kernel_rfl
theorem fld_87_1 : fld Tryd.prog 87 1 = some (1, 25) := by kernel_rfl
theorem tk_90 : tk Tryd.prog 90 = .st := by kernel_rfl
theorem tsz_90 : tsz Tryd.prog 90 = 8 := by kernel_rfl
theorem tby_90 : tby Tryd.prog 90 = 48 := by kernel_rfl
theorem bld_90 : bldE Tryd.prog 90 = none := by kernel_rfl
theorem zc_90 : zc Tryd.prog 90 = some [.int .i64 (0), .int .u32 (0), .int .u32 (0), .int .u32 (0), .int .u32 (0), .int .u32 (0), .int .i64 (0), .int .u32 (0)] := by kernel_rfl
theorem plS_90 : plS Tryd.prog 90 = some [(0, 6), (6, 1), (7, 1)] := by kernel_rfl
theorem fld_90_0 : fld Tryd.prog 90 0 = some (0, 73) := by kernel_rfl
theorem fld_90_1 : fld Tryd.prog 90 1 = some (6, 3) := by kernel_rfl
theorem fld_90_2 : fld Tryd.prog 90 2 = some (7, 25) := by kernel_rfl
theorem tk_91 : tk Tryd.prog 91 = .fn := by kernel_rfl
theorem tsz_91 : tsz Tryd.prog 91 = 1 := by kernel_rfl
theorem tby_91 : tby Tryd.prog 91 = 8 := by kernel_rfl
theorem bld_91 : bldE Tryd.prog 91 = none := by kernel_rfl
theorem zc_91 : zc Tryd.prog 91 = some [.nilfn] := by kernel_rfl
theorem tk_96 : tk Tryd.prog 96 = .st := by kernel_rfl
theorem tsz_96 : tsz Tryd.prog 96 = 5 := by kernel_rfl
theorem tby_96 : tby Tryd.prog 96 = 24 := by kernel_rfl
theorem bld_96 : bldE Tryd.prog 96 = none := by kernel_rfl
theorem zc_96 : zc Tryd.prog 96 = some [.int .i64 (0), .int .u32 (0), .int .u32 (0), .bool false, .int .u32 (0)] := by kernel_rfl
theorem zvO_96 : zvO Tryd.prog 96 = some (.agg [.int .i64 (0), .int .u32 (0), .int .u32 (0), .bool false, .int .u32 (0)]) := by kernel_rfl
theorem plS_96 : plS Tryd.prog 96 = some [(0, 3), (3, 1), (4, 1)] := by kernel_rfl
theorem fld_96_0 : fld Tryd.prog 96 0 = some (0, 69) := by kernel_rfl
theorem fld_96_1 : fld Tryd.prog 96 1 = some (3, 4) := by kernel_rfl
theorem fld_96_2 : fld Tryd.prog 96 2 = some (4, 24) := by kernel_rfl
theorem tk_97 : tk Tryd.prog 97 = .sl 2 := by kernel_rfl
theorem tsz_97 : tsz Tryd.prog 97 = 1 := by kernel_rfl
theorem tby_97 : tby Tryd.prog 97 = 24 := by kernel_rfl
theorem bld_97 : bldE Tryd.prog 97 = none := by kernel_rfl
theorem zc_97 : zc Tryd.prog 97 = some [.nilsl] := by kernel_rfl
theorem tk_99 : tk Tryd.prog 99 = .st := by kernel_rfl
theorem tsz_99 : tsz Tryd.prog 99 = 6 := by kernel_rfl
theorem tby_99 : tby Tryd.prog 99 = 88 := by kernel_rfl
theorem bld_99 : bldE Tryd.prog 99 = none := by kernel_rfl
theorem zc_99 : zc Tryd.prog 99 = some [.int .i64 (0), .int .i64 (0), .int .i64 (0), .nilsl, .str [], .nilsl] := by kernel_rfl
theorem plS_99 : plS Tryd.prog 99 = some [(0, 1), (1, 1), (2, 1), (3, 1), (4, 1), (5, 1)] := by kernel_rfl
theorem fld_99_0 : fld Tryd.prog 99 0 = some (0, 3) := by kernel_rfl
theorem fld_99_1 : fld Tryd.prog 99 1 = some (1, 3) := by kernel_rfl
theorem fld_99_2 : fld Tryd.prog 99 2 = some (2, 3) := by kernel_rfl
theorem fld_99_3 : fld Tryd.prog 99 3 = some (3, 97) := by kernel_rfl
theorem fld_99_4 : fld Tryd.prog 99 4 = some (4, 9) := by kernel_rfl
theorem fld_99_5 : fld Tryd.prog 99 5 = some (5, 97) := by kernel_rfl
theorem tk_101 : tk Tryd.prog 101 = .st := by kernel_rfl
theorem tsz_101 : tsz Tryd.prog 101 = 7 := by kernel_rfl
theorem tby_101 : tby Tryd.prog 101 = 96 := by kernel_rfl
theorem bld_101 : bldE Tryd.prog 101 = none := by kernel_rfl
theorem zc_101 : zc Tryd.prog 101 = some [.int .i64 (0), .int .i64 (0), .int .i64 (0), .int .i64 (0), .nilsl, .str [], .nilsl] := by kernel_rfl
theorem plS_101 : plS Tryd.prog 101 = some [(0, 1), (1, 6)] := by kernel_rfl
theorem fld_101_0 : fld Tryd.prog 101 0 = some (0, 3) := by kernel_rfl
theorem fld_101_1 : fld Tryd.prog 101 1 = some (1, 99) := by kernel_rfl
theorem tk_108 : tk Tryd.prog 108 = .st := by kernel_rfl
theorem tsz_108 : tsz Tryd.prog 108 = 3 := by kernel_rfl
theorem tby_108 : tby Tryd.prog 108 = 48 := by kernel_rfl
theorem bld_108 : bldE Tryd.prog 108 = none := by kernel_rfl
theorem zc_108 : zc Tryd.prog 108 = some [.str [], .str [], .str []] := by kernel_rfl
theorem plS_108 : plS Tryd.prog 108 = some [(0, 1), (1, 1), (2, 1)] := by kernel_rfl
theorem fld_108_0 : fld Tryd.prog 108 0 = some (0, 9) := by kernel_rfl
theorem fld_108_1 : fld Tryd.prog 108 1 = some (1, 9) := by kernel_rfl
theorem fld_108_2 : fld Tryd.prog 108 2 = some (2, 9) := by kernel_rfl
theorem tk_115 : tk Tryd.prog 115 = .arr 59 5 := by kernel_rfl
theorem tsz_115 : tsz Tryd.prog 115 = 59 := by kernel_rfl
theorem tby_115 : tby Tryd.prog 115 = 59 := by kernel_rfl
theorem bld_115 : bldE Tryd.prog 115 = none := by kernel_rfl
theorem zc_115 : zc Tryd.prog 115 = some [.int .u8 (0), .int .u8 (0), .int .u8 (0), .int .u8 (0), .int .u8 (0), .int .u8 (0), .int .u8 (0), .int .u8 (0), .int .u8 (0), .int .u8 (0), .int .u8 (0), .int .u8 (0), .int .u8 (0), .int .u8 (0), .int .u8 (0), .int .u8 (0), .int .u8 (0), .int .u8 (0), .int .u8 (0), .int .u8 (0), .int .u8 (0), .int .u8 (0), .int .u8 (0), .int .u8 (0), .int .u8 (0), .int .u8 (0), .int .u8 (0), .int .u8 (0), .int .u8 (0), .int .u8 (0), .int .u8 (0), .int .u8 (0), .int .u8 (0), .int .u8 (0), .int .u8 (0), .int .u8 (0), .int .u8 (0), .int .u8 (0), .int .u8 (0), .int .u8 (0), .int .u8 (0), .int .u8 (0), .int .u8 (0), .int .u8 (0), .int .u8 (0), .int .u8 (0), .int .u8 (0), .int .u8 (0), .int .u8 (0), .int .u8 (0), .int .u8 (0), .int .u8 (0), .int .u8 (0), .int .u8 (0), .int .u8 (0), .int .u8 (0), .int .u8 (0), .int .u8 (0), .int .u8 (0)] := by kernel_rfl
theorem tk_119 : tk Tryd.prog 119 = .arr 30 108 := by kernel_rfl
theorem tsz_119 : tsz Tryd.prog 119 = 90 := by kernel_rfl
theorem tby_119 : tby Tryd.prog 119 = 1440 := by kernel_rfl
theorem bld_119 : bldE Tryd.prog 119 = none := by kernel_rfl
theorem zc_119 : zc Tryd.prog 119 = some [.str [], .str [], .str [], .str [], .str [], .str [], .str [], .str [], .str [], .str [], .str [], .str [], .str [], .str [], .str [], .str [], .str [], .str [], .str [], .str [], .str [], .str [], .str [], .str [], .str [], .str [], .str [], .str [], .str [], .str [], .str [], .str [], .str [], .str [], .str [], .str [], .str [], .str [], .str [], .str [], .str [], .str [], .str [], .str [], .str [], .str [], .str [], .str [], .str [], .str [], .str [], .str [], .str [], .str [], .str [], .str [], .str [], .str [], .str [], .str [], .str [], .str [], .str [], .str [], .str [], .str [], .str [], .str [], .str [], .str [], .str [], .str [], .str [], .str [], .str [], .str [], .str [], .str [], .str [], .str [], .str [], .str [], .str [], .str [], .str [], .str [], .str [], .str [], .str [], .str []] := by kernel_rfl
theorem tk_121 : tk Tryd.prog 121 = .arr 59 108 := by kernel_rfl
theorem tsz_121 : tsz Tryd.prog 121 = 177 := by kernel_rfl
theorem tby_121 : tby Tryd.prog 121 = 2832 := by kernel_rfl
theorem bld_121 : bldE Tryd.prog 121 = none := by kernel_rfl
theorem zc_121 : zc Tryd.prog 121 = some [.str [], .str [], .str [], .str [], .str [], .str [], .str [], .str [], .str [], .str [], .str [], .str [], .str [], .str [], .str [], .str [], .str [], .str [], .str [], .str [], .str [], .str [], .str [], .str [], .str [], .str [], .str [], .str [], .str [], .str [], .str [], .str [], .str [], .str [], .str [], .str [], .str [], .str [], .str [], .str [], .str [], .str [], .str [], .str [], .str [], .str [], .str [], .str [], .str [], .str [], .str [], .str [], .str [], .str [], .str [], .str [], .str [], .str [], .str [], .str [], .str [], .str [], .str [], .str [], .str [], .str [], .str [], .str [], .str [], .str [], .str [], .str [], .str [], .str [], .str [], .str [], .str [], .str [], .str [], .str [], .str [], .str [], .str [], .str [], .str [], .str [], .str [], .str [], .str [], .str [], .str [], .str [], .str [], .str [], .str [], .str [], .str [], .str [], .str [], .str [], .str [], .str [], .str [], .str [], .str [], .str [], .str [], .str [], .str [], .str [], .str [], .str [], .str [], .str [], .str [], .str [], .str [], .str [], .str [], .str [], .str [], .str [], .str [], .str [], .str [], .str [], .str [], .str [], .str [], .str [], .str [], .str [], .str [], .str [], .str [], .str [], .str [], .str [], .str [], .str [], .str [], .str [], .str [], .str [], .str [], .str [], .str [], .str [], .str [], .str [], .str [], .str [], .str [], .str [], .str [], .str [], .str [], .str [], .str [], .str [], .str [], .str [], .str [], .str [], .str [], .str [], .str [], .str [], .str [], .str [], .str [], .str [], .str [], .str [], .str [], .str [], .str []] := by kernel_rfl
theorem tk_123 : tk Tryd.prog 123 = .sl 9 := by kernel_rfl
theorem tsz_123 : tsz Tryd.prog 123 = 1 := by kernel_rfl
theorem tby_123 : tby Tryd.prog 123 = 24 := by kernel_rfl
theorem bld_123 : bldE Tryd.prog 123 = none := by kernel_rfl
theorem zc_123 : zc Tryd.prog 123 = some [.nilsl] := by kernel_rfl
theorem tk_129 : tk Tryd.prog 129 = .arr 256 5 := by kernel_rfl
theorem tsz_129 : tsz Tryd.prog 129 = 256 := by kernel_rfl
theorem tby_129 : tby Tryd.prog 129 = 256 := by kernel_rfl
theorem bld_129 : bldE Tryd.prog 129 = none := by kernel_rfl
theorem zc_129 : zc Tryd.prog 129 = some [.int .u8 (0), .int .u8 (0), .int .u8 (0), .int .u8 (0), .int .u8 (0), .int .u8 (0), .int .u8 (0), .int .u8 (0), .int .u8 (0), .int .u8 (0), .int .u8 (0), .int .u8 (0), .int .u8 (0), .int .u8 (0), .int .u8 (0), .int .u8 (0), .int .u8 (0), .int .u8 (0), .int .u8 (0), .int .u8 (0), .int .u8 (0), .int .u8 (0), .int .u8 (0), .int .u8 (0), .int .u8 (0), .int .u8 (0), .int .u8 (0), .int .u8 (0), .int .u8 (0), .int .u8 (0), .int .u8 (0), .int .u8 (0), .int .u8 (0), .int .u8 (0), .int .u8 (0), .int .u8 (0), .int .u8 (0), .int .u8 (0), .int .u8 (0), .int .u8 (0), .int .u8 (0), .int .u8 (0), .int .u8 (0), .int .u8 (0), .int .u8 (0), .int .u8 (0), .int .u8 (0), .int .u8 (0), .int .u8 (0), .int .u8 (0), .int .u8 (0), .int .u8 (0), .int .u8 (0), .int .u8 (0), .int .u8 (0), .int .u8 (0), .int .u8 (0), .int .u8 (0), .int .u8 (0), .int .u8 (0), .int .u8 (0), .int .u8 (0), .int .u8 (0), .int .u8 (0), .int .u8 (0), .int .u8 (0), .int .u8 (0), .int .u8 (0), .int .u8 (0), .int .u8 (0), .int .u8 (0), .int .u8 (0), .int .u8 (0), .int .u8 (0), .int .u8 (0), .int .u8 (0), .int .u8 (0), .int .u8 (0), .int .u8 (0), .int .u8 (0), .int .u8 (0), .int .u8 (0), .int .u8 (0), .int .u8 (0), .int .u8 (0), .int .u8 (0), .int .u8 (0), .int .u8 (0), .int .u8 (0), .int .u8 (0), .int .u8 (0), .int .u8 (0), .int .u8 (0), .int .u8 (0), .int .u8 (0), .int .u8 (0), .int .u8 (0), .int .u8 (0), .int .u8 (0), .int .u8 (0), .int .u8 (0), .int .u8 (0), .int .u8 (0), .int .u8 (0), .int .u8 (0), .int .u8 (0), .int .u8 (0), .int .u8 (0), .int .u8 (0), .int .u8 (0), .int .u8 (0), .int .u8 (0), .int .u8 (0), .int .u8 (0), .int .u8 (0), .int .u8 (0), .int .u8 (0), .int .u8 (0), .int .u8 (0), .int .u8 (0), .int .u8 (0), .int .u8 (0), .int .u8 (0), .int .u8 (0), .int .u8 (0), .int .u8 (0), .int .u8 (0), .int .u8 (0), .int .u8 (0), .int .u8 (0), .int .u8 (0), .int .u8 (0), .int .u8 (0), .int .u8 (0), .int .u8 (0), .int .u8 (0), .int .u8 (0), .int .u8 (0), .int .u8 (0), .int .u8 (0), .int .u8 (0), .int .u8 (0), .int .u8 (0), .int .u8 (0), .int .u8 (0), .int .u8 (0), .int .u8 (0), .int .u8 (0), .int .u8 (0), .int .u8 (0), .int .u8 (0), .int .u8 (0), .int .u8 (0), .int .u8 (0), .int .u8 (0), .int .u8 (0), .int .u8 (0), .int .u8 (0), .int .u8 (0), .int .u8 (0), .int .u8 (0), .int .u8 (0), .int .u8 (0), .int .u8 (0), .int .u8 (0), .int .u8 (0), .int .u8 (0), .int .u8 (0), .int .u8 (0), .int .u8 (0), .int .u8 (0), .int .u8 (0), .int .u8 (0), .int .u8 (0), .int .u8 (0), .int .u8 (0), .int .u8 (0), .int .u8 (0), .int .u8 (0), .int .u8 (0), .int .u8 (0), .int .u8 (0), .int .u8 (0), .int .u8 (0), .int .u8 (0), .int .u8 (0), .int .u8 (0), .int .u8 (0), .int .u8 (0), .int .u8 (0), .int .u8 (0), .int .u8 (0), .int .u8 (0), .int .u8 (0), .int .u8 (0), .int .u8 (0), .int .u8 (0), .int .u8 (0), .int .u8 (0), .int .u8 (0), .int .u8 (0), .int .u8 (0), .int .u8 (0), .int .u8 (0), .int .u8 (0), .int .u8 (0), .int .u8 (0), .int .u8 (0), .int .u8 (0), .int .u8 (0), .int .u8 (0), .int .u8 (0), .int .u8 (0), .int .u8 (0), .int .u8 (0), .int .u8 (0), .int .u8 (0), .int .u8 (0), .int .u8 (0), .int .u8 (0), .int .u8 (0), .int .u8 (0), .int .u8 (0), .int .u8 (0), .int .u8 (0), .int .u8 (0), .int .u8 (0), .int .u8 (0), .int .u8 (0), .int .u8 (0), .int .u8 (0), .int .u8 (0), .int .u8 (0), .int .u8 (0), .int .u8 (0), .int .u8 (0), .int .u8 (0), .int .u8 (0), .int .u8 (0), .int .u8 (0), .int .u8 (0), .int .u8 (0), .int .u8 (0), .int .u8 (0), .int .u8 (0), .int .u8 (0), .int .u8 (0), .int .u8 (0), .int .u8 (0), .int .u8 (0), .int .u8 (0), .int .u8 (0), .int .u8 (0), .int .u8 (0), .int .u8 (0), .int .u8 (0)] := by kernel_rfl
theorem tk_131 : tk Tryd.prog 131 = .fn := by kernel_rfl
theorem tsz_131 : tsz Tryd.prog 131 = 1 := by kernel_rfl
theorem tby_131 : tby Tryd.prog 131 = 8 := by kernel_rfl
theorem bld_131 : bldE Tryd.prog 131 = none := by kernel_rfl
theorem zc_131 : zc Tryd.prog 131 = some [.nilfn] := by kernel_rfl
theorem tk_133 : tk Tryd.prog 133 = .sl 135 := by kernel_rfl
theorem tsz_133 : tsz Tryd.prog 133 = 1 := by kernel_rfl
theorem tby_133 : tby Tryd.prog 133 = 24 := by kernel_rfl
theorem bld_133 : bldE Tryd.prog 133 = none := by kernel_rfl
theorem zc_133 : zc Tryd.prog 133 = some [.nilsl] := by kernel_rfl
theorem tk_135 : tk Tryd.prog 135 = .st := by kernel_rfl
theorem tsz_135 : tsz Tryd.prog 135 = 2 := by kernel_rfl
theorem tby_135 : tby Tryd.prog 135 = 16 := by kernel_rfl
theorem bld_135 : bldE Tryd.prog 135 = none := by kernel_rfl
theorem zc_135 : zc Tryd.prog 135 = some [.int .i64 (0), .int .i64 (0)] := by kernel_rfl
theorem plS_135 : plS Tryd.prog 135 = some [(0, 1), (1, 1)] := by kernel_rfl
theorem fld_135_0 : fld Tryd.prog 135 0 = some (0, 3) := by kernel_rfl
theorem fld_135_1 : fld Tryd.prog 135 1 = some (1, 3) := by kernel_rfl
theorem tk_137 : tk Tryd.prog 137 = .ptr 147 := by kernel_rfl
theorem tsz_137 : tsz Tryd.prog 137 = 1 := by kernel_rfl
theorem tby_137 : tby Tryd.prog 137 = 8 := by kernel_rfl
theorem bld_137 : bldE Tryd.prog 137 = none := by kernel_rfl
theorem zc_137 : zc Tryd.prog 137 = some [.nilptr] := by kernel_rfl
theorem tk_140 : tk Tryd.prog 140 = .arr 256 4 := by kernel_rfl
theorem tsz_140 : tsz Tryd.prog 140 = 256 := by kernel_rfl
theorem tby_140 : tby Tryd.prog 140 = 256 := by kernel_rfl
theorem bld_140 : bldE Tryd.prog 140 = none := by kernel_rfl
theorem zc_140 : zc Tryd.prog 140 = some [.bool false, .bool false, .bool false, .bool false, .bool false, .bool false, .bool false, .bool false, .bool false, .bool false, .bool false, .bool false, .bool false, .bool false, .bool false, .bool false, .bool false, .bool false, .bool false, .bool false, .bool false, .bool false, .bool false, .bool false, .bool false, .bool false, .bool false, .bool false, .bool false, .bool false, .bool false, .bool false, .bool false, .bool false, .bool false, .bool false, .bool false, .bool false, .bool false, .bool false, .bool false, .bool false, .bool false, .bool false, .bool false, .bool false, .bool false, .bool false, .bool false, .bool false, .bool false, .bool false, .bool false, .bool false, .bool false, .bool false, .bool false, .bool false, .bool false, .bool false, .bool false, .bool false, .bool false, .bool false, .bool false, .bool false, .bool false, .bool false, .bool false, .bool false, .bool false, .bool false, .bool false, .bool false, .bool false, .bool false, .bool false, .bool false, .bool false, .bool false, .bool false, .bool false, .bool false, .bool false, .bool false, .bool false, .bool false, .bool false, .bool false, .bool false, .bool false, .bool false, .bool false, .bool false, .bool false, .bool false, .bool false, .bool false, .bool false, .bool false, .bool false, .bool false, .bool false, .bool false, .bool false, .bool false, .bool false, .bool false, .bool false, .bool false, .bool false, .bool false, .bool false, .bool false, .bool false, .bool false, .bool false, .bool false, .bool false, .bool false, .bool false, .bool false, .bool false, .bool false, .bool false, .bool false, .bool false, .bool false, .bool false, .bool false, .bool false, .bool false, .bool false, .bool false, .bool false, .bool false, .bool false, .bool false, .bool false, .bool false, .bool false, .bool false, .bool false, .bool false, .bool false, .bool false, .bool false, .bool false, .bool false, .bool false, .bool false, .bool false, .bool false, .bool false, .bool false, .bool false, .bool false, .bool false, .bool false, .bool false, .bool false, .bool false, .bool false, .bool false, .bool false, .bool false, .bool false, .bool false, .bool false, .bool false, .bool false, .bool false, .bool false, .bool false, .bool false, .bool false, .bool false, .bool false, .bool false, .bool false, .bool false, .bool false, .bool false, .bool false, .bool false, .bool false, .bool false, .bool false, .bool false, .bool false, .bool false, .bool false, .bool false, .bool false, .bool false, .bool false, .bool false, .bool false, .bool false, .bool false, .bool false, .bool false, .bool false, .bool false, .bool false, .bool false, .bool false, .bool false, .bool false, .bool false, .bool false, .bool false, .bool false, .bool false, .bool false, .bool false, .bool false, .bool false, .bool false, .bool false, .bool false, .bool false, .bool false, .bool false, .bool false, .bool false, .bool false, .bool false, .bool false, .bool false, .bool false, .bool false, .bool false, .bool false, .bool false, .bool false, .bool false, .bool false, .bool false, .bool false, .bool false, .bool false, .bool false, .bool false, .bool false, .bool false, .bool false, .bool false, .bool false, .bool false, .bool false, .bool false, .bool false, .bool false, .bool false, .bool false] := by kernel_rfl
theorem tk_144 : tk Tryd.prog 144 = .sl 150 := by kernel_rfl
theorem tsz_144 : tsz Tryd.prog 144 = 1 := by kernel_rfl
theorem tby_144 : tby Tryd.prog 144 = 24 := by kernel_rfl
theorem bld_144 : bldE Tryd.prog 144 = none := by kernel_rfl
theorem zc_144 : zc Tryd.prog 144 = some [.nilsl] := by kernel_rfl
theorem tk_145 : tk Tryd.prog 145 = .sl 153 := by kernel_rfl
theorem tsz_145 : tsz Tryd.prog 145 = 1 := by kernel_rfl
theorem tby_145 : tby Tryd.prog 145 = 24 := by kernel_rfl
theorem bld_145 : bldE Tryd.prog 145 = none := by kernel_rfl
theorem zc_145 : zc Tryd.prog 145 = some [.nilsl] := by kernel_rfl
theorem tk_147 : tk Tryd.prog 147 = .st := by kernel_rfl
theorem tsz_147 : tsz Tryd.prog 147 = 3 := by kernel_rfl
theorem tby_147 : tby Tryd.prog 147 = 56 := by kernel_rfl
theorem bld_147 : bldE Tryd.prog 147 = none := by kernel_rfl
theorem zc_147 : zc Tryd.prog 147 = some [.nilsl, .nilsl, .int .i64 (0)] := by kernel_rfl
theorem plS_147 : plS Tryd.prog 147 = some [(0, 1), (1, 1), (2, 1)] := by kernel_rfl
theorem fld_147_0 : fld Tryd.prog 147 0 = some (0, 144) := by kernel_rfl
theorem fld_147_1 : fld Tryd.prog 147 1 = some (1, 145) := by kernel_rfl
theorem fld_147_2 : fld Tryd.prog 147 2 = some (2, 3) := by kernel_rfl
theorem tk_148 : tk Tryd.prog 148 = .int .u16 := by kernel_rfl
theorem tsz_148 : tsz Tryd.prog 148 = 1 := by kernel_rfl
theorem tby_148 : tby Tryd.prog 148 = 2 := by kernel_rfl
theorem bld_148 : bldE Tryd.prog 148 = none := by kernel_rfl
theorem zc_148 : zc Tryd.prog 148 = some [.int .u16 (0)] := by kernel_rfl
theorem tk_150 : tk Tryd.prog 150 = .st := by kernel_rfl
theorem tsz_150 : tsz Tryd.prog 150 = 3 := by kernel_rfl
theorem tby_150 : tby Tryd.prog 150 = 6 := by kernel_rfl
theorem bld_150 : bldE Tryd.prog 150 = none := by kernel_rfl
theorem zc_150 : zc Tryd.prog 150 = some [.int .u16 (0), .int .u16 (0), .int .u16 (0)] := by kernel_rfl
theorem plS_150 : plS Tryd.prog 150 = some [(0, 1), (1, 1), (2, 1)] := by kernel_rfl
theorem fld_150_0 : fld Tryd.prog 150 0 = some (0, 148) := by kernel_rfl
theorem fld_150_1 : fld Tryd.prog 150 1 = some (1, 148) := by kernel_rfl
theorem fld_150_2 : fld Tryd.prog 150 2 = some (2, 148) := by kernel_rfl
theorem tk_153 : tk Tryd.prog 153 = .st := by kernel_rfl
theorem tsz_153 : tsz Tryd.prog 153 = 3 := by kernel_rfl
theorem tby_153 : tby Tryd.prog 153 = 12 := by kernel_rfl
theorem bld_153 : bldE Tryd.prog 153 = none := by kernel_rfl
theorem zc_153 : zc Tryd.prog 153 = some [.int .u32 (0), .int .u32 (0), .int .u32 (0)] := by kernel_rfl
theorem plS_153 : plS Tryd.prog 153 = some [(0, 1), (1, 1), (2, 1)] := by kernel_rfl
theorem fld_153_0 : fld Tryd.prog 153 0 = some (0, 24) := by kernel_rfl
theorem fld_153_1 : fld Tryd.prog 153 1 = some (1, 24) := by kernel_rfl
theorem fld_153_2 : fld Tryd.prog 153 2 = some (2, 24) := by kernel_rfl
attribute [push_cast] tk_2 tsz_2 tby_2 bld_2 zc_2 tk_3 tsz_3 tby_3 bld_3 zc_3 zvO_3 tk_4 tsz_4 tby_4 bld_4 zc_4 tk_5 tsz_5 tby_5 bld_5 zc_5 tk_9 tsz_9 tby_9 bld_9 zc_9 tk_21 tsz_21 tby_21 bld_21 zc_21 tk_22 tsz_22 tby_22 bld_22 zc_22 tk_23 tsz_23 tby_23 bld_23 zc_23 tk_24 tsz_24 tby_24 bld_24 zc_24 tk_25 tsz_25 tby_25 bld_25 zc_25 zvO_25 tk_26 tsz_26 tby_26 bld_26 zc_26 tk_27 tsz_27 tby_27 bld_27 zc_27 tk_29 tsz_29 tby_29 bld_29 zc_29 plS_29 fld_29_0 fld_29_1 tk_30 tsz_30 tby_30 bld_30 zc_30 zvO_30 tk_31 tsz_31 tby_31 bld_31 zc_31 tk_32 tsz_32 tby_32 bld_32 zc_32 tk_34 tsz_34 tby_34 bld_34 zc_34 plS_34 fld_34_0 fld_34_1 tk_39 tsz_39 tby_39 bld_39 zc_39 plS_39 fld_39_0 fld_39_1 fld_39_2 fld_39_3 fld_39_4 tk_41 tsz_41 tby_41 bld_41 zc_41 tk_42 tsz_42 tby_42 bld_42 zc_42 tk_44 tsz_44 tby_44 bld_44 zc_44 plS_44 fld_44_0 fld_44_1 tk_45 tsz_45 tby_45 bld_45 zc_45 tk_56 tsz_56 tby_56 bld_56 zc_56 plS_56 fld_56_0 fld_56_1 fld_56_2 fld_56_3 fld_56_4 tk_57 tsz_57 tby_57 bld_57 zc_57 tk_60 tsz_60 tby_60 bld_60 zc_60 tk_61 tsz_61 tby_61 bld_61 zc_61 tk_65 tsz_65 tby_65 bld_65 zc_65 tk_69 tsz_69 tby_69 bld_69 zc_69 plS_69 fld_69_0 fld_69_1 fld_69_2 tk_73 tsz_73 tby_73 bld_73 zc_73 plS_73 fld_73_0 fld_73_1 fld_73_2 fld_73_3 fld_73_4 fld_73_5 tk_76 tsz_76 tby_76 bld_76 zc_76 plS_76 fld_76_0 fld_76_1 fld_76_2 tk_81 tsz_81 tby_81 bld_81 zc_81 plS_81 fld_81_0 fld_81_1 tk_83 tsz_83 tby_83 bld_83 zc_83 plS_83 fld_83_0 fld_83_1 fld_83_2 tk_87 tsz_87 tby_87 bld_87 zc_87 plS_87 fld_87_0 fld_87_1 tk_90 tsz_90 tby_90 bld_90 zc_90 plS_90 fld_90_0 fld_90_1 fld_90_2 tk_91 tsz_91 tby_91 bld_91 zc_91 tk_96 tsz_96 tby_96 bld_96 zc_96 zvO_96 plS_96 fld_96_0 fld_96_1 fld_96_2 tk_97 tsz_97 tby_97 bld_97 zc_97 tk_99 tsz_99 tby_99 bld_99 zc_99 plS_99 fld_99_0 fld_99_1 fld_99_2 fld_99_3 fld_99_4 fld_99_5 tk_101 tsz_101 tby_101 bld_101 zc_101 plS_101 fld_101_0 fld_101_1 tk_108 tsz_108 tby_108 bld_108 zc_108 plS_108 fld_108_0 fld_108_1 fld_108_2 tk_115 tsz_115 tby_115 bld_115 zc_115 tk_119 tsz_119 tby_119 bld_119 zc_119 tk_121 tsz_121 tby_121 bld_121 zc_121 tk_123 tsz_123 tby_123 bld_123 zc_123 tk_129 tsz_129 tby_129 bld_129 zc_129 tk_131 tsz_131 tby_131 bld_131 zc_131 tk_133 tsz_133 tby_133 bld_133 zc_133 tk_135 tsz_135 tby_135 bld_135 zc_135 plS_135 fld_135_0 fld_135_1 tk_137 tsz_137 tby_137 bld_137 zc_137 tk_140 tsz_140 tby_140 bld_140 zc_140 tk_144 tsz_144 tby_144 bld_144 zc_144 tk_145 tsz_145 tby_145 bld_145 zc_145 tk_147 tsz_147 tby_147 bld_147 zc_147 plS_147 fld_147_0 fld_147_1 fld_147_2 tk_148 tsz_148 tby_148 bld_148 zc_148 tk_150 tsz_150 tby_150 bld_150 zc_150 plS_150 fld_150_0 fld_150_1 fld_150_2 tk_153 tsz_153 tby_153 bld_153 zc_153 plS_153 fld_153_0 fld_153_1 fld_153_2
end Go.Proofs.Sh
