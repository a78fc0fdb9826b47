/- A part of the proof. -/
import Derived.Test.YtjhkaanphpcepaaPvY
import Derived.Test.YtjhkaanphpcepaaLkAwake
import Derived.KernelRfl
set_option maxRecDepth 100000
namespace Go.Proofs.Lk
open Go.Pv

theorem tk_2 : tk Try.prog 2 = .int .i64 := by kernel_rfl
theorem tsz_2 : tsz Try.prog 2 = 1 := by kernel_rfl
theorem tby_2 : tby Try.prog 2 = 8 := by kernel_rfl
theorem bld_2 : bldE Try.prog 2 = none := by kernel_rfl
theorem zc_2 : zc Try.prog 2 = some [.int .i64 (0)] := by kernel_rfl
theorem tk_3 : tk Try.prog 3 = .int .i64 := by kernel_rfl
theorem tsz_3 : tsz Try.prog 3 = 1 := by kernel_rfl
theorem tby_3 : tby Try.prog 3 = 8 := by kernel_rfl
theorem bld_3 : bldE Try.prog 3 = none := by kernel_rfl
theorem zc_3 : zc Try.prog 3 = some [.int .i64 (0)] := by kernel_rfl
theorem tk_4 : tk Try.prog 4 = .bool := by kernel_rfl
theorem tsz_4 : tsz Try.prog 4 = 1 := by kernel_rfl
theorem tby_4 : tby Try.prog 4 = 1 := by kernel_rfl
theorem bld_4 : bldE Try.prog 4 = none := by kernel_rfl
theorem zc_4 : zc Try.prog 4 = some [.bool false] := by kernel_rfl
theorem tk_5 : tk Try.prog 5 = .int .u8 := by kernel_rfl
theorem tsz_5 : tsz Try.prog 5 = 1 := by kernel_rfl
theorem tby_5 : tby Try.prog 5 = 1 := by kernel_rfl
theorem bld_5 : bldE Try.prog 5 = none := by kernel_rfl
theorem zc_5 : zc Try.prog 5 = some [.int .u8 (0)] := by kernel_rfl
theorem tk_9 : tk Try.prog 9 = .str := by kernel_rfl
theorem tsz_9 : tsz Try.prog 9 = 1 := by kernel_rfl
theorem tby_9 : tby Try.prog 9 = 16 := by kernel_rfl
theorem bld_9 : bldE Try.prog 9 = none := by kernel_rfl
theorem zc_9 : zc Try.prog 9 = some [.str []] := by kernel_rfl
theorem tk_25 : tk Try.prog 25 = .int .u16 := by kernel_rfl
theorem tsz_25 : tsz Try.prog 25 = 1 := by kernel_rfl
theorem tby_25 : tby Try.prog 25 = 2 := by kernel_rfl
theorem bld_25 : bldE Try.prog 25 = none := by kernel_rfl
theorem zc_25 : zc Try.prog 25 = some [.int .u16 (0)] := by kernel_rfl
theorem tk_26 : tk Try.prog 26 = .sl 73 := by kernel_rfl
theorem tsz_26 : tsz Try.prog 26 = 1 := by kernel_rfl
theorem tby_26 : tby Try.prog 26 = 24 := by kernel_rfl
theorem bld_26 : bldE Try.prog 26 = none := by kernel_rfl
theorem zc_26 : zc Try.prog 26 = some [.nilsl] := by kernel_rfl
theorem tk_27 : tk Try.prog 27 = .arr 16 9 := by kernel_rfl
theorem tsz_27 : tsz Try.prog 27 = 16 := by kernel_rfl
theorem tby_27 : tby Try.prog 27 = 256 := by kernel_rfl
theorem bld_27 : bldE Try.prog 27 = none := by kernel_rfl
theorem zc_27 : zc Try.prog 27 = some [.str [], .str [], .str [], .str [], .str [], .str [], .str [], .str [], .str [], .str [], .str [], .str [], .str [], .str [], .str [], .str []] := by kernel_rfl
theorem tk_29 : tk Try.prog 29 = .st := by kernel_rfl
theorem tsz_29 : tsz Try.prog 29 = 23 := by kernel_rfl
theorem tby_29 : tby Try.prog 29 = 344 := by kernel_rfl
theorem bld_29 : bldE Try.prog 29 = none := by kernel_rfl
theorem zc_29 : zc Try.prog 29 = some [.int .i64 (0), .nilsl, .int .i64 (0), .str [], .int .i64 (0), .str [], .str [], .str [], .str [], .str [], .str [], .str [], .str [], .str [], .str [], .str [], .str [], .str [], .str [], .str [], .str [], .str [], .bool false] := by kernel_rfl
theorem plS_29 : plS Try.prog 29 = some [(0, 1), (1, 1), (2, 1), (3, 1), (4, 1), (5, 16), (21, 1), (22, 1)] := by kernel_rfl
theorem fld_29_0 : fld Try.prog 29 0 = some (0, 3) := by kernel_rfl
theorem fld_29_1 : fld Try.prog 29 1 = some (1, 26) := by kernel_rfl
theorem fld_29_2 : fld Try.prog 29 2 = some (2, 3) := by kernel_rfl
theorem fld_29_3 : fld Try.prog 29 3 = some (3, 9) := by kernel_rfl
theorem fld_29_4 : fld Try.prog 29 4 = some (4, 3) := by kernel_rfl
theorem fld_29_5 : fld Try.prog 29 5 = some (5, 27) := by kernel_rfl
theorem fld_29_6 : fld Try.prog 29 6 = some (21, 9) := by kernel_rfl
theorem fld_29_7 : fld Try.prog 29 7 = some (22, 4) := by kernel_rfl
theorem tk_30 : tk Try.prog 30 = .int .i64 := by kernel_rfl
theorem tsz_30 : tsz Try.prog 30 = 1 := by kernel_rfl
theorem tby_30 : tby Try.prog 30 = 8 := by kernel_rfl
theorem bld_30 : bldE Try.prog 30 = none := by kernel_rfl
theorem zc_30 : zc Try.prog 30 = some [.int .i64 (0)] := by kernel_rfl
theorem tk_34 : tk Try.prog 34 = .sl 5 := by kernel_rfl
theorem tsz_34 : tsz Try.prog 34 = 1 := by kernel_rfl
theorem tby_34 : tby Try.prog 34 = 24 := by kernel_rfl
theorem bld_34 : bldE Try.prog 34 = none := by kernel_rfl
theorem zc_34 : zc Try.prog 34 = some [.nilsl] := by kernel_rfl
theorem tk_35 : tk Try.prog 35 = .sl 9 := by kernel_rfl
theorem tsz_35 : tsz Try.prog 35 = 1 := by kernel_rfl
theorem tby_35 : tby Try.prog 35 = 24 := by kernel_rfl
theorem bld_35 : bldE Try.prog 35 = none := by kernel_rfl
theorem zc_35 : zc Try.prog 35 = some [.nilsl] := by kernel_rfl
theorem tk_39 : tk Try.prog 39 = .arr 2 5 := by kernel_rfl
theorem tsz_39 : tsz Try.prog 39 = 2 := by kernel_rfl
theorem tby_39 : tby Try.prog 39 = 2 := by kernel_rfl
theorem bld_39 : bldE Try.prog 39 = none := by kernel_rfl
theorem zc_39 : zc Try.prog 39 = some [.int .u8 (0), .int .u8 (0)] := by kernel_rfl
theorem tk_41 : tk Try.prog 41 = .st := by kernel_rfl
theorem tsz_41 : tsz Try.prog 41 = 52 := by kernel_rfl
theorem tby_41 : tby Try.prog 41 = 800 := by kernel_rfl
theorem bld_41 : bldE Try.prog 41 = none := by kernel_rfl
theorem zc_41 : zc Try.prog 41 = some [.int .i64 (0), .nilsl, .int .i64 (0), .str [], .int .i64 (0), .str [], .str [], .str [], .str [], .str [], .str [], .str [], .str [], .str [], .str [], .str [], .str [], .str [], .str [], .str [], .str [], .str [], .bool false, .int .i64 (0), .nilsl, .int .i64 (0), .str [], .int .i64 (0), .str [], .str [], .str [], .str [], .str [], .str [], .str [], .str [], .str [], .str [], .str [], .str [], .str [], .str [], .str [], .str [], .str [], .bool false, .nilsl, .nilsl, .str [], .str [], .str [], .str []] := by kernel_rfl
theorem plS_41 : plS Try.prog 41 = some [(0, 23), (23, 23), (46, 1), (47, 1), (48, 1), (49, 1), (50, 1), (51, 1)] := by kernel_rfl
theorem fld_41_0 : fld Try.prog 41 0 = some (0, 29) := by kernel_rfl
theorem fld_41_1 : fld Try.prog 41 1 = some (23, 29) := by kernel_rfl
theorem fld_41_2 : fld Try.prog 41 2 = some (46, 35) := by kernel_rfl
theorem fld_41_3 : fld Try.prog 41 3 = some (47, 35) := by kernel_rfl
theorem fld_41_4 : fld Try.prog 41 4 = some (48, 9) := by kernel_rfl
theorem fld_41_5 : fld Try.prog 41 5 = some (49, 9) := by kernel_rfl
theorem fld_41_6 : fld Try.prog 41 6 = some (50, 9) := by kernel_rfl
theorem fld_41_7 : fld Try.prog 41 7 = some (51, 9) := by kernel_rfl
theorem tk_47 : tk Try.prog 47 = .sl 53 := by kernel_rfl
theorem tsz_47 : tsz Try.prog 47 = 1 := by kernel_rfl
theorem tby_47 : tby Try.prog 47 = 24 := by kernel_rfl
theorem bld_47 : bldE Try.prog 47 = none := by kernel_rfl
theorem zc_47 : zc Try.prog 47 = some [.nilsl] := by kernel_rfl
theorem tk_49 : tk Try.prog 49 = .sl 78 := by kernel_rfl
theorem tsz_49 : tsz Try.prog 49 = 1 := by kernel_rfl
theorem tby_49 : tby Try.prog 49 = 24 := by kernel_rfl
theorem bld_49 : bldE Try.prog 49 = none := by kernel_rfl
theorem zc_49 : zc Try.prog 49 = some [.nilsl] := by kernel_rfl
theorem tk_51 : tk Try.prog 51 = .st := by kernel_rfl
theorem tsz_51 : tsz Try.prog 51 = 8 := by kernel_rfl
theorem tby_51 : tby Try.prog 51 = 112 := by kernel_rfl
theorem bld_51 : bldE Try.prog 51 = none := by kernel_rfl
theorem zc_51 : zc Try.prog 51 = some [.int .i64 (0), .str [], .nilsl, .int .i64 (0), .int .i64 (0), .nilsl, .str [], .bool false] := by kernel_rfl
theorem plS_51 : plS Try.prog 51 = some [(0, 1), (1, 1), (2, 1), (3, 1), (4, 1), (5, 1), (6, 1), (7, 1)] := by kernel_rfl
theorem fld_51_0 : fld Try.prog 51 0 = some (0, 3) := by kernel_rfl
theorem fld_51_1 : fld Try.prog 51 1 = some (1, 9) := by kernel_rfl
theorem fld_51_2 : fld Try.prog 51 2 = some (2, 49) := by kernel_rfl
theorem fld_51_3 : fld Try.prog 51 3 = some (3, 3) := by kernel_rfl
theorem fld_51_4 : fld Try.prog 51 4 = some (4, 3) := by kernel_rfl
theorem fld_51_5 : fld Try.prog 51 5 = some (5, 49) := by kernel_rfl
theorem fld_51_6 : fld Try.prog 51 6 = some (6, 9) := by kernel_rfl
theorem fld_51_7 : fld Try.prog 51 7 = some (7, 4) := by kernel_rfl
theorem tk_53 : tk Try.prog 53 = .st := by kernel_rfl
theorem tsz_53 : tsz Try.prog 53 = 2 := by kernel_rfl
theorem tby_53 : tby Try.prog 53 = 24 := by kernel_rfl
theorem bld_53 : bldE Try.prog 53 = none := by kernel_rfl
theorem zc_53 : zc Try.prog 53 = some [.int .i64 (0), .str []] := by kernel_rfl
theorem plS_53 : plS Try.prog 53 = some [(0, 1), (1, 1)] := by kernel_rfl
theorem fld_53_0 : fld Try.prog 53 0 = some (0, 3) := by kernel_rfl
theorem fld_53_1 : fld Try.prog 53 1 = some (1, 9) := by kernel_rfl
theorem tk_68 : tk Try.prog 68 = .arr 2 3 := by kernel_rfl
theorem tsz_68 : tsz Try.prog 68 = 2 := by kernel_rfl
theorem tby_68 : tby Try.prog 68 = 16 := by kernel_rfl
theorem bld_68 : bldE Try.prog 68 = none := by kernel_rfl
theorem zc_68 : zc Try.prog 68 = some [.int .i64 (0), .int .i64 (0)] := by kernel_rfl
theorem tk_69 : tk Try.prog 69 = .int .u64 := by kernel_rfl
theorem tsz_69 : tsz Try.prog 69 = 1 := by kernel_rfl
theorem tby_69 : tby Try.prog 69 = 8 := by kernel_rfl
theorem bld_69 : bldE Try.prog 69 = none := by kernel_rfl
theorem zc_69 : zc Try.prog 69 = some [.int .u64 (0)] := by kernel_rfl
theorem tk_73 : tk Try.prog 73 = .st := by kernel_rfl
theorem tsz_73 : tsz Try.prog 73 = 3 := by kernel_rfl
theorem tby_73 : tby Try.prog 73 = 32 := by kernel_rfl
theorem bld_73 : bldE Try.prog 73 = none := by kernel_rfl
theorem zc_73 : zc Try.prog 73 = some [.int .i64 (0), .str [], .bool false] := by kernel_rfl
theorem plS_73 : plS Try.prog 73 = some [(0, 1), (1, 1), (2, 1)] := by kernel_rfl
theorem fld_73_0 : fld Try.prog 73 0 = some (0, 3) := by kernel_rfl
theorem fld_73_1 : fld Try.prog 73 1 = some (1, 9) := by kernel_rfl
theorem fld_73_2 : fld Try.prog 73 2 = some (2, 4) := by kernel_rfl
theorem tk_78 : tk Try.prog 78 = .st := by kernel_rfl
theorem tsz_78 : tsz Try.prog 78 = 3 := by kernel_rfl
theorem tby_78 : tby Try.prog 78 = 32 := by kernel_rfl
theorem bld_78 : bldE Try.prog 78 = none := by kernel_rfl
theorem zc_78 : zc Try.prog 78 = some [.int .i64 (0), .str [], .bool false] := by kernel_rfl
theorem plS_78 : plS Try.prog 78 = some [(0, 1), (1, 1), (2, 1)] := by kernel_rfl
theorem fld_78_0 : fld Try.prog 78 0 = some (0, 3) := by kernel_rfl
theorem fld_78_1 : fld Try.prog 78 1 = some (1, 9) := by kernel_rfl
theorem fld_78_2 : fld Try.prog 78 2 = some (2, 4) := by kernel_rfl
theorem tk_89 : tk Try.prog 89 = .ptr 5 := by kernel_rfl
theorem tsz_89 : tsz Try.prog 89 = 1 := by kernel_rfl
theorem tby_89 : tby Try.prog 89 = 8 := by kernel_rfl
theorem bld_89 : bldE Try.prog 89 = none := by kernel_rfl
theorem zc_89 : zc Try.prog 89 = some [.nilptr] := by kernel_rfl
attribute [push_cast] tk_2 tsz_2 tby_2 bld_2 zc_2 tk_3 tsz_3 tby_3 bld_3 zc_3 tk_4 tsz_4 tby_4 bld_4 zc_4 tk_5 tsz_5 tby_5 bld_5 zc_5 tk_9 tsz_9 tby_9 bld_9 zc_9 tk_25 tsz_25 tby_25 bld_25 zc_25 tk_26 tsz_26 tby_26 bld_26 zc_26 tk_27 tsz_27 tby_27 bld_27 zc_27 tk_29 tsz_29 tby_29 bld_29 zc_29 plS_29 fld_29_0 fld_29_1 fld_29_2 fld_29_3 fld_29_4 fld_29_5 fld_29_6 fld_29_7 tk_30 tsz_30 tby_30 bld_30 zc_30 tk_34 tsz_34 tby_34 bld_34 zc_34 tk_35 tsz_35 tby_35 bld_35 zc_35 tk_39 tsz_39 tby_39 bld_39 zc_39 tk_41 tsz_41 tby_41 bld_41 zc_41 plS_41 fld_41_0 fld_41_1 fld_41_2 fld_41_3 fld_41_4 fld_41_5 fld_41_6 fld_41_7 tk_47 tsz_47 tby_47 bld_47 zc_47 tk_49 tsz_49 tby_49 bld_49 zc_49 tk_51 tsz_51 tby_51 bld_51 zc_51 plS_51 fld_51_0 fld_51_1 fld_51_2 fld_51_3 fld_51_4 fld_51_5 fld_51_6 fld_51_7 tk_53 tsz_53 tby_53 bld_53 zc_53 plS_53 fld_53_0 fld_53_1 tk_68 tsz_68 tby_68 bld_68 zc_68 tk_69 tsz_69 tby_69 bld_69 zc_69 tk_73 tsz_73 tby_73 bld_73 zc_73 plS_73 fld_73_0 fld_73_1 fld_73_2 tk_78 tsz_78 tby_78 bld_78 zc_78 plS_78 fld_78_0 fld_78_1 fld_78_2 tk_89 tsz_89 tby_89 bld_89 zc_89
end Go.Proofs.Lk
