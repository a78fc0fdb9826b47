/- The library's contracts at this program: strings.IndexAny, strings.Fields, strings.Builder; the package-level variables. -/
import Derived.Test.YtoemcdgebkkcoaaGreatDoorPvBc
import Derived.Test.YtoemcdgebkkcoaaGreatDoorPvV
import Derived.Test.YtoemcdgebkkcoaaGreatDoorProg
import Derived.KernelRfl
import Derived.Shelf.Strings.IndexAnyAll
import Derived.Shelf.Strings.Fields
import Derived.Shelf.Strconv.Clone
import Derived.Shelf.Strings.Builder1
import Derived.Test.YtoemcdgebkkcoaaGreatDoorPvY
namespace Go.Proofs
open Go.Shelf
def Tryz.laysN153_ren : Go.Shelf.Ren := ⟨fun | 153 => 106 | 152 => 109 | 226 => 110 | 227 => 111 | 228 => 112 | 137 => 115 | 119 => 116 | 224 => 117 | 225 => 118 | 217 => 119 | 266 => 120 | n => n, fun | 9 => 9 | 3 => 3 | 4 => 4 | 5 => 5 | 21 => 21 | 117 => 184 | 116 => 183 | 0 => 0 | 46 => 103 | 124 => 199 | n => n, fun | n => n⟩
theorem Tryz.laysN153 : Go.Proofs.Lays.n153 Tryz.prog Tryz.laysN153_ren := {
 mixed := by kernel_rfl
 f119 := Tryz.func116.trans (congrArg some (by kernel_rfl))
 f137 := Tryz.func115.trans (congrArg some (by kernel_rfl))
 f152 := Tryz.func109.trans (congrArg some (by kernel_rfl))
 f153 := Tryz.func106.trans (congrArg some (by kernel_rfl))
 f217 := Tryz.func119.trans (congrArg some (by kernel_rfl))
 f224 := Tryz.func117.trans (congrArg some (by kernel_rfl))
 f225 := Tryz.func118.trans (congrArg some (by kernel_rfl))
 f226 := Tryz.func110.trans (congrArg some (by kernel_rfl))
 f227 := Tryz.func111.trans (congrArg some (by kernel_rfl))
 f228 := Tryz.func112.trans (congrArg some (by kernel_rfl))
 f266 := Tryz.func120.trans (congrArg some (by kernel_rfl))
 t0 := Tryz.underlying0
 a0 := Tryz.isAgg0
 z0 := Tryz.sizeOf0
 v0 := Tryz.zeroValue0
 t3 := Tryz.underlying3
 a3 := Tryz.isAgg3
 z3 := Tryz.sizeOf3
 v3 := Tryz.zeroValue3
 t4 := Tryz.underlying4
 a4 := Tryz.isAgg4
 z4 := Tryz.sizeOf4
 v4 := Tryz.zeroValue4
 t5 := Tryz.underlying5
 a5 := Tryz.isAgg5
 z5 := Tryz.sizeOf5
 v5 := Tryz.zeroValue5
 t9 := Tryz.underlying9
 a9 := Tryz.isAgg9
 z9 := Tryz.sizeOf9
 v9 := Tryz.zeroValue9
 t21 := Tryz.underlying21
 a21 := Tryz.isAgg21
 z21 := Tryz.sizeOf21
 v21 := Tryz.zeroValue21
 t46 := Tryz.underlying103
 a46 := Tryz.isAgg103
 z46 := Tryz.sizeOf103
 v46 := Tryz.zeroValue103
 t116 := Tryz.underlying183
 a116 := Tryz.isAgg183
 z116 := Tryz.sizeOf183
 t117 := Tryz.underlying184
 a117 := Tryz.isAgg184
 z117 := Tryz.sizeOf184
 v117 := Tryz.zeroValue184
 t124 := Tryz.underlying199
 a124 := Tryz.isAgg199
 z124 := Tryz.sizeOf199
 v124 := Tryz.zeroValue199 }
def Tryz.laysN157_ren : Go.Shelf.Ren := ⟨fun | 157 => 100 | 229 => 104 | 199 => 105 | 261 => 108 | 311 => 113 | 312 => 114 | n => n, fun | 9 => 9 | 31 => 28 | 3 => 3 | 5 => 5 | 4 => 4 | 119 => 170 | 0 => 0 | 40 => 172 | 152 => 175 | 21 => 21 | 154 => 177 | 51 => 178 | 141 => 180 | 196 => 191 | 193 => 188 | 198 => 193 | 49 => 47 | 194 => 189 | 201 => 196 | 226 => 200 | 46 => 103 | 227 => 201 | n => n, fun | 0 => 2 | 6 => 3 | n => n⟩
theorem Tryz.laysN157 : Go.Proofs.Lays.n157 Tryz.prog Tryz.laysN157_ren := {
 mixed := by kernel_rfl
 f157 := Tryz.func100.trans (congrArg some (by kernel_rfl))
 f199 := Tryz.func105.trans (congrArg some (by kernel_rfl))
 f229 := Tryz.func104.trans (congrArg some (by kernel_rfl))
 f261 := Tryz.func108.trans (congrArg some (by kernel_rfl))
 f311 := Tryz.func113.trans (congrArg some (by kernel_rfl))
 f312 := Tryz.func114.trans (congrArg some (by kernel_rfl))
 t0 := Tryz.underlying0
 a0 := Tryz.isAgg0
 z0 := Tryz.sizeOf0
 v0 := Tryz.zeroValue0
 t3 := Tryz.underlying3
 a3 := Tryz.isAgg3
 z3 := Tryz.sizeOf3
 v3 := Tryz.zeroValue3
 t4 := Tryz.underlying4
 a4 := Tryz.isAgg4
 z4 := Tryz.sizeOf4
 v4 := Tryz.zeroValue4
 t5 := Tryz.underlying5
 a5 := Tryz.isAgg5
 z5 := Tryz.sizeOf5
 v5 := Tryz.zeroValue5
 t9 := Tryz.underlying9
 a9 := Tryz.isAgg9
 z9 := Tryz.sizeOf9
 v9 := Tryz.zeroValue9
 t21 := Tryz.underlying21
 a21 := Tryz.isAgg21
 z21 := Tryz.sizeOf21
 v21 := Tryz.zeroValue21
 t31 := Tryz.underlying28
 a31 := Tryz.isAgg28
 z31 := Tryz.sizeOf28
 v31 := Tryz.zeroValue28
 t40 := Tryz.underlying172
 a40 := Tryz.isAgg172
 z40 := Tryz.sizeOf172
 v40 := Tryz.zeroValue172
 t46 := Tryz.underlying103
 a46 := Tryz.isAgg103
 z46 := Tryz.sizeOf103
 v46 := Tryz.zeroValue103
 t49 := Tryz.underlying47
 a49 := Tryz.isAgg47
 z49 := Tryz.sizeOf47
 v49 := Tryz.zeroValue47
 t51 := Tryz.underlying178
 a51 := Tryz.isAgg178
 z51 := Tryz.sizeOf178
 v51 := Tryz.zeroValue178
 t119 := Tryz.underlying170
 a119 := Tryz.isAgg170
 z119 := Tryz.sizeOf170
 t141 := Tryz.underlying180
 a141 := Tryz.isAgg180
 z141 := Tryz.sizeOf180
 v141 := Tryz.zeroValue180
 t152 := Tryz.underlying175
 a152 := Tryz.isAgg175
 z152 := Tryz.sizeOf175
 v152 := Tryz.zeroValue175
 t154 := Tryz.underlying177
 a154 := Tryz.isAgg177
 z154 := Tryz.sizeOf177
 v154 := Tryz.zeroValue177
 t193 := Tryz.underlying188
 a193 := Tryz.isAgg188
 z193 := Tryz.sizeOf188
 v193 := Tryz.zeroValue188
 t194 := Tryz.underlying189
 a194 := Tryz.isAgg189
 z194 := Tryz.sizeOf189
 v194 := Tryz.zeroValue189
 t196 := Tryz.underlying191
 a196 := Tryz.isAgg191
 z196 := Tryz.sizeOf191
 v196 := Tryz.zeroValue191
 t198 := Tryz.underlying193
 a198 := Tryz.isAgg193
 z198 := Tryz.sizeOf193
 v198 := Tryz.zeroValue193
 t201 := Tryz.underlying196
 a201 := Tryz.isAgg196
 z201 := Tryz.sizeOf196
 v201 := Tryz.zeroValue196
 t226 := Tryz.underlying200
 a226 := Tryz.isAgg200
 z226 := Tryz.sizeOf200
 v226 := Tryz.zeroValue200
 t227 := Tryz.underlying201
 a227 := Tryz.isAgg201
 z227 := Tryz.sizeOf201
 v227 := Tryz.zeroValue201
 g0 := by kernel_rfl
 g6 := by kernel_rfl }
def Tryz.laysN169_ren : Go.Shelf.Ren := ⟨fun | 169 => 45 | n => n, fun | 70 => 87 | 9 => 9 | 0 => 0 | 72 => 89 | 37 => 23 | 127 => 139 | 3 => 3 | 5 => 5 | n => n, fun | n => n⟩
theorem Tryz.laysN169 : Go.Proofs.Lays.n169 Tryz.prog Tryz.laysN169_ren := {
 mixed := by kernel_rfl
 f169 := Tryz.func45.trans (congrArg some (by kernel_rfl))
 t0 := Tryz.underlying0
 a0 := Tryz.isAgg0
 z0 := Tryz.sizeOf0
 v0 := Tryz.zeroValue0
 t3 := Tryz.underlying3
 a3 := Tryz.isAgg3
 z3 := Tryz.sizeOf3
 v3 := Tryz.zeroValue3
 t9 := Tryz.underlying9
 a9 := Tryz.isAgg9
 z9 := Tryz.sizeOf9
 v9 := Tryz.zeroValue9
 t37 := Tryz.underlying23
 a37 := Tryz.isAgg23
 z37 := Tryz.sizeOf23
 v37 := Tryz.zeroValue23
 t70 := Tryz.underlying87
 a70 := Tryz.isAgg87
 z70 := Tryz.sizeOf87
 v70 := Tryz.zeroValue87
 t72 := Tryz.underlying89
 a72 := Tryz.isAgg89
 z72 := Tryz.sizeOf89
 v72 := Tryz.zeroValue89
 t127 := Tryz.underlying139
 a127 := Tryz.isAgg139
 z127 := Tryz.sizeOf139
 v127 := Tryz.zeroValue139 }
def Tryz.laysM316_ren : Go.Shelf.Ren := ⟨fun | 316 => 94 | n => n, fun | 9 => 9 | 3 => 3 | 4 => 4 | 37 => 23 | 0 => 0 | 127 => 139 | 5 => 5 | n => n, fun | n => n⟩
theorem Tryz.laysM316 : Go.Proofs.LaysM.n316 Tryz.prog Tryz.laysM316_ren := {
 mixed := by kernel_rfl
 f316 := Tryz.func94.trans (congrArg some (by kernel_rfl))
 t0 := Tryz.underlying0
 a0 := Tryz.isAgg0
 z0 := Tryz.sizeOf0
 v0 := Tryz.zeroValue0
 t3 := Tryz.underlying3
 a3 := Tryz.isAgg3
 z3 := Tryz.sizeOf3
 v3 := Tryz.zeroValue3
 t4 := Tryz.underlying4
 a4 := Tryz.isAgg4
 z4 := Tryz.sizeOf4
 v4 := Tryz.zeroValue4
 t9 := Tryz.underlying9
 a9 := Tryz.isAgg9
 z9 := Tryz.sizeOf9
 v9 := Tryz.zeroValue9
 t37 := Tryz.underlying23
 a37 := Tryz.isAgg23
 z37 := Tryz.sizeOf23
 v37 := Tryz.zeroValue23
 t127 := Tryz.underlying139
 a127 := Tryz.isAgg139
 z127 := Tryz.sizeOf139
 v127 := Tryz.zeroValue139
 t5 := Tryz.underlying5
 a5 := Tryz.isAgg5
 z5 := Tryz.sizeOf5
 v5 := Tryz.zeroValue5
 i0 := by kernel_rfl
 i3 := by kernel_rfl
 i4 := by kernel_rfl
 i5 := by kernel_rfl
 i9 := by kernel_rfl
 i37 := by kernel_rfl
 i127 := by kernel_rfl }
theorem Tryz.setN153 : (Tryz.prog.info? (Tryz.laysN153_ren.t 116)).map (fun i => (i.zero, i.size)) = some (some (.agg (Array.replicate 256 (.bool false))), 256) := by kernel_rfl
open Go.RowKit in
theorem Tryz.indexAny (s chars : ByteArray) (w : World) (hs : s.size < 4294967281) (hcs : chars.size < 4294967281)
 (has : ∀ (j : Nat) b, s.data.toList[j]? = some b → b.toNat < 128) (hac : ∀ (j : Nat) b, chars.data.toList[j]? = some b → b.toNat < 128) :
 Calls Tryz.prog 106 #[.string s, .string chars] w fun e w' => e = .returned (.int .i64 (Lib.indexAny s.data.toList chars.data.toList)) ∧ Below w.heap.size w w' :=
 Any.strings_IndexAny_laid Tryz.laysN153 Tryz.setN153 s chars w hs hcs has hac
set_option maxHeartbeats 1000000 in
set_option maxRecDepth 100000 in
theorem Tryz.check_used (b : Nat) (w : World) (h0 : w.cell? ⟨b, 0, none⟩ = some (.pointer (some ⟨b, 0, none⟩))) :
 Calls Tryz.prog 77 #[.pointer (some ⟨b, 0, none⟩)] w fun e w' => e = .returned (.tuple #[]) ∧ w' = w := by
 obtain ⟨j, hj, _⟩ := Option.map_eq_some_iff.1 (show (Tryz.prog.info? 89).map (·.size) = some 2 by kernel_rfl)
 have mixed : Tryz.prog.follows .mixedOrders = true := by kernel_rfl
 have t89 := Tryz.underlying89; have a89 := Tryz.isAgg89; have z89 := Tryz.sizeOf89; have v89 := Tryz.zeroValue89; have u89 := run_underlying Tryz.underlying89
 have t87 := Tryz.underlying87; have a87 := Tryz.isAgg87; have z87 := Tryz.sizeOf87; have v87 := Tryz.zeroValue87; have u87 := run_underlying Tryz.underlying87
 have t4 := Tryz.underlying4; have a4 := Tryz.isAgg4; have z4 := Tryz.sizeOf4; have v4 := Tryz.zeroValue4; have u4 := run_underlying Tryz.underlying4
 have t159 := Tryz.underlying159; have a159 := Tryz.isAgg159; have z159 := Tryz.sizeOf159; have v159 := Tryz.zeroValue159; have u159 := run_underlying Tryz.underlying159
 go_enter Tryz.func77, Tryz.ntmps77
 go_wp2
 rw [Lib.run_neq_ptr_same w _ Tryz.underlying87 hj]
 go_wp2
 go_end0
 exact ⟨rfl, rfl⟩
set_option maxHeartbeats 1000000 in
set_option maxRecDepth 100000 in
theorem Tryz.check_fresh (b : Nat) (w : World) (h0 : w.cell? ⟨b, 0, none⟩ = some (.pointer none)) (hsh : w.shape? b = some (89, 2)) (hfz : w.frozen? ⟨b, 0, none⟩ = false) :
 Calls Tryz.prog 77 #[.pointer (some ⟨b, 0, none⟩)] w fun e w' => e = .returned (.tuple #[]) ∧ w' = w.setCell ⟨b, 0, none⟩ (.pointer (some ⟨b, 0, none⟩)) := by
 obtain ⟨j, hj, hjs⟩ := Option.map_eq_some_iff.1 (show (Tryz.prog.info? 89).map (·.size) = some 2 by kernel_rfl)
 have mixed : Tryz.prog.follows .mixedOrders = true := by kernel_rfl
 have t89 := Tryz.underlying89; have a89 := Tryz.isAgg89; have z89 := Tryz.sizeOf89; have v89 := Tryz.zeroValue89; have u89 := run_underlying Tryz.underlying89
 have t87 := Tryz.underlying87; have a87 := Tryz.isAgg87; have z87 := Tryz.sizeOf87; have v87 := Tryz.zeroValue87; have u87 := run_underlying Tryz.underlying87
 have t4 := Tryz.underlying4; have a4 := Tryz.isAgg4; have z4 := Tryz.sizeOf4; have v4 := Tryz.zeroValue4; have u4 := run_underlying Tryz.underlying4
 have t159 := Tryz.underlying159; have a159 := Tryz.isAgg159; have z159 := Tryz.sizeOf159; have v159 := Tryz.zeroValue159; have u159 := run_underlying Tryz.underlying159
 go_enter Tryz.func77, Tryz.ntmps77
 go_wp2
 rw [Lib.run_to_unsafe w ⟨b, 0, none⟩ Tryz.underlying87 Tryz.underlying159 hj (by rw [hjs]; decide) hsh (Nat.zero_lt_succ 1)]
 simp only [Result.andThen]
 rw [Oper.upon_value]
 go_wp2
 rw [run_callFunc_extern Tryz.func96 (by kernel_rfl) (by kernel_rfl) (by kernel_rfl) (e := Extern.AbiNoEscape.same) (by kernel_rfl)]
 rw [Lib.run_noEscape]
 simp only [Result.andThen]
 rw [Oper.upon_value]
 go_wp2
 rw [Lib.run_from_unsafe w ⟨b, 0, none⟩ Tryz.underlying159 Tryz.underlying87 hj hsh (by kernel_rfl)]
 simp only [Result.andThen]
 rw [Oper.upon_value]
 go_wp2
 go_end0
 exact ⟨rfl, rfl⟩
open Go.RowKit in
theorem Tryz.stringslite_Clone (s : ByteArray) (w : World) (hlim : s.size ≤ 281474976710656) :
 Calls Tryz.prog 94 #[.string s] w fun e w' => e = .returned (.string s) ∧ Below w.heap.size w w' := Any.stringslite_Clone Tryz.laysM316 s w hlim
instance Tryz.gtab : Go.Pv.GTab := ⟨[(0, [.int .i64 1, .int .i64 0, .int .i64 255, .int .i64 2, .int .i64 0, .int .i64 65535, .int .i64 4, .int .i64 0, .int .i64 4294967295, .int .i64 (-1), .int .i64 (-128), .int .i64 127, .int .i64 (-2), .int .i64 (-32768), .int .i64 32767, .int .i64 (-4), .int .i64 (-2147483648), .int .i64 2147483647]),
 (2, [.int .u8 0, .int .u8 0, .int .u8 0, .int .u8 0, .int .u8 0, .int .u8 0, .int .u8 0, .int .u8 0, .int .u8 0, .int .u8 1, .int .u8 1, .int .u8 1, .int .u8 1, .int .u8 1, .int .u8 0, .int .u8 0, .int .u8 0, .int .u8 0, .int .u8 0, .int .u8 0, .int .u8 0, .int .u8 0, .int .u8 0, .int .u8 0, .int .u8 0, .int .u8 0, .int .u8 0, .int .u8 0, .int .u8 0, .int .u8 0, .int .u8 0, .int .u8 0, .int .u8 1, .int .u8 0, .int .u8 0, .int .u8 0, .int .u8 0, .int .u8 0, .int .u8 0, .int .u8 0, .int .u8 0, .int .u8 0, .int .u8 0, .int .u8 0, .int .u8 0, .int .u8 0, .int .u8 0, .int .u8 0, .int .u8 0, .int .u8 0, .int .u8 0, .int .u8 0, .int .u8 0, .int .u8 0, .int .u8 0, .int .u8 0, .int .u8 0, .int .u8 0, .int .u8 0, .int .u8 0, .int .u8 0, .int .u8 0, .int .u8 0, .int .u8 0, .int .u8 0, .int .u8 0, .int .u8 0, .int .u8 0, .int .u8 0, .int .u8 0, .int .u8 0, .int .u8 0, .int .u8 0, .int .u8 0, .int .u8 0, .int .u8 0, .int .u8 0, .int .u8 0, .int .u8 0, .int .u8 0, .int .u8 0, .int .u8 0, .int .u8 0, .int .u8 0, .int .u8 0, .int .u8 0, .int .u8 0, .int .u8 0, .int .u8 0, .int .u8 0, .int .u8 0, .int .u8 0, .int .u8 0, .int .u8 0, .int .u8 0, .int .u8 0, .int .u8 0, .int .u8 0, .int .u8 0, .int .u8 0, .int .u8 0, .int .u8 0, .int .u8 0, .int .u8 0, .int .u8 0, .int .u8 0, .int .u8 0, .int .u8 0, .int .u8 0, .int .u8 0, .int .u8 0, .int .u8 0, .int .u8 0, .int .u8 0, .int .u8 0, .int .u8 0, .int .u8 0, .int .u8 0, .int .u8 0, .int .u8 0, .int .u8 0, .int .u8 0, .int .u8 0, .int .u8 0, .int .u8 0, .int .u8 0, .int .u8 0, .int .u8 0, .int .u8 0, .int .u8 0, .int .u8 0, .int .u8 0, .int .u8 0, .int .u8 0, .int .u8 0, .int .u8 0, .int .u8 0, .int .u8 0, .int .u8 0, .int .u8 0, .int .u8 0, .int .u8 0, .int .u8 0, .int .u8 0, .int .u8 0, .int .u8 0, .int .u8 0, .int .u8 0, .int .u8 0, .int .u8 0, .int .u8 0, .int .u8 0, .int .u8 0, .int .u8 0, .int .u8 0, .int .u8 0, .int .u8 0, .int .u8 0, .int .u8 0, .int .u8 0, .int .u8 0, .int .u8 0, .int .u8 0, .int .u8 0, .int .u8 0, .int .u8 0, .int .u8 0, .int .u8 0, .int .u8 0, .int .u8 0, .int .u8 0, .int .u8 0, .int .u8 0, .int .u8 0, .int .u8 0, .int .u8 0, .int .u8 0, .int .u8 0, .int .u8 0, .int .u8 0, .int .u8 0, .int .u8 0, .int .u8 0, .int .u8 0, .int .u8 0, .int .u8 0, .int .u8 0, .int .u8 0, .int .u8 0, .int .u8 0, .int .u8 0, .int .u8 0, .int .u8 0, .int .u8 0, .int .u8 0, .int .u8 0, .int .u8 0, .int .u8 0, .int .u8 0, .int .u8 0, .int .u8 0, .int .u8 0, .int .u8 0, .int .u8 0, .int .u8 0, .int .u8 0, .int .u8 0, .int .u8 0, .int .u8 0, .int .u8 0, .int .u8 0, .int .u8 0, .int .u8 0, .int .u8 0, .int .u8 0, .int .u8 0, .int .u8 0, .int .u8 0, .int .u8 0, .int .u8 0, .int .u8 0, .int .u8 0, .int .u8 0, .int .u8 0, .int .u8 0, .int .u8 0, .int .u8 0, .int .u8 0, .int .u8 0, .int .u8 0, .int .u8 0, .int .u8 0, .int .u8 0, .int .u8 0, .int .u8 0, .int .u8 0, .int .u8 0, .int .u8 0, .int .u8 0, .int .u8 0, .int .u8 0, .int .u8 0, .int .u8 0, .int .u8 0, .int .u8 0, .int .u8 0, .int .u8 0, .int .u8 0, .int .u8 0, .int .u8 0, .int .u8 0, .int .u8 0, .int .u8 0, .int .u8 0, .int .u8 0, .int .u8 0]),
 (4, [.int .i64 1, .int .i64 2, .int .i64 4, .int .i64 (-1), .int .i64 (-2), .int .i64 (-4)])]⟩
namespace Sh
open Go.Pv
def ascii : List UInt8 → Bool
 | [] => true
 | b :: l => Nat.blt b.toNat 128 && ascii l
theorem ascii_spec : ∀ {l : List UInt8}, ascii l = true → ∀ (j : Nat) (b : UInt8), l[j]? = some b → b.toNat < 128
 | [], _, j, b, h => by simp at h
 | a :: l, hl, j, b, h => by
  simp only [ascii, Bool.and_eq_true, Nat.blt_eq] at hl
  cases j with
  | zero => simp at h; subst h; exact hl.1
  | succ j => exact ascii_spec hl.2 j b (by simpa using h)
def anyCl : Cl := fun f bs nt args =>
 match Nat.beq f 106, bs, nt, args with
 | true, [], 0, [.str s, .str c] => match ascii s && (ascii c && (Nat.blt s.length 4000000000 && Nat.blt c.length 4000000000)) with | true => some ([], 0, .int .i64 (Lib.indexAny s c)) | false => none
 | _, _, _, _ => none
theorem anyCl_ok : anyCl.Ok Tryz.prog := by
 intro f bs nt args bs' nt' r h
 unfold anyCl at h
 split at h
 ·rename_i s c hf
  have hf := Nat.eq_of_beq_eq_true hf
  subst hf
  split at h
  ·rename_i hh
   simp only [Bool.and_eq_true, Nat.blt_eq] at hh
   obtain ⟨h1, h2, h3, h4⟩ := hh
   cases h
   refine Fsp.of_below ⟨Tryz.f106, Tryz.func106, by kernel_rfl, by kernel_rfl⟩ fun g w vs _ hsz hargs => ?_
   obtain ⟨a, b, rfl⟩ : ∃ a b, vs = #[a, b] := by
    have : vs.size = 2 := hsz
    match vs, this with
    | ⟨[a, b]⟩, _ => exact ⟨a, b, rfl⟩
   have e1 := (hargs 0 a _ rfl rfl).str_inv
   have e2 := (hargs 1 b _ rfl rfl).str_inv
   subst e1; subst e2
   refine (Tryz.indexAny _ _ w ?_ ?_ (ascii_spec h1) (ascii_spec h2)).mono fun e w' ⟨he, hb⟩ => ⟨_, he, .int _ _, hb⟩
   ·show s.length < _; omega
   ·show c.length < _; omega
  ·cases h
 ·cases h
theorem space_at : (List.range 256).all (fun c => pvEq ((gat Tryz.gtab.tab 2).getD [] |>.getD c .any) (.int .u8 (if Lib.isSp (UInt8.ofNat c) then 1 else 0))) = true := by kernel_rfl
theorem space_len : ((gat Tryz.gtab.tab 2).getD []).length = 256 := by kernel_rfl
theorem space_some : (gat Tryz.gtab.tab 2).isSome = true := by kernel_rfl
theorem space_cell {g : Gh} {S : PS} {w : World} (hI : InvW g S w) (c : Nat) (hc : c < 256) : w.cell? ⟨2, c, none⟩ = some (.int .u8 (if Lib.isSp (UInt8.ofNat c) then 1 else 0)) := by
 obtain ⟨ps, hps⟩ := Option.isSome_iff_exists.1 space_some
 have h1 := hI.gl 2 ps hps
 have hl := space_len
 have ha := List.all_eq_true.1 space_at c (List.mem_range.2 hc)
 rw [hps] at hl ha
 simp only [Option.getD_some] at hl ha
 have h2 := pvEq_eq ha
 cases h1 with
 | loc b off ps vals hh ho hp =>
  have h3 := hh c (by omega)
  rw [Nat.zero_add] at h3
  have h4 := hp c _ (by rw [List.getElem?_eq_getElem (by omega)])
  have h5 : ps[c]'(by omega) = ps.getD c .any := by rw [List.getD_eq_getElem?_getD, List.getElem?_eq_getElem (by omega)]; rfl
  rw [h5, h2] at h4
  have h6 := hI.cell h3 (ho c (by omega))
  rw [h6]
  cases hv : vals c <;> rw [hv] at h4 <;> cases h4
  rfl
def fldCl : Cl := fnCl 100 fun args => match args with
 | [.str s] => match ascii s && Nat.blt s.length 4000000000 with | true => some (.sl 1 ((Lib.fields s).map .str)) | false => none
 | _ => none
theorem fldCl_ok : fldCl.Ok Tryz.prog := fnCl_ok fun args r h => by
 split at h
 ·rename_i s
  split at h
  ·rename_i hh
   simp only [Bool.and_eq_true, Nat.blt_eq] at hh
   cases h
   refine Fsp.untok (r := .slt 1 ((Lib.fields s).map .str) 0) (nt' := 1) (Fsp.of_row ⟨Tryz.f100, Tryz.func100, by kernel_rfl, by kernel_rfl⟩ (fun p hp => by obtain ⟨x, _, rfl⟩ := List.mem_map.1 hp; rfl) fun g w vs hI hsz hargs => ?_)
   obtain ⟨a, rfl⟩ : ∃ a, vs = #[a] := by
    have : vs.size = 1 := hsz
    match vs, this with
    | ⟨[a]⟩, _ => exact ⟨a, rfl⟩
   have e1 := (hargs 0 a _ rfl rfl).str_inv
   subst e1
   have hfl : ∀ l : List (List UInt8), (l.map PV.str).flatMap PV.cells = l.map PV.str := by
    intro l; induction l with
    | nil => rfl
    | cons x l ih => simp only [List.map_cons, List.flatMap_cons, ih]; rfl
   have hlen : (Lib.fields s).length ≤ maxLen := by
    have h1 : ∀ (l : List UInt8) (b : Bool), Lib.cntF b l ≤ l.length := by
     intro l
     induction l with
     | nil => intro b; exact Nat.le_refl _
     | cons x l ih =>
      intro b
      have := ih (Lib.isSp x)
      simp only [Lib.cntF, List.length_cons]
      split <;> omega
    have h2 := h1 s true
    rw [Lib.fields_length, maxLen_eq]; omega
   refine (Any.strings_Fields_core Tryz.laysN157 (by kernel_rfl) ⟨⟨s⟩⟩ w (by show s.length < _; omega) (ascii_spec hh.1) (fun c hc => space_cell hI c hc)).mono fun e w' ⟨he, hw⟩ => ?_
   subst hw
   refine ⟨_, _, _, _, he, Pushed.alloc _ _, by simp, Nat.le_refl _, hlen, by simp, ?_, ?_⟩
   ·intro i v hv
    simp only [List.getElem?_toArray, List.getElem?_map] at hv
    obtain ⟨x, _, rfl⟩ := Option.map_eq_some_iff.1 hv
    rfl
   ·intro i v p hv hp
    rw [hfl] at hp
    simp only [List.getElem?_toArray, List.getElem?_map] at hv hp
    obtain ⟨x, hx, rfl⟩ := Option.map_eq_some_iff.1 hv
    rw [hx] at hp
    cases hp
    exact .str x
  ·cases h
 ·cases h
theorem mixed : Tryz.prog.follows .mixedOrders = true := by kernel_rfl
theorem check_fs (c : PV) (nt : Nat) : Fsp Tryz.prog 77 [[.nbp 89 0, c]] nt [.box 0 0] [[.nbp 89 0, c]] nt (.tup []) :=
 bld_check ⟨Tryz.f77, Tryz.func77, by kernel_rfl, by kernel_rfl⟩ Tryz.check_fresh Tryz.check_used
theorem string_fs (l : List UInt8) : Fsp Tryz.prog 45 [[.nbp 89 0, .bsl 5 (bs l) 0]] 1 [.box 0 0] [[.nbp 89 0, .sl 1 (bs l)]] 0 (.str l) :=
 bld_string Tryz.laysN169 { sizeBuilder := by kernel_rfl, liesBuilder := by kernel_rfl, t5 := Tryz.underlying5, a5 := Tryz.isAgg5, z5 := Tryz.sizeOf5, v5 := Tryz.zeroValue5, infoByte := by kernel_rfl, cellsByte := by kernel_rfl, sizeByte := by kernel_rfl, neB5 := by decide } l
def bldCl : Cl := orCl (chkCl 77 89) (txtCl 45 89 5)
theorem bldCl_ok : bldCl.Ok Tryz.prog := orCl_ok (chkCl_ok check_fs) (txtCl_ok string_fs)
theorem clOk : (strCl 94).Ok Tryz.prog := strCl_ok ⟨Tryz.f94, Tryz.func94, by kernel_rfl, by kernel_rfl⟩ fun s w h => Tryz.stringslite_Clone s w h
end Sh
end Go.Proofs
set_option maxRecDepth 100000
namespace Go.Proofs.Sh
open Go.Pv
theorem tk_2 : tk Tryz.prog 2 = .int .i64 := by kernel_rfl
theorem tsz_2 : tsz Tryz.prog 2 = 1 := by kernel_rfl
theorem zc_2 : zc Tryz.prog 2 = some [.int .i64 (0)] := by kernel_rfl
theorem tk_3 : tk Tryz.prog 3 = .int .i64 := by kernel_rfl
theorem tsz_3 : tsz Tryz.prog 3 = 1 := by kernel_rfl
theorem bld_3 : bldE Tryz.prog 3 = none := by kernel_rfl
theorem zc_3 : zc Tryz.prog 3 = some [.int .i64 (0)] := by kernel_rfl
theorem tk_4 : tk Tryz.prog 4 = .bool := by kernel_rfl
theorem tsz_4 : tsz Tryz.prog 4 = 1 := by kernel_rfl
theorem tk_5 : tk Tryz.prog 5 = .int .u8 := by kernel_rfl
theorem tsz_5 : tsz Tryz.prog 5 = 1 := by kernel_rfl
theorem tby_5 : tby Tryz.prog 5 = 1 := by kernel_rfl
theorem zc_5 : zc Tryz.prog 5 = some [.int .u8 (0)] := by kernel_rfl
theorem tk_9 : tk Tryz.prog 9 = .str := by kernel_rfl
theorem tsz_9 : tsz Tryz.prog 9 = 1 := by kernel_rfl
theorem tby_9 : tby Tryz.prog 9 = 16 := by kernel_rfl
theorem zc_9 : zc Tryz.prog 9 = some [.str []] := by kernel_rfl
theorem tk_22 : tk Tryz.prog 22 = .sl 76 := by kernel_rfl
theorem tk_23 : tk Tryz.prog 23 = .sl 5 := by kernel_rfl
theorem tsz_23 : tsz Tryz.prog 23 = 1 := by kernel_rfl
theorem bld_23 : bldE Tryz.prog 23 = none := by kernel_rfl
theorem zc_23 : zc Tryz.prog 23 = some [.nilsl] := by kernel_rfl
theorem tk_27 : tk Tryz.prog 27 = .fn := by kernel_rfl
theorem tsz_27 : tsz Tryz.prog 27 = 1 := by kernel_rfl
theorem tk_28 : tk Tryz.prog 28 = .sl 9 := by kernel_rfl
theorem tsz_28 : tsz Tryz.prog 28 = 1 := by kernel_rfl
theorem tk_30 : tk Tryz.prog 30 = .st := by kernel_rfl
theorem tsz_30 : tsz Tryz.prog 30 = 2 := by kernel_rfl
theorem bld_30 : bldE Tryz.prog 30 = none := by kernel_rfl
theorem zc_30 : zc Tryz.prog 30 = some [.int .i64 (0), .nilsl] := by kernel_rfl
theorem plS_30 : plS Tryz.prog 30 = some [(0, 1), (1, 1)] := by kernel_rfl
theorem fld_30_0 : fld Tryz.prog 30 0 = some (0, 3) := by kernel_rfl
theorem fld_30_1 : fld Tryz.prog 30 1 = some (1, 28) := by kernel_rfl
theorem tk_31 : tk Tryz.prog 31 = .sl 105 := by kernel_rfl
theorem tsz_31 : tsz Tryz.prog 31 = 1 := by kernel_rfl
theorem tk_32 : tk Tryz.prog 32 = .arr 16 9 := by kernel_rfl
theorem tsz_32 : tsz Tryz.prog 32 = 16 := by kernel_rfl
theorem tk_34 : tk Tryz.prog 34 = .st := by kernel_rfl
theorem tsz_34 : tsz Tryz.prog 34 = 23 := by kernel_rfl
theorem bld_34 : bldE Tryz.prog 34 = none := by kernel_rfl
theorem zc_34 : zc Tryz.prog 34 = some [.int .i64 (0), .nilsl, .int .i64 (0), .str [], .int .i64 (0), .str [], .str [], .str [], .str [], .str [], .str [], .str [], .str [], .str [], .str [], .str [], .str [], .str [], .str [], .str [], .str [], .str [], .bool false] := by kernel_rfl
theorem plS_34 : plS Tryz.prog 34 = some [(0, 1), (1, 1), (2, 1), (3, 1), (4, 1), (5, 16), (21, 1), (22, 1)] := by kernel_rfl
theorem fld_34_0 : fld Tryz.prog 34 0 = some (0, 3) := by kernel_rfl
theorem fld_34_1 : fld Tryz.prog 34 1 = some (1, 31) := by kernel_rfl
theorem fld_34_2 : fld Tryz.prog 34 2 = some (2, 3) := by kernel_rfl
theorem fld_34_3 : fld Tryz.prog 34 3 = some (3, 9) := by kernel_rfl
theorem fld_34_4 : fld Tryz.prog 34 4 = some (4, 3) := by kernel_rfl
theorem fld_34_5 : fld Tryz.prog 34 5 = some (5, 32) := by kernel_rfl
theorem fld_34_6 : fld Tryz.prog 34 6 = some (21, 9) := by kernel_rfl
theorem fld_34_7 : fld Tryz.prog 34 7 = some (22, 4) := by kernel_rfl
theorem tk_36 : tk Tryz.prog 36 = .st := by kernel_rfl
theorem tsz_36 : tsz Tryz.prog 36 = 34 := by kernel_rfl
theorem bld_36 : bldE Tryz.prog 36 = none := by kernel_rfl
theorem zc_36 : zc Tryz.prog 36 = some [.nilfn, .int .i64 (0), .bool false, .int .i64 (0), .nilsl, .int .i64 (0), .nilsl, .int .i64 (0), .nilsl, .int .i64 (0), .str [], .int .i64 (0), .str [], .str [], .str [], .str [], .str [], .str [], .str [], .str [], .str [], .str [], .str [], .str [], .str [], .str [], .str [], .str [], .str [], .bool false, .str [], .str [], .str [], .bool false] := by kernel_rfl
theorem plS_36 : plS Tryz.prog 36 = some [(0, 1), (1, 1), (2, 1), (3, 2), (5, 2), (7, 23), (30, 1), (31, 1), (32, 1), (33, 1)] := by kernel_rfl
theorem fld_36_0 : fld Tryz.prog 36 0 = some (0, 27) := by kernel_rfl
theorem fld_36_1 : fld Tryz.prog 36 1 = some (1, 3) := by kernel_rfl
theorem fld_36_2 : fld Tryz.prog 36 2 = some (2, 4) := by kernel_rfl
theorem fld_36_3 : fld Tryz.prog 36 3 = some (3, 30) := by kernel_rfl
theorem fld_36_4 : fld Tryz.prog 36 4 = some (5, 30) := by kernel_rfl
theorem fld_36_5 : fld Tryz.prog 36 5 = some (7, 34) := by kernel_rfl
theorem fld_36_6 : fld Tryz.prog 36 6 = some (30, 9) := by kernel_rfl
theorem fld_36_7 : fld Tryz.prog 36 7 = some (31, 9) := by kernel_rfl
theorem fld_36_8 : fld Tryz.prog 36 8 = some (32, 9) := by kernel_rfl
theorem fld_36_9 : fld Tryz.prog 36 9 = some (33, 4) := by kernel_rfl
theorem tk_37 : tk Tryz.prog 37 = .int .i64 := by kernel_rfl
theorem tsz_37 : tsz Tryz.prog 37 = 1 := by kernel_rfl
theorem bld_37 : bldE Tryz.prog 37 = none := by kernel_rfl
theorem zc_37 : zc Tryz.prog 37 = some [.int .i64 (0)] := by kernel_rfl
theorem tk_47 : tk Tryz.prog 47 = .int .u16 := by kernel_rfl
theorem tsz_47 : tsz Tryz.prog 47 = 1 := by kernel_rfl
theorem tk_64 : tk Tryz.prog 64 = .sl 68 := by kernel_rfl
theorem tk_65 : tk Tryz.prog 65 = .sl 71 := by kernel_rfl
theorem tk_66 : tk Tryz.prog 66 = .sl 2 := by kernel_rfl
theorem tsz_66 : tsz Tryz.prog 66 = 1 := by kernel_rfl
theorem tk_68 : tk Tryz.prog 68 = .st := by kernel_rfl
theorem tsz_68 : tsz Tryz.prog 68 = 6 := by kernel_rfl
theorem bld_68 : bldE Tryz.prog 68 = none := by kernel_rfl
theorem zc_68 : zc Tryz.prog 68 = some [.int .i64 (0), .int .i64 (0), .int .i64 (0), .nilsl, .str [], .nilsl] := by kernel_rfl
theorem fld_68_0 : fld Tryz.prog 68 0 = some (0, 3) := by kernel_rfl
theorem fld_68_1 : fld Tryz.prog 68 1 = some (1, 3) := by kernel_rfl
theorem fld_68_2 : fld Tryz.prog 68 2 = some (2, 3) := by kernel_rfl
theorem fld_68_3 : fld Tryz.prog 68 3 = some (3, 66) := by kernel_rfl
theorem fld_68_4 : fld Tryz.prog 68 4 = some (4, 9) := by kernel_rfl
theorem fld_68_5 : fld Tryz.prog 68 5 = some (5, 66) := by kernel_rfl
theorem tk_71 : tk Tryz.prog 71 = .st := by kernel_rfl
theorem tsz_71 : tsz Tryz.prog 71 = 2 := by kernel_rfl
theorem bld_71 : bldE Tryz.prog 71 = none := by kernel_rfl
theorem zc_71 : zc Tryz.prog 71 = some [.int .u8 (0), .int .u16 (0)] := by kernel_rfl
theorem fld_71_0 : fld Tryz.prog 71 0 = some (0, 5) := by kernel_rfl
theorem fld_71_1 : fld Tryz.prog 71 1 = some (1, 47) := by kernel_rfl
theorem tk_76 : tk Tryz.prog 76 = .st := by kernel_rfl
theorem tsz_76 : tsz Tryz.prog 76 = 4 := by kernel_rfl
theorem bld_76 : bldE Tryz.prog 76 = none := by kernel_rfl
theorem zc_76 : zc Tryz.prog 76 = some [.int .i64 (0), .nilsl, .str [], .nilsl] := by kernel_rfl
theorem fld_76_0 : fld Tryz.prog 76 0 = some (0, 3) := by kernel_rfl
theorem fld_76_1 : fld Tryz.prog 76 1 = some (1, 66) := by kernel_rfl
theorem fld_76_2 : fld Tryz.prog 76 2 = some (2, 9) := by kernel_rfl
theorem fld_76_3 : fld Tryz.prog 76 3 = some (3, 66) := by kernel_rfl
theorem bld_89 : bldE Tryz.prog 89 = some 5 := by kernel_rfl
theorem zc_89 : zc Tryz.prog 89 = some [.nilptr, .nilsl] := by kernel_rfl
theorem fld_89_1 : fld Tryz.prog 89 1 = some (1, 23) := by kernel_rfl
theorem tk_105 : tk Tryz.prog 105 = .st := by kernel_rfl
theorem tsz_105 : tsz Tryz.prog 105 = 3 := by kernel_rfl
theorem tby_105 : tby Tryz.prog 105 = 32 := by kernel_rfl
theorem bld_105 : bldE Tryz.prog 105 = none := by kernel_rfl
theorem zc_105 : zc Tryz.prog 105 = some [.int .i64 (0), .str [], .bool false] := by kernel_rfl
theorem plS_105 : plS Tryz.prog 105 = some [(0, 1), (1, 1), (2, 1)] := by kernel_rfl
theorem fld_105_0 : fld Tryz.prog 105 0 = some (0, 3) := by kernel_rfl
theorem fld_105_1 : fld Tryz.prog 105 1 = some (1, 9) := by kernel_rfl
theorem fld_105_2 : fld Tryz.prog 105 2 = some (2, 4) := by kernel_rfl
theorem tk_111 : tk Tryz.prog 111 = .sl 3 := by kernel_rfl
theorem tsz_111 : tsz Tryz.prog 111 = 1 := by kernel_rfl
theorem tk_113 : tk Tryz.prog 113 = .st := by kernel_rfl
theorem tsz_113 : tsz Tryz.prog 113 = 3 := by kernel_rfl
theorem bld_113 : bldE Tryz.prog 113 = none := by kernel_rfl
theorem zc_113 : zc Tryz.prog 113 = some [.nilsl, .bool false, .int .i64 (0)] := by kernel_rfl
theorem plS_113 : plS Tryz.prog 113 = some [(0, 1), (1, 1), (2, 1)] := by kernel_rfl
theorem fld_113_0 : fld Tryz.prog 113 0 = some (0, 111) := by kernel_rfl
theorem fld_113_1 : fld Tryz.prog 113 1 = some (1, 4) := by kernel_rfl
theorem fld_113_2 : fld Tryz.prog 113 2 = some (2, 3) := by kernel_rfl
theorem tk_118 : tk Tryz.prog 118 = .st := by kernel_rfl
theorem tsz_118 : tsz Tryz.prog 118 = 3 := by kernel_rfl
theorem zc_118 : zc Tryz.prog 118 = some [.nilsl, .str [], .nilsl] := by kernel_rfl
theorem plS_118 : plS Tryz.prog 118 = some [(0, 1), (1, 1), (2, 1)] := by kernel_rfl
theorem fld_118_0 : fld Tryz.prog 118 0 = some (0, 66) := by kernel_rfl
theorem fld_118_1 : fld Tryz.prog 118 1 = some (1, 9) := by kernel_rfl
theorem fld_118_2 : fld Tryz.prog 118 2 = some (2, 66) := by kernel_rfl
theorem tk_125 : tk Tryz.prog 125 = .ptr 36 := by kernel_rfl
theorem tsz_125 : tsz Tryz.prog 125 = 1 := by kernel_rfl
theorem tk_130 : tk Tryz.prog 130 = .st := by kernel_rfl
theorem tsz_130 : tsz Tryz.prog 130 = 3 := by kernel_rfl
theorem bld_130 : bldE Tryz.prog 130 = none := by kernel_rfl
theorem zc_130 : zc Tryz.prog 130 = some [.int .i64 (0), .int .i64 (0), .int .i64 (0)] := by kernel_rfl
theorem fld_130_1 : fld Tryz.prog 130 1 = some (1, 2) := by kernel_rfl
theorem fld_130_2 : fld Tryz.prog 130 2 = some (2, 2) := by kernel_rfl
theorem tk_142 : tk Tryz.prog 142 = .arr 2 3 := by kernel_rfl
theorem zc_142 : zc Tryz.prog 142 = some [.int .i64 (0), .int .i64 (0)] := by kernel_rfl
theorem tk_144 : tk Tryz.prog 144 = .st := by kernel_rfl
theorem tsz_144 : tsz Tryz.prog 144 = 3 := by kernel_rfl
theorem bld_144 : bldE Tryz.prog 144 = none := by kernel_rfl
theorem zc_144 : zc Tryz.prog 144 = some [.str [], .str [], .str []] := by kernel_rfl
theorem plS_144 : plS Tryz.prog 144 = some [(0, 1), (1, 1), (2, 1)] := by kernel_rfl
theorem fld_144_2 : fld Tryz.prog 144 2 = some (2, 9) := by kernel_rfl
theorem tk_156 : tk Tryz.prog 156 = .int .u64 := by kernel_rfl
attribute [push_cast] tk_2 tsz_2 zc_2 tk_3 tsz_3 bld_3 zc_3 tk_4 tsz_4 tk_5 tsz_5 tby_5 zc_5 tk_9 tsz_9 tby_9 zc_9 tk_22 tk_23 tsz_23 bld_23 zc_23 tk_27 tsz_27 tk_28 tsz_28 tk_30 tsz_30 bld_30 zc_30 plS_30 fld_30_0 fld_30_1 tk_31 tsz_31 tk_32 tsz_32 tk_34 tsz_34 bld_34 zc_34 plS_34 fld_34_0 fld_34_1 fld_34_2 fld_34_3 fld_34_4 fld_34_5 fld_34_6 fld_34_7 tk_36 tsz_36 bld_36 zc_36 plS_36 fld_36_0 fld_36_1 fld_36_2 fld_36_3 fld_36_4 fld_36_5 fld_36_6 fld_36_7 fld_36_8 fld_36_9 tk_37 tsz_37 bld_37 zc_37 tk_47 tsz_47 tk_64 tk_65 tk_66 tsz_66 tk_68 tsz_68 bld_68 zc_68 fld_68_0 fld_68_1 fld_68_2 fld_68_3 fld_68_4 fld_68_5 tk_71 tsz_71 bld_71 zc_71 fld_71_0 fld_71_1 tk_76 tsz_76 bld_76 zc_76 fld_76_0 fld_76_1 fld_76_2 fld_76_3 bld_89 zc_89 fld_89_1 tk_105 tsz_105 tby_105 bld_105 zc_105 plS_105 fld_105_0 fld_105_1 fld_105_2 tk_111 tsz_111 tk_113 tsz_113 bld_113 zc_113 plS_113 fld_113_0 fld_113_1 fld_113_2 tk_118 tsz_118 zc_118 plS_118 fld_118_0 fld_118_1 fld_118_2 tk_125 tsz_125 tk_130 tsz_130 bld_130 zc_130 fld_130_1 fld_130_2 tk_142 zc_142 tk_144 tsz_144 bld_144 zc_144 plS_144 fld_144_2 tk_156
end Go.Proofs.Sh
