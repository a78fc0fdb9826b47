/- The library's contracts at this program: strings.IndexAny, strings.Fields, strings.Builder; the package-level variables. -/
import Derived.Test.YtplaaagcbleflaaDoorPvBc
import Derived.Test.YtplaaagcbleflaaDoorProg
import Derived.KernelRfl
import Derived.Shelf.Strings.IndexAnyAll
import Derived.Shelf.Strings.Fields
import Derived.Shelf.Strings.Builder1
namespace Go.Proofs
open Go.Shelf
def Tryd.laysN153_ren : Go.Shelf.Ren := ⟨fun | 153 => 88 | 152 => 92 | 226 => 93 | 227 => 94 | 228 => 95 | 137 => 98 | 119 => 99 | 224 => 100 | 225 => 101 | 217 => 102 | 266 => 103 | n => n, fun | 9 => 9 | 3 => 3 | 4 => 4 | 5 => 5 | 21 => 21 | 117 => 163 | 116 => 162 | 0 => 0 | 46 => 178 | 124 => 179 | n => n, fun | n => n⟩
theorem Tryd.laysN153 : Go.Proofs.Lays.n153 Tryd.prog Tryd.laysN153_ren := {
  mixed := by kernel_rfl
  f119 := Tryd.func99.trans (congrArg some (by kernel_rfl))
  f137 := Tryd.func98.trans (congrArg some (by kernel_rfl))
  f152 := Tryd.func92.trans (congrArg some (by kernel_rfl))
  f153 := Tryd.func88.trans (congrArg some (by kernel_rfl))
  f217 := Tryd.func102.trans (congrArg some (by kernel_rfl))
  f224 := Tryd.func100.trans (congrArg some (by kernel_rfl))
  f225 := Tryd.func101.trans (congrArg some (by kernel_rfl))
  f226 := Tryd.func93.trans (congrArg some (by kernel_rfl))
  f227 := Tryd.func94.trans (congrArg some (by kernel_rfl))
  f228 := Tryd.func95.trans (congrArg some (by kernel_rfl))
  f266 := Tryd.func103.trans (congrArg some (by kernel_rfl))
  t0 := Tryd.underlying0
  a0 := Tryd.isAgg0
  z0 := Tryd.sizeOf0
  v0 := Tryd.zeroValue0
  t3 := Tryd.underlying3
  a3 := Tryd.isAgg3
  z3 := Tryd.sizeOf3
  v3 := Tryd.zeroValue3
  t4 := Tryd.underlying4
  a4 := Tryd.isAgg4
  z4 := Tryd.sizeOf4
  v4 := Tryd.zeroValue4
  t5 := Tryd.underlying5
  a5 := Tryd.isAgg5
  z5 := Tryd.sizeOf5
  v5 := Tryd.zeroValue5
  t9 := Tryd.underlying9
  a9 := Tryd.isAgg9
  z9 := Tryd.sizeOf9
  v9 := Tryd.zeroValue9
  t21 := Tryd.underlying21
  a21 := Tryd.isAgg21
  z21 := Tryd.sizeOf21
  v21 := Tryd.zeroValue21
  t46 := Tryd.underlying178
  a46 := Tryd.isAgg178
  z46 := Tryd.sizeOf178
  v46 := Tryd.zeroValue178
  t116 := Tryd.underlying162
  a116 := Tryd.isAgg162
  z116 := Tryd.sizeOf162
  t117 := Tryd.underlying163
  a117 := Tryd.isAgg163
  z117 := Tryd.sizeOf163
  v117 := Tryd.zeroValue163
  t124 := Tryd.underlying179
  a124 := Tryd.isAgg179
  z124 := Tryd.sizeOf179
  v124 := Tryd.zeroValue179 }
def Tryd.laysN157_ren : Go.Shelf.Ren := ⟨fun | 157 => 77 | 229 => 86 | 199 => 87 | 261 => 91 | 311 => 96 | 312 => 97 | n => n, fun | 9 => 9 | 31 => 130 | 3 => 3 | 5 => 5 | 4 => 4 | 119 => 149 | 0 => 0 | 40 => 151 | 152 => 155 | 21 => 21 | 154 => 157 | 51 => 77 | 141 => 159 | 196 => 170 | 193 => 167 | 198 => 172 | 49 => 22 | 194 => 168 | 201 => 175 | 226 => 180 | 46 => 178 | 227 => 181 | n => n, fun | 0 => 1 | 6 => 2 | n => n⟩
theorem Tryd.laysN157 : Go.Proofs.Lays.n157 Tryd.prog Tryd.laysN157_ren := {
  mixed := by kernel_rfl
  f157 := Tryd.func77.trans (congrArg some (by kernel_rfl))
  f199 := Tryd.func87.trans (congrArg some (by kernel_rfl))
  f229 := Tryd.func86.trans (congrArg some (by kernel_rfl))
  f261 := Tryd.func91.trans (congrArg some (by kernel_rfl))
  f311 := Tryd.func96.trans (congrArg some (by kernel_rfl))
  f312 := Tryd.func97.trans (congrArg some (by kernel_rfl))
  t0 := Tryd.underlying0
  a0 := Tryd.isAgg0
  z0 := Tryd.sizeOf0
  v0 := Tryd.zeroValue0
  t3 := Tryd.underlying3
  a3 := Tryd.isAgg3
  z3 := Tryd.sizeOf3
  v3 := Tryd.zeroValue3
  t4 := Tryd.underlying4
  a4 := Tryd.isAgg4
  z4 := Tryd.sizeOf4
  v4 := Tryd.zeroValue4
  t5 := Tryd.underlying5
  a5 := Tryd.isAgg5
  z5 := Tryd.sizeOf5
  v5 := Tryd.zeroValue5
  t9 := Tryd.underlying9
  a9 := Tryd.isAgg9
  z9 := Tryd.sizeOf9
  v9 := Tryd.zeroValue9
  t21 := Tryd.underlying21
  a21 := Tryd.isAgg21
  z21 := Tryd.sizeOf21
  v21 := Tryd.zeroValue21
  t31 := Tryd.underlying130
  a31 := Tryd.isAgg130
  z31 := Tryd.sizeOf130
  v31 := Tryd.zeroValue130
  t40 := Tryd.underlying151
  a40 := Tryd.isAgg151
  z40 := Tryd.sizeOf151
  v40 := Tryd.zeroValue151
  t46 := Tryd.underlying178
  a46 := Tryd.isAgg178
  z46 := Tryd.sizeOf178
  v46 := Tryd.zeroValue178
  t49 := Tryd.underlying22
  a49 := Tryd.isAgg22
  z49 := Tryd.sizeOf22
  v49 := Tryd.zeroValue22
  t51 := Tryd.underlying77
  a51 := Tryd.isAgg77
  z51 := Tryd.sizeOf77
  v51 := Tryd.zeroValue77
  t119 := Tryd.underlying149
  a119 := Tryd.isAgg149
  z119 := Tryd.sizeOf149
  t141 := Tryd.underlying159
  a141 := Tryd.isAgg159
  z141 := Tryd.sizeOf159
  v141 := Tryd.zeroValue159
  t152 := Tryd.underlying155
  a152 := Tryd.isAgg155
  z152 := Tryd.sizeOf155
  v152 := Tryd.zeroValue155
  t154 := Tryd.underlying157
  a154 := Tryd.isAgg157
  z154 := Tryd.sizeOf157
  v154 := Tryd.zeroValue157
  t193 := Tryd.underlying167
  a193 := Tryd.isAgg167
  z193 := Tryd.sizeOf167
  v193 := Tryd.zeroValue167
  t194 := Tryd.underlying168
  a194 := Tryd.isAgg168
  z194 := Tryd.sizeOf168
  v194 := Tryd.zeroValue168
  t196 := Tryd.underlying170
  a196 := Tryd.isAgg170
  z196 := Tryd.sizeOf170
  v196 := Tryd.zeroValue170
  t198 := Tryd.underlying172
  a198 := Tryd.isAgg172
  z198 := Tryd.sizeOf172
  v198 := Tryd.zeroValue172
  t201 := Tryd.underlying175
  a201 := Tryd.isAgg175
  z201 := Tryd.sizeOf175
  v201 := Tryd.zeroValue175
  t226 := Tryd.underlying180
  a226 := Tryd.isAgg180
  z226 := Tryd.sizeOf180
  v226 := Tryd.zeroValue180
  t227 := Tryd.underlying181
  a227 := Tryd.isAgg181
  z227 := Tryd.sizeOf181
  v227 := Tryd.zeroValue181
  g0 := by kernel_rfl
  g6 := by kernel_rfl }
def Tryd.laysN169_ren : Go.Shelf.Ren := ⟨fun | 169 => 68 | n => n, fun | 70 => 114 | 9 => 9 | 0 => 0 | 72 => 116 | 37 => 34 | 127 => 145 | 3 => 3 | 5 => 5 | n => n, fun | n => n⟩
theorem Tryd.laysN169 : Go.Proofs.Lays.n169 Tryd.prog Tryd.laysN169_ren := {
  mixed := by kernel_rfl
  f169 := Tryd.func68.trans (congrArg some (by kernel_rfl))
  t0 := Tryd.underlying0
  a0 := Tryd.isAgg0
  z0 := Tryd.sizeOf0
  v0 := Tryd.zeroValue0
  t3 := Tryd.underlying3
  a3 := Tryd.isAgg3
  z3 := Tryd.sizeOf3
  v3 := Tryd.zeroValue3
  t9 := Tryd.underlying9
  a9 := Tryd.isAgg9
  z9 := Tryd.sizeOf9
  v9 := Tryd.zeroValue9
  t37 := Tryd.underlying34
  a37 := Tryd.isAgg34
  z37 := Tryd.sizeOf34
  v37 := Tryd.zeroValue34
  t70 := Tryd.underlying114
  a70 := Tryd.isAgg114
  z70 := Tryd.sizeOf114
  v70 := Tryd.zeroValue114
  t72 := Tryd.underlying116
  a72 := Tryd.isAgg116
  z72 := Tryd.sizeOf116
  v72 := Tryd.zeroValue116
  t127 := Tryd.underlying145
  a127 := Tryd.isAgg145
  z127 := Tryd.sizeOf145
  v127 := Tryd.zeroValue145 }
theorem Tryd.setN153 : (Tryd.prog.info? (Tryd.laysN153_ren.t 116)).map (fun i => (i.zero, i.size)) = some (some (.agg (Array.replicate 256 (.bool false))), 256) := by kernel_rfl
open Go.RowKit in
theorem Tryd.indexAny (s chars : ByteArray) (w : World) (hs : s.size < 4294967281) (hcs : chars.size < 4294967281)
    (has : ∀ (j : Nat) b, s.data.toList[j]? = some b → b.toNat < 128) (hac : ∀ (j : Nat) b, chars.data.toList[j]? = some b → b.toNat < 128) :
    Calls Tryd.prog 88 #[.string s, .string chars] w fun e w' => e = .returned (.int .i64 (Lib.indexAny s.data.toList chars.data.toList)) ∧ Below w.heap.size w w' :=
  Any.strings_IndexAny_laid Tryd.laysN153 Tryd.setN153 s chars w hs hcs has hac
set_option maxHeartbeats 1000000 in
set_option maxRecDepth 100000 in
theorem Tryd.check_used (b : Nat) (w : World) (h0 : w.cell? ⟨b, 0, none⟩ = some (.pointer (some ⟨b, 0, none⟩))) :
    Calls Tryd.prog 84 #[.pointer (some ⟨b, 0, none⟩)] w fun e w' => e = .returned (.tuple #[]) ∧ w' = w := by
  obtain ⟨j, hj, _⟩ := Option.map_eq_some_iff.1 (show (Tryd.prog.info? 116).map (·.size) = some 2 by kernel_rfl)
  have mixed : Tryd.prog.follows .mixedOrders = true := by kernel_rfl
  have t116 := Tryd.underlying116; have a116 := Tryd.isAgg116; have z116 := Tryd.sizeOf116; have v116 := Tryd.zeroValue116; have u116 := run_underlying Tryd.underlying116
  have t114 := Tryd.underlying114; have a114 := Tryd.isAgg114; have z114 := Tryd.sizeOf114; have v114 := Tryd.zeroValue114; have u114 := run_underlying Tryd.underlying114
  have t4 := Tryd.underlying4; have a4 := Tryd.isAgg4; have z4 := Tryd.sizeOf4; have v4 := Tryd.zeroValue4; have u4 := run_underlying Tryd.underlying4
  have t153 := Tryd.underlying153; have a153 := Tryd.isAgg153; have z153 := Tryd.sizeOf153; have v153 := Tryd.zeroValue153; have u153 := run_underlying Tryd.underlying153
  go_enter Tryd.func84, Tryd.ntmps84
  go_wp2
  rw [Lib.run_neq_ptr_same w _ Tryd.underlying114 hj]
  go_wp2
  go_end0
  exact ⟨rfl, rfl⟩
set_option maxHeartbeats 1000000 in
set_option maxRecDepth 100000 in
theorem Tryd.check_fresh (b : Nat) (w : World) (h0 : w.cell? ⟨b, 0, none⟩ = some (.pointer none)) (hsh : w.shape? b = some (116, 2)) (hfz : w.frozen? ⟨b, 0, none⟩ = false) :
    Calls Tryd.prog 84 #[.pointer (some ⟨b, 0, none⟩)] w fun e w' => e = .returned (.tuple #[]) ∧ w' = w.setCell ⟨b, 0, none⟩ (.pointer (some ⟨b, 0, none⟩)) := by
  obtain ⟨j, hj, hjs⟩ := Option.map_eq_some_iff.1 (show (Tryd.prog.info? 116).map (·.size) = some 2 by kernel_rfl)
  have mixed : Tryd.prog.follows .mixedOrders = true := by kernel_rfl
  have t116 := Tryd.underlying116; have a116 := Tryd.isAgg116; have z116 := Tryd.sizeOf116; have v116 := Tryd.zeroValue116; have u116 := run_underlying Tryd.underlying116
  have t114 := Tryd.underlying114; have a114 := Tryd.isAgg114; have z114 := Tryd.sizeOf114; have v114 := Tryd.zeroValue114; have u114 := run_underlying Tryd.underlying114
  have t4 := Tryd.underlying4; have a4 := Tryd.isAgg4; have z4 := Tryd.sizeOf4; have v4 := Tryd.zeroValue4; have u4 := run_underlying Tryd.underlying4
  have t153 := Tryd.underlying153; have a153 := Tryd.isAgg153; have z153 := Tryd.sizeOf153; have v153 := Tryd.zeroValue153; have u153 := run_underlying Tryd.underlying153
  go_enter Tryd.func84, Tryd.ntmps84
  go_wp2
  rw [Lib.run_to_unsafe w ⟨b, 0, none⟩ Tryd.underlying114 Tryd.underlying153 hj (by rw [hjs]; decide) hsh (Nat.zero_lt_succ 1)]
  simp only [Result.andThen]
  rw [Oper.upon_value]
  go_wp2
  rw [run_callFunc_extern Tryd.func90 (by kernel_rfl) (by kernel_rfl) (by kernel_rfl) (e := Extern.AbiNoEscape.same) (by kernel_rfl)]
  rw [Lib.run_noEscape]
  simp only [Result.andThen]
  rw [Oper.upon_value]
  go_wp2
  rw [Lib.run_from_unsafe w ⟨b, 0, none⟩ Tryd.underlying153 Tryd.underlying114 hj hsh (by kernel_rfl)]
  simp only [Result.andThen]
  rw [Oper.upon_value]
  go_wp2
  go_end0
  exact ⟨rfl, rfl⟩
/-- The package-level variables, as they are laid. -/
instance Tryd.gtab : Go.Pv.GTab := ⟨[(0, [.int .i64 1, .int .i64 0, .int .i64 255, .int .i64 2, .int .i64 0, .int .i64 65535, .int .i64 4, .int .i64 0, .int .i64 4294967295, .int .i64 (-1), .int .i64 (-128), .int .i64 127, .int .i64 (-2), .int .i64 (-32768), .int .i64 32767, .int .i64 (-4), .int .i64 (-2147483648), .int .i64 2147483647]),
  (1, [.int .u8 0, .int .u8 0, .int .u8 0, .int .u8 0, .int .u8 0, .int .u8 0, .int .u8 0, .int .u8 0, .int .u8 0, .int .u8 1, .int .u8 1, .int .u8 1, .int .u8 1, .int .u8 1, .int .u8 0, .int .u8 0, .int .u8 0, .int .u8 0, .int .u8 0, .int .u8 0, .int .u8 0, .int .u8 0, .int .u8 0, .int .u8 0, .int .u8 0, .int .u8 0, .int .u8 0, .int .u8 0, .int .u8 0, .int .u8 0, .int .u8 0, .int .u8 0, .int .u8 1, .int .u8 0, .int .u8 0, .int .u8 0, .int .u8 0, .int .u8 0, .int .u8 0, .int .u8 0, .int .u8 0, .int .u8 0, .int .u8 0, .int .u8 0, .int .u8 0, .int .u8 0, .int .u8 0, .int .u8 0, .int .u8 0, .int .u8 0, .int .u8 0, .int .u8 0, .int .u8 0, .int .u8 0, .int .u8 0, .int .u8 0, .int .u8 0, .int .u8 0, .int .u8 0, .int .u8 0, .int .u8 0, .int .u8 0, .int .u8 0, .int .u8 0, .int .u8 0, .int .u8 0, .int .u8 0, .int .u8 0, .int .u8 0, .int .u8 0, .int .u8 0, .int .u8 0, .int .u8 0, .int .u8 0, .int .u8 0, .int .u8 0, .int .u8 0, .int .u8 0, .int .u8 0, .int .u8 0, .int .u8 0, .int .u8 0, .int .u8 0, .int .u8 0, .int .u8 0, .int .u8 0, .int .u8 0, .int .u8 0, .int .u8 0, .int .u8 0, .int .u8 0, .int .u8 0, .int .u8 0, .int .u8 0, .int .u8 0, .int .u8 0, .int .u8 0, .int .u8 0, .int .u8 0, .int .u8 0, .int .u8 0, .int .u8 0, .int .u8 0, .int .u8 0, .int .u8 0, .int .u8 0, .int .u8 0, .int .u8 0, .int .u8 0, .int .u8 0, .int .u8 0, .int .u8 0, .int .u8 0, .int .u8 0, .int .u8 0, .int .u8 0, .int .u8 0, .int .u8 0, .int .u8 0, .int .u8 0, .int .u8 0, .int .u8 0, .int .u8 0, .int .u8 0, .int .u8 0, .int .u8 0, .int .u8 0, .int .u8 0, .int .u8 0, .int .u8 0, .int .u8 0, .int .u8 0, .int .u8 0, .int .u8 0, .int .u8 0, .int .u8 0, .int .u8 0, .int .u8 0, .int .u8 0, .int .u8 0, .int .u8 0, .int .u8 0, .int .u8 0, .int .u8 0, .int .u8 0, .int .u8 0, .int .u8 0, .int .u8 0, .int .u8 0, .int .u8 0, .int .u8 0, .int .u8 0, .int .u8 0, .int .u8 0, .int .u8 0, .int .u8 0, .int .u8 0, .int .u8 0, .int .u8 0, .int .u8 0, .int .u8 0, .int .u8 0, .int .u8 0, .int .u8 0, .int .u8 0, .int .u8 0, .int .u8 0, .int .u8 0, .int .u8 0, .int .u8 0, .int .u8 0, .int .u8 0, .int .u8 0, .int .u8 0, .int .u8 0, .int .u8 0, .int .u8 0, .int .u8 0, .int .u8 0, .int .u8 0, .int .u8 0, .int .u8 0, .int .u8 0, .int .u8 0, .int .u8 0, .int .u8 0, .int .u8 0, .int .u8 0, .int .u8 0, .int .u8 0, .int .u8 0, .int .u8 0, .int .u8 0, .int .u8 0, .int .u8 0, .int .u8 0, .int .u8 0, .int .u8 0, .int .u8 0, .int .u8 0, .int .u8 0, .int .u8 0, .int .u8 0, .int .u8 0, .int .u8 0, .int .u8 0, .int .u8 0, .int .u8 0, .int .u8 0, .int .u8 0, .int .u8 0, .int .u8 0, .int .u8 0, .int .u8 0, .int .u8 0, .int .u8 0, .int .u8 0, .int .u8 0, .int .u8 0, .int .u8 0, .int .u8 0, .int .u8 0, .int .u8 0, .int .u8 0, .int .u8 0, .int .u8 0, .int .u8 0, .int .u8 0, .int .u8 0, .int .u8 0, .int .u8 0, .int .u8 0, .int .u8 0, .int .u8 0, .int .u8 0, .int .u8 0, .int .u8 0, .int .u8 0, .int .u8 0, .int .u8 0, .int .u8 0, .int .u8 0, .int .u8 0, .int .u8 0, .int .u8 0, .int .u8 0, .int .u8 0, .int .u8 0, .int .u8 0, .int .u8 0, .int .u8 0, .int .u8 0, .int .u8 0, .int .u8 0, .int .u8 0, .int .u8 0]),
  (3, [.int .i64 1, .int .i64 2, .int .i64 4, .int .i64 (-1), .int .i64 (-2), .int .i64 (-4)])]⟩
namespace Sh
open Go.Pv
def ascii : List UInt8 → Bool
  | [] => true
  | b :: l => Nat.blt b.toNat 128 && ascii l
theorem ascii_spec : ∀ {l : List UInt8}, ascii l = true → ∀ (j : Nat) (b : UInt8), l[j]? = some b → b.toNat < 128
  | [], _, j, b, h => by simp at h
  | a :: l, hl, j, b, h => by
    simp only [ascii, Bool.and_eq_true, Nat.blt_eq] at hl
    cases j with
    | zero => simp at h; subst h; exact hl.1
    | succ j => exact ascii_spec hl.2 j b (by simpa using h)
/-- The contract of strings.IndexAny, as an oracle. -/
def anyCl : Cl := fun f bs nt args =>
  match Nat.beq f 88, bs, nt, args with
  | true, [], 0, [.str s, .str c] => match ascii s && (ascii c && (Nat.blt s.length 4000000000 && Nat.blt c.length 4000000000)) with | true => some ([], 0, .int .i64 (Lib.indexAny s c)) | false => none
  | _, _, _, _ => none
theorem anyCl_ok : anyCl.Ok Tryd.prog := by
  intro f bs nt args bs' nt' r h
  unfold anyCl at h
  split at h
  · rename_i s c hf
    have hf := Nat.eq_of_beq_eq_true hf
    subst hf
    split at h
    · rename_i hh
      simp only [Bool.and_eq_true, Nat.blt_eq] at hh
      obtain ⟨h1, h2, h3, h4⟩ := hh
      cases h
      refine Fsp.of_below ⟨Tryd.f88, Tryd.func88, by kernel_rfl, by kernel_rfl⟩ fun g w vs _ hsz hargs => ?_
      obtain ⟨a, b, rfl⟩ : ∃ a b, vs = #[a, b] := by
        have : vs.size = 2 := hsz
        match vs, this with
        | ⟨[a, b]⟩, _ => exact ⟨a, b, rfl⟩
      have e1 := (hargs 0 a _ rfl rfl).str_inv
      have e2 := (hargs 1 b _ rfl rfl).str_inv
      subst e1; subst e2
      refine (Tryd.indexAny _ _ w ?_ ?_ (ascii_spec h1) (ascii_spec h2)).mono fun e w' ⟨he, hb⟩ => ⟨_, he, .int _ _, hb⟩
      · show s.length < _; omega
      · show c.length < _; omega
    · cases h
  · cases h
theorem space_at : (List.range 256).all (fun c => pvEq ((gat Tryd.gtab.tab 1).getD [] |>.getD c .any) (.int .u8 (if Lib.isSp (UInt8.ofNat c) then 1 else 0))) = true := by kernel_rfl
theorem space_len : ((gat Tryd.gtab.tab 1).getD []).length = 256 := by kernel_rfl
theorem space_some : (gat Tryd.gtab.tab 1).isSome = true := by kernel_rfl
theorem space_cell {g : Gh} {S : PS} {w : World} (hI : InvW g S w) (c : Nat) (hc : c < 256) : w.cell? ⟨1, c, none⟩ = some (.int .u8 (if Lib.isSp (UInt8.ofNat c) then 1 else 0)) := by
  obtain ⟨ps, hps⟩ := Option.isSome_iff_exists.1 space_some
  have h1 := hI.gl 1 ps hps
  have hl := space_len
  have ha := List.all_eq_true.1 space_at c (List.mem_range.2 hc)
  rw [hps] at hl ha
  simp only [Option.getD_some] at hl ha
  have h2 := pvEq_eq ha
  cases h1 with
  | loc b off ps vals hh ho hp =>
    have h3 := hh c (by omega)
    rw [Nat.zero_add] at h3
    have h4 := hp c _ (by rw [List.getElem?_eq_getElem (by omega)])
    have h5 : ps[c]'(by omega) = ps.getD c .any := by rw [List.getD_eq_getElem?_getD, List.getElem?_eq_getElem (by omega)]; rfl
    rw [h5, h2] at h4
    have h6 := hI.cell h3 (ho c (by omega))
    rw [h6]
    cases hv : vals c <;> rw [hv] at h4 <;> cases h4
    rfl
def fldCl : Cl := fnCl 77 fun args => match args with
  | [.str s] => match ascii s && Nat.blt s.length 4000000000 with | true => some (.sl 1 ((Lib.fields s).map .str)) | false => none
  | _ => none
theorem fldCl_ok : fldCl.Ok Tryd.prog := fnCl_ok fun args r h => by
  split at h
  · rename_i s
    split at h
    · rename_i hh
      simp only [Bool.and_eq_true, Nat.blt_eq] at hh
      cases h
      refine Fsp.untok (r := .slt 1 ((Lib.fields s).map .str) 0) (nt' := 1) (Fsp.of_row ⟨Tryd.f77, Tryd.func77, by kernel_rfl, by kernel_rfl⟩ (fun p hp => by obtain ⟨x, _, rfl⟩ := List.mem_map.1 hp; rfl) fun g w vs hI hsz hargs => ?_)
      obtain ⟨a, rfl⟩ : ∃ a, vs = #[a] := by
        have : vs.size = 1 := hsz
        match vs, this with
        | ⟨[a]⟩, _ => exact ⟨a, rfl⟩
      have e1 := (hargs 0 a _ rfl rfl).str_inv
      subst e1
      have hfl : ∀ l : List (List UInt8), (l.map PV.str).flatMap PV.cells = l.map PV.str := by
        intro l; induction l with
        | nil => rfl
        | cons x l ih => simp only [List.map_cons, List.flatMap_cons, ih]; rfl
      have hlen : (Lib.fields s).length ≤ maxLen := by
        have h1 : ∀ (l : List UInt8) (b : Bool), Lib.cntF b l ≤ l.length := by
          intro l
          induction l with
          | nil => intro b; exact Nat.le_refl _
          | cons x l ih =>
            intro b
            have := ih (Lib.isSp x)
            simp only [Lib.cntF, List.length_cons]
            split <;> omega
        have h2 := h1 s true
        rw [Lib.fields_length, maxLen_eq]; omega
      refine (Any.strings_Fields_core Tryd.laysN157 (by kernel_rfl) ⟨⟨s⟩⟩ w (by show s.length < _; omega) (ascii_spec hh.1) (fun c hc => space_cell hI c hc)).mono fun e w' ⟨he, hw⟩ => ?_
      subst hw
      refine ⟨_, _, _, _, he, Pushed.alloc _ _, by simp, Nat.le_refl _, hlen, by simp, ?_, ?_⟩
      · intro i v hv
        simp only [List.getElem?_toArray, List.getElem?_map] at hv
        obtain ⟨x, _, rfl⟩ := Option.map_eq_some_iff.1 hv
        rfl
      · intro i v p hv hp
        rw [hfl] at hp
        simp only [List.getElem?_toArray, List.getElem?_map] at hv hp
        obtain ⟨x, hx, rfl⟩ := Option.map_eq_some_iff.1 hv
        rw [hx] at hp
        cases hp
        exact .str x
    · cases h
  · cases h
theorem mixed : Tryd.prog.follows .mixedOrders = true := by kernel_rfl
theorem check_fs (c : PV) (nt : Nat) : Fsp Tryd.prog 84 [[.nbp 116 0, c]] nt [.box 0 0] [[.nbp 116 0, c]] nt (.tup []) :=
  bld_check ⟨Tryd.f84, Tryd.func84, by kernel_rfl, by kernel_rfl⟩ Tryd.check_fresh Tryd.check_used
theorem string_fs (l : List UInt8) : Fsp Tryd.prog 68 [[.nbp 116 0, .bsl 5 (bs l) 0]] 1 [.box 0 0] [[.nbp 116 0, .sl 1 (bs l)]] 0 (.str l) :=
  bld_string Tryd.laysN169 { sizeBuilder := by kernel_rfl, liesBuilder := by kernel_rfl, t5 := Tryd.underlying5, a5 := Tryd.isAgg5, z5 := Tryd.sizeOf5, v5 := Tryd.zeroValue5, infoByte := by kernel_rfl, cellsByte := by kernel_rfl, sizeByte := by kernel_rfl, neB5 := by decide } l
def bldCl : Cl := orCl (chkCl 84 116) (txtCl 68 116 5)
theorem bldCl_ok : bldCl.Ok Tryd.prog := orCl_ok (chkCl_ok check_fs) (txtCl_ok string_fs)
end Sh
end Go.Proofs
