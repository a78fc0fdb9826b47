/- The library's contracts at this program: strings.IndexAny, strings.Fields, strings.Builder; the package-level variables. -/
import Derived.Test.YtafleenajffpkaaDoorPvBc
import Derived.Test.YtafleenajffpkaaDoorProg
import Derived.KernelRfl
import Derived.Shelf.Strings.IndexAnyAll
import Derived.Shelf.Strings.Fields
import Derived.Shelf.Strings.Builder1
namespace Go.Proofs
open Go.Shelf
def Tryd.laysN153_ren : Go.Shelf.Ren := ⟨fun | 153 => 85 | 152 => 88 | 226 => 89 | 227 => 90 | 228 => 91 | 137 => 94 | 119 => 95 | 224 => 96 | 225 => 97 | 217 => 98 | 266 => 99 | n => n, fun | 9 => 9 | 3 => 3 | 4 => 4 | 5 => 5 | 21 => 21 | 117 => 154 | 116 => 153 | 0 => 0 | 46 => 168 | 124 => 169 | n => n, fun | n => n⟩
theorem Tryd.laysN153 : Go.Proofs.Lays.n153 Tryd.prog Tryd.laysN153_ren := {
  mixed := by kernel_rfl
  f119 := Tryd.func95.trans (congrArg some (by kernel_rfl))
  f137 := Tryd.func94.trans (congrArg some (by kernel_rfl))
  f152 := Tryd.func88.trans (congrArg some (by kernel_rfl))
  f153 := Tryd.func85.trans (congrArg some (by kernel_rfl))
  f217 := Tryd.func98.trans (congrArg some (by kernel_rfl))
  f224 := Tryd.func96.trans (congrArg some (by kernel_rfl))
  f225 := Tryd.func97.trans (congrArg some (by kernel_rfl))
  f226 := Tryd.func89.trans (congrArg some (by kernel_rfl))
  f227 := Tryd.func90.trans (congrArg some (by kernel_rfl))
  f228 := Tryd.func91.trans (congrArg some (by kernel_rfl))
  f266 := Tryd.func99.trans (congrArg some (by kernel_rfl))
  t0 := Tryd.underlying0
  a0 := Tryd.isAgg0
  z0 := Tryd.sizeOf0
  v0 := Tryd.zeroValue0
  t3 := Tryd.underlying3
  a3 := Tryd.isAgg3
  z3 := Tryd.sizeOf3
  v3 := Tryd.zeroValue3
  t4 := Tryd.underlying4
  a4 := Tryd.isAgg4
  z4 := Tryd.sizeOf4
  v4 := Tryd.zeroValue4
  t5 := Tryd.underlying5
  a5 := Tryd.isAgg5
  z5 := Tryd.sizeOf5
  v5 := Tryd.zeroValue5
  t9 := Tryd.underlying9
  a9 := Tryd.isAgg9
  z9 := Tryd.sizeOf9
  v9 := Tryd.zeroValue9
  t21 := Tryd.underlying21
  a21 := Tryd.isAgg21
  z21 := Tryd.sizeOf21
  v21 := Tryd.zeroValue21
  t46 := Tryd.underlying168
  a46 := Tryd.isAgg168
  z46 := Tryd.sizeOf168
  v46 := Tryd.zeroValue168
  t116 := Tryd.underlying153
  a116 := Tryd.isAgg153
  z116 := Tryd.sizeOf153
  t117 := Tryd.underlying154
  a117 := Tryd.isAgg154
  z117 := Tryd.sizeOf154
  v117 := Tryd.zeroValue154
  t124 := Tryd.underlying169
  a124 := Tryd.isAgg169
  z124 := Tryd.sizeOf169
  v124 := Tryd.zeroValue169 }
def Tryd.laysN157_ren : Go.Shelf.Ren := ⟨fun | 157 => 79 | 229 => 83 | 199 => 84 | 261 => 87 | 311 => 92 | 312 => 93 | n => n, fun | 9 => 9 | 31 => 114 | 3 => 3 | 5 => 5 | 4 => 4 | 119 => 139 | 0 => 0 | 40 => 141 | 152 => 146 | 21 => 21 | 154 => 148 | 51 => 45 | 141 => 150 | 196 => 160 | 193 => 157 | 198 => 162 | 49 => 43 | 194 => 158 | 201 => 165 | 226 => 170 | 46 => 168 | 227 => 171 | n => n, fun | 0 => 1 | 6 => 3 | n => n⟩
theorem Tryd.laysN157 : Go.Proofs.Lays.n157 Tryd.prog Tryd.laysN157_ren := {
  mixed := by kernel_rfl
  f157 := Tryd.func79.trans (congrArg some (by kernel_rfl))
  f199 := Tryd.func84.trans (congrArg some (by kernel_rfl))
  f229 := Tryd.func83.trans (congrArg some (by kernel_rfl))
  f261 := Tryd.func87.trans (congrArg some (by kernel_rfl))
  f311 := Tryd.func92.trans (congrArg some (by kernel_rfl))
  f312 := Tryd.func93.trans (congrArg some (by kernel_rfl))
  t0 := Tryd.underlying0
  a0 := Tryd.isAgg0
  z0 := Tryd.sizeOf0
  v0 := Tryd.zeroValue0
  t3 := Tryd.underlying3
  a3 := Tryd.isAgg3
  z3 := Tryd.sizeOf3
  v3 := Tryd.zeroValue3
  t4 := Tryd.underlying4
  a4 := Tryd.isAgg4
  z4 := Tryd.sizeOf4
  v4 := Tryd.zeroValue4
  t5 := Tryd.underlying5
  a5 := Tryd.isAgg5
  z5 := Tryd.sizeOf5
  v5 := Tryd.zeroValue5
  t9 := Tryd.underlying9
  a9 := Tryd.isAgg9
  z9 := Tryd.sizeOf9
  v9 := Tryd.zeroValue9
  t21 := Tryd.underlying21
  a21 := Tryd.isAgg21
  z21 := Tryd.sizeOf21
  v21 := Tryd.zeroValue21
  t31 := Tryd.underlying114
  a31 := Tryd.isAgg114
  z31 := Tryd.sizeOf114
  v31 := Tryd.zeroValue114
  t40 := Tryd.underlying141
  a40 := Tryd.isAgg141
  z40 := Tryd.sizeOf141
  v40 := Tryd.zeroValue141
  t46 := Tryd.underlying168
  a46 := Tryd.isAgg168
  z46 := Tryd.sizeOf168
  v46 := Tryd.zeroValue168
  t49 := Tryd.underlying43
  a49 := Tryd.isAgg43
  z49 := Tryd.sizeOf43
  v49 := Tryd.zeroValue43
  t51 := Tryd.underlying45
  a51 := Tryd.isAgg45
  z51 := Tryd.sizeOf45
  v51 := Tryd.zeroValue45
  t119 := Tryd.underlying139
  a119 := Tryd.isAgg139
  z119 := Tryd.sizeOf139
  t141 := Tryd.underlying150
  a141 := Tryd.isAgg150
  z141 := Tryd.sizeOf150
  v141 := Tryd.zeroValue150
  t152 := Tryd.underlying146
  a152 := Tryd.isAgg146
  z152 := Tryd.sizeOf146
  v152 := Tryd.zeroValue146
  t154 := Tryd.underlying148
  a154 := Tryd.isAgg148
  z154 := Tryd.sizeOf148
  v154 := Tryd.zeroValue148
  t193 := Tryd.underlying157
  a193 := Tryd.isAgg157
  z193 := Tryd.sizeOf157
  v193 := Tryd.zeroValue157
  t194 := Tryd.underlying158
  a194 := Tryd.isAgg158
  z194 := Tryd.sizeOf158
  v194 := Tryd.zeroValue158
  t196 := Tryd.underlying160
  a196 := Tryd.isAgg160
  z196 := Tryd.sizeOf160
  v196 := Tryd.zeroValue160
  t198 := Tryd.underlying162
  a198 := Tryd.isAgg162
  z198 := Tryd.sizeOf162
  v198 := Tryd.zeroValue162
  t201 := Tryd.underlying165
  a201 := Tryd.isAgg165
  z201 := Tryd.sizeOf165
  v201 := Tryd.zeroValue165
  t226 := Tryd.underlying170
  a226 := Tryd.isAgg170
  z226 := Tryd.sizeOf170
  v226 := Tryd.zeroValue170
  t227 := Tryd.underlying171
  a227 := Tryd.isAgg171
  z227 := Tryd.sizeOf171
  v227 := Tryd.zeroValue171
  g0 := by kernel_rfl
  g6 := by kernel_rfl }
def Tryd.laysN169_ren : Go.Shelf.Ren := ⟨fun | 169 => 74 | n => n, fun | 70 => 119 | 9 => 9 | 0 => 0 | 72 => 121 | 37 => 74 | 127 => 138 | 3 => 3 | 5 => 5 | n => n, fun | n => n⟩
theorem Tryd.laysN169 : Go.Proofs.Lays.n169 Tryd.prog Tryd.laysN169_ren := {
  mixed := by kernel_rfl
  f169 := Tryd.func74.trans (congrArg some (by kernel_rfl))
  t0 := Tryd.underlying0
  a0 := Tryd.isAgg0
  z0 := Tryd.sizeOf0
  v0 := Tryd.zeroValue0
  t3 := Tryd.underlying3
  a3 := Tryd.isAgg3
  z3 := Tryd.sizeOf3
  v3 := Tryd.zeroValue3
  t9 := Tryd.underlying9
  a9 := Tryd.isAgg9
  z9 := Tryd.sizeOf9
  v9 := Tryd.zeroValue9
  t37 := Tryd.underlying74
  a37 := Tryd.isAgg74
  z37 := Tryd.sizeOf74
  v37 := Tryd.zeroValue74
  t70 := Tryd.underlying119
  a70 := Tryd.isAgg119
  z70 := Tryd.sizeOf119
  v70 := Tryd.zeroValue119
  t72 := Tryd.underlying121
  a72 := Tryd.isAgg121
  z72 := Tryd.sizeOf121
  v72 := Tryd.zeroValue121
  t127 := Tryd.underlying138
  a127 := Tryd.isAgg138
  z127 := Tryd.sizeOf138
  v127 := Tryd.zeroValue138 }
theorem Tryd.setN153 : (Tryd.prog.info? (Tryd.laysN153_ren.t 116)).map (fun i => (i.zero, i.size)) = some (some (.agg (Array.replicate 256 (.bool false))), 256) := by kernel_rfl
open Go.RowKit in
theorem Tryd.indexAny (s chars : ByteArray) (w : World) (hs : s.size < 4294967281) (hcs : chars.size < 4294967281)
    (has : ∀ (j : Nat) b, s.data.toList[j]? = some b → b.toNat < 128) (hac : ∀ (j : Nat) b, chars.data.toList[j]? = some b → b.toNat < 128) :
    Calls Tryd.prog 85 #[.string s, .string chars] w fun e w' => e = .returned (.int .i64 (Lib.indexAny s.data.toList chars.data.toList)) ∧ Below w.heap.size w w' :=
  Any.strings_IndexAny_laid Tryd.laysN153 Tryd.setN153 s chars w hs hcs has hac
set_option maxHeartbeats 1000000 in
set_option maxRecDepth 100000 in
theorem Tryd.check_used (b : Nat) (w : World) (h0 : w.cell? ⟨b, 0, none⟩ = some (.pointer (some ⟨b, 0, none⟩))) :
    Calls Tryd.prog 82 #[.pointer (some ⟨b, 0, none⟩)] w fun e w' => e = .returned (.tuple #[]) ∧ w' = w := by
  obtain ⟨j, hj, _⟩ := Option.map_eq_some_iff.1 (show (Tryd.prog.info? 121).map (·.size) = some 2 by kernel_rfl)
  have mixed : Tryd.prog.follows .mixedOrders = true := by kernel_rfl
  have t121 := Tryd.underlying121; have a121 := Tryd.isAgg121; have z121 := Tryd.sizeOf121; have v121 := Tryd.zeroValue121; have u121 := run_underlying Tryd.underlying121
  have t119 := Tryd.underlying119; have a119 := Tryd.isAgg119; have z119 := Tryd.sizeOf119; have v119 := Tryd.zeroValue119; have u119 := run_underlying Tryd.underlying119
  have t4 := Tryd.underlying4; have a4 := Tryd.isAgg4; have z4 := Tryd.sizeOf4; have v4 := Tryd.zeroValue4; have u4 := run_underlying Tryd.underlying4
  have t144 := Tryd.underlying144; have a144 := Tryd.isAgg144; have z144 := Tryd.sizeOf144; have v144 := Tryd.zeroValue144; have u144 := run_underlying Tryd.underlying144
  go_enter Tryd.func82, Tryd.ntmps82
  go_wp2
  rw [Lib.run_neq_ptr_same w _ Tryd.underlying119 hj]
  go_wp2
  go_end0
  exact ⟨rfl, rfl⟩
set_option maxHeartbeats 1000000 in
set_option maxRecDepth 100000 in
theorem Tryd.check_fresh (b : Nat) (w : World) (h0 : w.cell? ⟨b, 0, none⟩ = some (.pointer none)) (hsh : w.shape? b = some (121, 2)) (hfz : w.frozen? ⟨b, 0, none⟩ = false) :
    Calls Tryd.prog 82 #[.pointer (some ⟨b, 0, none⟩)] w fun e w' => e = .returned (.tuple #[]) ∧ w' = w.setCell ⟨b, 0, none⟩ (.pointer (some ⟨b, 0, none⟩)) := by
  obtain ⟨j, hj, hjs⟩ := Option.map_eq_some_iff.1 (show (Tryd.prog.info? 121).map (·.size) = some 2 by kernel_rfl)
  have mixed : Tryd.prog.follows .mixedOrders = true := by kernel_rfl
  have t121 := Tryd.underlying121; have a121 := Tryd.isAgg121; have z121 := Tryd.sizeOf121; have v121 := Tryd.zeroValue121; have u121 := run_underlying Tryd.underlying121
  have t119 := Tryd.underlying119; have a119 := Tryd.isAgg119; have z119 := Tryd.sizeOf119; have v119 := Tryd.zeroValue119; have u119 := run_underlying Tryd.underlying119
  have t4 := Tryd.underlying4; have a4 := Tryd.isAgg4; have z4 := Tryd.sizeOf4; have v4 := Tryd.zeroValue4; have u4 := run_underlying Tryd.underlying4
  have t144 := Tryd.underlying144; have a144 := Tryd.isAgg144; have z144 := Tryd.sizeOf144; have v144 := Tryd.zeroValue144; have u144 := run_underlying Tryd.underlying144
  go_enter Tryd.func82, Tryd.ntmps82
  go_wp2
  rw [Lib.run_to_unsafe w ⟨b, 0, none⟩ Tryd.underlying119 Tryd.underlying144 hj (by rw [hjs]; decide) hsh (Nat.zero_lt_succ 1)]
  simp only [Result.andThen]
  rw [Oper.upon_value]
  go_wp2
  rw [run_callFunc_extern Tryd.func86 (by kernel_rfl) (by kernel_rfl) (by kernel_rfl) (e := Extern.AbiNoEscape.same) (by kernel_rfl)]
  rw [Lib.run_noEscape]
  simp only [Result.andThen]
  rw [Oper.upon_value]
  go_wp2
  rw [Lib.run_from_unsafe w ⟨b, 0, none⟩ Tryd.underlying144 Tryd.underlying119 hj hsh (by kernel_rfl)]
  simp only [Result.andThen]
  rw [Oper.upon_value]
  go_wp2
  go_end0
  exact ⟨rfl, rfl⟩
/-- The package-level variables, as they are laid. -/
instance Tryd.gtab : Go.Pv.GTab := ⟨[(0, [.int .i64 1, .int .i64 0, .int .i64 255, .int .i64 2, .int .i64 0, .int .i64 65535, .int .i64 4, .int .i64 0, .int .i64 4294967295, .int .i64 (-1), .int .i64 (-128), .int .i64 127, .int .i64 (-2), .int .i64 (-32768), .int .i64 32767, .int .i64 (-4), .int .i64 (-2147483648), .int .i64 2147483647]),
  (1, [.int .u8 0, .int .u8 0, .int .u8 0, .int .u8 0, .int .u8 0, .int .u8 0, .int .u8 0, .int .u8 0, .int .u8 0, .int .u8 1, .int .u8 1, .int .u8 1, .int .u8 1, .int .u8 1, .int .u8 0, .int .u8 0, .int .u8 0, .int .u8 0, .int .u8 0, .int .u8 0, .int .u8 0, .int .u8 0, .int .u8 0, .int .u8 0, .int .u8 0, .int .u8 0, .int .u8 0, .int .u8 0, .int .u8 0, .int .u8 0, .int .u8 0, .int .u8 0, .int .u8 1, .int .u8 0, .int .u8 0, .int .u8 0, .int .u8 0, .int .u8 0, .int .u8 0, .int .u8 0, .int .u8 0, .int .u8 0, .int .u8 0, .int .u8 0, .int .u8 0, .int .u8 0, .int .u8 0, .int .u8 0, .int .u8 0, .int .u8 0, .int .u8 0, .int .u8 0, .int .u8 0, .int .u8 0, .int .u8 0, .int .u8 0, .int .u8 0, .int .u8 0, .int .u8 0, .int .u8 0, .int .u8 0, .int .u8 0, .int .u8 0, .int .u8 0, .int .u8 0, .int .u8 0, .int .u8 0, .int .u8 0, .int .u8 0, .int .u8 0, .int .u8 0, .int .u8 0, .int .u8 0, .int .u8 0, .int .u8 0, .int .u8 0, .int .u8 0, .int .u8 0, .int .u8 0, .int .u8 0, .int .u8 0, .int .u8 0, .int .u8 0, .int .u8 0, .int .u8 0, .int .u8 0, .int .u8 0, .int .u8 0, .int .u8 0, .int .u8 0, .int .u8 0, .int .u8 0, .int .u8 0, .int .u8 0, .int .u8 0, .int .u8 0, .int .u8 0, .int .u8 0, .int .u8 0, .int .u8 0, .int .u8 0, .int .u8 0, .int .u8 0, .int .u8 0, .int .u8 0, .int .u8 0, .int .u8 0, .int .u8 0, .int .u8 0, .int .u8 0, .int .u8 0, .int .u8 0, .int .u8 0, .int .u8 0, .int .u8 0, .int .u8 0, .int .u8 0, .int .u8 0, .int .u8 0, .int .u8 0, .int .u8 0, .int .u8 0, .int .u8 0, .int .u8 0, .int .u8 0, .int .u8 0, .int .u8 0, .int .u8 0, .int .u8 0, .int .u8 0, .int .u8 0, .int .u8 0, .int .u8 0, .int .u8 0, .int .u8 0, .int .u8 0, .int .u8 0, .int .u8 0, .int .u8 0, .int .u8 0, .int .u8 0, .int .u8 0, .int .u8 0, .int .u8 0, .int .u8 0, .int .u8 0, .int .u8 0, .int .u8 0, .int .u8 0, .int .u8 0, .int .u8 0, .int .u8 0, .int .u8 0, .int .u8 0, .int .u8 0, .int .u8 0, .int .u8 0, .int .u8 0, .int .u8 0, .int .u8 0, .int .u8 0, .int .u8 0, .int .u8 0, .int .u8 0, .int .u8 0, .int .u8 0, .int .u8 0, .int .u8 0, .int .u8 0, .int .u8 0, .int .u8 0, .int .u8 0, .int .u8 0, .int .u8 0, .int .u8 0, .int .u8 0, .int .u8 0, .int .u8 0, .int .u8 0, .int .u8 0, .int .u8 0, .int .u8 0, .int .u8 0, .int .u8 0, .int .u8 0, .int .u8 0, .int .u8 0, .int .u8 0, .int .u8 0, .int .u8 0, .int .u8 0, .int .u8 0, .int .u8 0, .int .u8 0, .int .u8 0, .int .u8 0, .int .u8 0, .int .u8 0, .int .u8 0, .int .u8 0, .int .u8 0, .int .u8 0, .int .u8 0, .int .u8 0, .int .u8 0, .int .u8 0, .int .u8 0, .int .u8 0, .int .u8 0, .int .u8 0, .int .u8 0, .int .u8 0, .int .u8 0, .int .u8 0, .int .u8 0, .int .u8 0, .int .u8 0, .int .u8 0, .int .u8 0, .int .u8 0, .int .u8 0, .int .u8 0, .int .u8 0, .int .u8 0, .int .u8 0, .int .u8 0, .int .u8 0, .int .u8 0, .int .u8 0, .int .u8 0, .int .u8 0, .int .u8 0, .int .u8 0, .int .u8 0, .int .u8 0, .int .u8 0, .int .u8 0, .int .u8 0, .int .u8 0, .int .u8 0, .int .u8 0, .int .u8 0, .int .u8 0, .int .u8 0, .int .u8 0, .int .u8 0, .int .u8 0, .int .u8 0, .int .u8 0, .int .u8 0, .int .u8 0, .int .u8 0, .int .u8 0, .int .u8 0, .int .u8 0, .int .u8 0]),
  (2, [.int .i64 1, .int .i64 2, .int .i64 4, .int .i64 (-1), .int .i64 (-2), .int .i64 (-4)])]⟩
namespace Sh
open Go.Pv
def ascii : List UInt8 → Bool
  | [] => true
  | b :: l => Nat.blt b.toNat 128 && ascii l
theorem ascii_spec : ∀ {l : List UInt8}, ascii l = true → ∀ (j : Nat) (b : UInt8), l[j]? = some b → b.toNat < 128
  | [], _, j, b, h => by simp at h
  | a :: l, hl, j, b, h => by
    simp only [ascii, Bool.and_eq_true, Nat.blt_eq] at hl
    cases j with
    | zero => simp at h; subst h; exact hl.1
    | succ j => exact ascii_spec hl.2 j b (by simpa using h)
/-- The contract of strings.IndexAny, as an oracle. -/
def anyCl : Cl := fun f bs nt args =>
  match Nat.beq f 85, bs, nt, args with
  | true, [], 0, [.str s, .str c] => match ascii s && (ascii c && (Nat.blt s.length 4000000000 && Nat.blt c.length 4000000000)) with | true => some ([], 0, .int .i64 (Lib.indexAny s c)) | false => none
  | _, _, _, _ => none
theorem anyCl_ok : anyCl.Ok Tryd.prog := by
  intro f bs nt args bs' nt' r h
  unfold anyCl at h
  split at h
  · rename_i s c hf
    have hf := Nat.eq_of_beq_eq_true hf
    subst hf
    split at h
    · rename_i hh
      simp only [Bool.and_eq_true, Nat.blt_eq] at hh
      obtain ⟨h1, h2, h3, h4⟩ := hh
      cases h
      refine Fsp.of_below ⟨Tryd.f85, Tryd.func85, by kernel_rfl, by kernel_rfl⟩ fun g w vs _ hsz hargs => ?_
      obtain ⟨a, b, rfl⟩ : ∃ a b, vs = #[a, b] := by
        have : vs.size = 2 := hsz
        match vs, this with
        | ⟨[a, b]⟩, _ => exact ⟨a, b, rfl⟩
      have e1 := (hargs 0 a _ rfl rfl).str_inv
      have e2 := (hargs 1 b _ rfl rfl).str_inv
      subst e1; subst e2
      refine (Tryd.indexAny _ _ w ?_ ?_ (ascii_spec h1) (ascii_spec h2)).mono fun e w' ⟨he, hb⟩ => ⟨_, he, .int _ _, hb⟩
      · show s.length < _; omega
      · show c.length < _; omega
    · cases h
  · cases h
theorem space_at : (List.range 256).all (fun c => pvEq ((gat Tryd.gtab.tab 1).getD [] |>.getD c .any) (.int .u8 (if Lib.isSp (UInt8.ofNat c) then 1 else 0))) = true := by kernel_rfl
theorem space_len : ((gat Tryd.gtab.tab 1).getD []).length = 256 := by kernel_rfl
theorem space_some : (gat Tryd.gtab.tab 1).isSome = true := by kernel_rfl
theorem space_cell {g : Gh} {S : PS} {w : World} (hI : InvW g S w) (c : Nat) (hc : c < 256) : w.cell? ⟨1, c, none⟩ = some (.int .u8 (if Lib.isSp (UInt8.ofNat c) then 1 else 0)) := by
  obtain ⟨ps, hps⟩ := Option.isSome_iff_exists.1 space_some
  have h1 := hI.gl 1 ps hps
  have hl := space_len
  have ha := List.all_eq_true.1 space_at c (List.mem_range.2 hc)
  rw [hps] at hl ha
  simp only [Option.getD_some] at hl ha
  have h2 := pvEq_eq ha
  cases h1 with
  | loc b off ps vals hh ho hp =>
    have h3 := hh c (by omega)
    rw [Nat.zero_add] at h3
    have h4 := hp c _ (by rw [List.getElem?_eq_getElem (by omega)])
    have h5 : ps[c]'(by omega) = ps.getD c .any := by rw [List.getD_eq_getElem?_getD, List.getElem?_eq_getElem (by omega)]; rfl
    rw [h5, h2] at h4
    have h6 := hI.hw _ _ _ h3
    rw [h6]
    cases hv : vals c <;> rw [hv] at h4 <;> cases h4
    rfl
def fldCl : Cl := fnCl 79 fun args => match args with
  | [.str s] => match ascii s && Nat.blt s.length 4000000000 with | true => some (.sl 1 ((Lib.fields s).map .str)) | false => none
  | _ => none
theorem fldCl_ok : fldCl.Ok Tryd.prog := fnCl_ok fun args r h => by
  split at h
  · rename_i s
    split at h
    · rename_i hh
      simp only [Bool.and_eq_true, Nat.blt_eq] at hh
      cases h
      refine Fsp.untok (r := .slt 1 ((Lib.fields s).map .str) 0) (nt' := 1) (Fsp.of_row ⟨Tryd.f79, Tryd.func79, by kernel_rfl, by kernel_rfl⟩ (fun p hp => by obtain ⟨x, _, rfl⟩ := List.mem_map.1 hp; rfl) fun g w vs hI hsz hargs => ?_)
      obtain ⟨a, rfl⟩ : ∃ a, vs = #[a] := by
        have : vs.size = 1 := hsz
        match vs, this with
        | ⟨[a]⟩, _ => exact ⟨a, rfl⟩
      have e1 := (hargs 0 a _ rfl rfl).str_inv
      subst e1
      have hfl : ∀ l : List (List UInt8), (l.map PV.str).flatMap PV.cells = l.map PV.str := by
        intro l; induction l with
        | nil => rfl
        | cons x l ih => simp only [List.map_cons, List.flatMap_cons, ih]; rfl
      have hlen : (Lib.fields s).length ≤ maxLen := by
        have h1 : ∀ (l : List UInt8) (b : Bool), Lib.cntF b l ≤ l.length := by
          intro l
          induction l with
          | nil => intro b; exact Nat.le_refl _
          | cons x l ih =>
            intro b
            have := ih (Lib.isSp x)
            simp only [Lib.cntF, List.length_cons]
            split <;> omega
        have h2 := h1 s true
        rw [Lib.fields_length, maxLen_eq]; omega
      refine (Any.strings_Fields_core Tryd.laysN157 (by kernel_rfl) ⟨⟨s⟩⟩ w (by show s.length < _; omega) (ascii_spec hh.1) (fun c hc => space_cell hI c hc)).mono fun e w' ⟨he, hw⟩ => ?_
      subst hw
      refine ⟨_, _, _, _, he, Pushed.alloc _ _, by simp, Nat.le_refl _, hlen, by simp, ?_, ?_⟩
      · intro i v hv
        simp only [List.getElem?_toArray, List.getElem?_map] at hv
        obtain ⟨x, _, rfl⟩ := Option.map_eq_some_iff.1 hv
        rfl
      · intro i v p hv hp
        rw [hfl] at hp
        simp only [List.getElem?_toArray, List.getElem?_map] at hv hp
        obtain ⟨x, hx, rfl⟩ := Option.map_eq_some_iff.1 hv
        rw [hx] at hp
        cases hp
        exact .str x
    · cases h
  · cases h
theorem mixed : Tryd.prog.follows .mixedOrders = true := by kernel_rfl
theorem check_fs (c : PV) (nt : Nat) : Fsp Tryd.prog 82 [[.nbp 121 0, c]] nt [.box 0 0] [[.nbp 121 0, c]] nt (.tup []) :=
  bld_check ⟨Tryd.f82, Tryd.func82, by kernel_rfl, by kernel_rfl⟩ Tryd.check_fresh Tryd.check_used
theorem string_fs (l : List UInt8) : Fsp Tryd.prog 74 [[.nbp 121 0, .bsl 5 (bs l) 0]] 1 [.box 0 0] [[.nbp 121 0, .sl 1 (bs l)]] 0 (.str l) :=
  bld_string Tryd.laysN169 { sizeBuilder := by kernel_rfl, liesBuilder := by kernel_rfl, t5 := Tryd.underlying5, a5 := Tryd.isAgg5, z5 := Tryd.sizeOf5, v5 := Tryd.zeroValue5, infoByte := by kernel_rfl, cellsByte := by kernel_rfl, sizeByte := by kernel_rfl, neB5 := by decide } l
def bldCl : Cl := orCl (chkCl 82 121) (txtCl 74 121 5)
theorem bldCl_ok : bldCl.Ok Tryd.prog := orCl_ok (chkCl_ok check_fs) (txtCl_ok string_fs)
end Sh
end Go.Proofs
