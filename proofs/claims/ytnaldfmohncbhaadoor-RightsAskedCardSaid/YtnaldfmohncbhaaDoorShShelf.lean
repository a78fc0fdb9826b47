/- The library's contracts at this program: strings.IndexAny, strings.Fields, strings.Builder; the package-level variables. -/
import Derived.Test.YtnaldfmohncbhaaDoorPvBc
import Derived.Test.YtnaldfmohncbhaaDoorProg
import Derived.KernelRfl
import Derived.Shelf.Strings.IndexAnyAll
import Derived.Shelf.Strings.Fields
import Derived.Shelf.Strings.Builder1
namespace Go.Proofs
open Go.Shelf
def Tryd.laysN153_ren : Go.Shelf.Ren := ⟨fun | 153 => 59 | 152 => 61 | 226 => 62 | 227 => 63 | 228 => 64 | 137 => 67 | 119 => 68 | 224 => 69 | 225 => 70 | 217 => 71 | 266 => 72 | n => n, fun | 9 => 9 | 3 => 3 | 4 => 4 | 5 => 5 | 21 => 21 | 117 => 141 | 116 => 140 | 0 => 0 | 46 => 45 | 124 => 156 | n => n, fun | n => n⟩
theorem Tryd.laysN153 : Go.Proofs.Lays.n153 Tryd.prog Tryd.laysN153_ren := {
  mixed := by kernel_rfl
  f119 := Tryd.func68.trans (congrArg some (by kernel_rfl))
  f137 := Tryd.func67.trans (congrArg some (by kernel_rfl))
  f152 := Tryd.func61.trans (congrArg some (by kernel_rfl))
  f153 := Tryd.func59.trans (congrArg some (by kernel_rfl))
  f217 := Tryd.func71.trans (congrArg some (by kernel_rfl))
  f224 := Tryd.func69.trans (congrArg some (by kernel_rfl))
  f225 := Tryd.func70.trans (congrArg some (by kernel_rfl))
  f226 := Tryd.func62.trans (congrArg some (by kernel_rfl))
  f227 := Tryd.func63.trans (congrArg some (by kernel_rfl))
  f228 := Tryd.func64.trans (congrArg some (by kernel_rfl))
  f266 := Tryd.func72.trans (congrArg some (by kernel_rfl))
  t0 := Tryd.underlying0
  a0 := Tryd.isAgg0
  z0 := Tryd.sizeOf0
  v0 := Tryd.zeroValue0
  t3 := Tryd.underlying3
  a3 := Tryd.isAgg3
  z3 := Tryd.sizeOf3
  v3 := Tryd.zeroValue3
  t4 := Tryd.underlying4
  a4 := Tryd.isAgg4
  z4 := Tryd.sizeOf4
  v4 := Tryd.zeroValue4
  t5 := Tryd.underlying5
  a5 := Tryd.isAgg5
  z5 := Tryd.sizeOf5
  v5 := Tryd.zeroValue5
  t9 := Tryd.underlying9
  a9 := Tryd.isAgg9
  z9 := Tryd.sizeOf9
  v9 := Tryd.zeroValue9
  t21 := Tryd.underlying21
  a21 := Tryd.isAgg21
  z21 := Tryd.sizeOf21
  v21 := Tryd.zeroValue21
  t46 := Tryd.underlying45
  a46 := Tryd.isAgg45
  z46 := Tryd.sizeOf45
  v46 := Tryd.zeroValue45
  t116 := Tryd.underlying140
  a116 := Tryd.isAgg140
  z116 := Tryd.sizeOf140
  t117 := Tryd.underlying141
  a117 := Tryd.isAgg141
  z117 := Tryd.sizeOf141
  v117 := Tryd.zeroValue141
  t124 := Tryd.underlying156
  a124 := Tryd.isAgg156
  z124 := Tryd.sizeOf156
  v124 := Tryd.zeroValue156 }
def Tryd.laysN157_ren : Go.Shelf.Ren := ⟨fun | 157 => 52 | 229 => 57 | 199 => 58 | 261 => 60 | 311 => 65 | 312 => 66 | n => n, fun | 9 => 9 | 31 => 123 | 3 => 3 | 5 => 5 | 4 => 4 | 119 => 129 | 0 => 0 | 40 => 131 | 152 => 133 | 21 => 21 | 154 => 135 | 51 => 24 | 141 => 137 | 196 => 147 | 193 => 144 | 198 => 150 | 49 => 148 | 194 => 145 | 201 => 153 | 226 => 157 | 46 => 45 | 227 => 158 | n => n, fun | 0 => 1 | 6 => 2 | n => n⟩
theorem Tryd.laysN157 : Go.Proofs.Lays.n157 Tryd.prog Tryd.laysN157_ren := {
  mixed := by kernel_rfl
  f157 := Tryd.func52.trans (congrArg some (by kernel_rfl))
  f199 := Tryd.func58.trans (congrArg some (by kernel_rfl))
  f229 := Tryd.func57.trans (congrArg some (by kernel_rfl))
  f261 := Tryd.func60.trans (congrArg some (by kernel_rfl))
  f311 := Tryd.func65.trans (congrArg some (by kernel_rfl))
  f312 := Tryd.func66.trans (congrArg some (by kernel_rfl))
  t0 := Tryd.underlying0
  a0 := Tryd.isAgg0
  z0 := Tryd.sizeOf0
  v0 := Tryd.zeroValue0
  t3 := Tryd.underlying3
  a3 := Tryd.isAgg3
  z3 := Tryd.sizeOf3
  v3 := Tryd.zeroValue3
  t4 := Tryd.underlying4
  a4 := Tryd.isAgg4
  z4 := Tryd.sizeOf4
  v4 := Tryd.zeroValue4
  t5 := Tryd.underlying5
  a5 := Tryd.isAgg5
  z5 := Tryd.sizeOf5
  v5 := Tryd.zeroValue5
  t9 := Tryd.underlying9
  a9 := Tryd.isAgg9
  z9 := Tryd.sizeOf9
  v9 := Tryd.zeroValue9
  t21 := Tryd.underlying21
  a21 := Tryd.isAgg21
  z21 := Tryd.sizeOf21
  v21 := Tryd.zeroValue21
  t31 := Tryd.underlying123
  a31 := Tryd.isAgg123
  z31 := Tryd.sizeOf123
  v31 := Tryd.zeroValue123
  t40 := Tryd.underlying131
  a40 := Tryd.isAgg131
  z40 := Tryd.sizeOf131
  v40 := Tryd.zeroValue131
  t46 := Tryd.underlying45
  a46 := Tryd.isAgg45
  z46 := Tryd.sizeOf45
  v46 := Tryd.zeroValue45
  t49 := Tryd.underlying148
  a49 := Tryd.isAgg148
  z49 := Tryd.sizeOf148
  v49 := Tryd.zeroValue148
  t51 := Tryd.underlying24
  a51 := Tryd.isAgg24
  z51 := Tryd.sizeOf24
  v51 := Tryd.zeroValue24
  t119 := Tryd.underlying129
  a119 := Tryd.isAgg129
  z119 := Tryd.sizeOf129
  t141 := Tryd.underlying137
  a141 := Tryd.isAgg137
  z141 := Tryd.sizeOf137
  v141 := Tryd.zeroValue137
  t152 := Tryd.underlying133
  a152 := Tryd.isAgg133
  z152 := Tryd.sizeOf133
  v152 := Tryd.zeroValue133
  t154 := Tryd.underlying135
  a154 := Tryd.isAgg135
  z154 := Tryd.sizeOf135
  v154 := Tryd.zeroValue135
  t193 := Tryd.underlying144
  a193 := Tryd.isAgg144
  z193 := Tryd.sizeOf144
  v193 := Tryd.zeroValue144
  t194 := Tryd.underlying145
  a194 := Tryd.isAgg145
  z194 := Tryd.sizeOf145
  v194 := Tryd.zeroValue145
  t196 := Tryd.underlying147
  a196 := Tryd.isAgg147
  z196 := Tryd.sizeOf147
  v196 := Tryd.zeroValue147
  t198 := Tryd.underlying150
  a198 := Tryd.isAgg150
  z198 := Tryd.sizeOf150
  v198 := Tryd.zeroValue150
  t201 := Tryd.underlying153
  a201 := Tryd.isAgg153
  z201 := Tryd.sizeOf153
  v201 := Tryd.zeroValue153
  t226 := Tryd.underlying157
  a226 := Tryd.isAgg157
  z226 := Tryd.sizeOf157
  v226 := Tryd.zeroValue157
  t227 := Tryd.underlying158
  a227 := Tryd.isAgg158
  z227 := Tryd.sizeOf158
  v227 := Tryd.zeroValue158
  g0 := by kernel_rfl
  g6 := by kernel_rfl }
theorem Tryd.setN153 : (Tryd.prog.info? (Tryd.laysN153_ren.t 116)).map (fun i => (i.zero, i.size)) = some (some (.agg (Array.replicate 256 (.bool false))), 256) := by kernel_rfl
open Go.RowKit in
theorem Tryd.indexAny (s chars : ByteArray) (w : World) (hs : s.size < 4294967281) (hcs : chars.size < 4294967281)
    (has : ∀ (j : Nat) b, s.data.toList[j]? = some b → b.toNat < 128) (hac : ∀ (j : Nat) b, chars.data.toList[j]? = some b → b.toNat < 128) :
    Calls Tryd.prog 59 #[.string s, .string chars] w fun e w' => e = .returned (.int .i64 (Lib.indexAny s.data.toList chars.data.toList)) ∧ Below w.heap.size w w' :=
  Any.strings_IndexAny_laid Tryd.laysN153 Tryd.setN153 s chars w hs hcs has hac
/-- The package-level variables, as they are laid. -/
instance Tryd.gtab : Go.Pv.GTab := ⟨[(0, [.int .u8 5, .int .u8 3, .int .u8 2, .int .u8 4, .int .u8 4, .int .u8 4, .int .u8 4, .int .u8 2, .int .u8 2, .int .u8 1, .int .u8 1, .int .u8 1, .int .u8 1, .int .u8 6, .int .u8 6, .int .u8 6, .int .u8 6, .int .u8 1, .int .u8 1, .int .u8 1, .int .u8 1, .int .u8 1, .int .u8 1, .int .u8 1, .int .u8 1, .int .u8 1, .int .u8 2, .int .u8 2, .int .u8 2, .int .u8 2, .int .u8 2, .int .u8 2, .int .u8 2, .int .u8 2, .int .u8 2, .int .u8 2, .int .u8 2, .int .u8 4, .int .u8 1, .int .u8 4, .int .u8 1, .int .u8 4, .int .u8 1, .int .u8 4, .int .u8 1, .int .u8 4, .int .u8 1, .int .u8 1, .int .u8 1, .int .u8 4, .int .u8 2, .int .u8 1, .int .u8 2, .int .u8 6, .int .u8 7, .int .u8 7, .int .u8 8, .int .u8 1, .int .u8 1])]⟩
namespace Sh
open Go.Pv
def ascii : List UInt8 → Bool
  | [] => true
  | b :: l => Nat.blt b.toNat 128 && ascii l
theorem ascii_spec : ∀ {l : List UInt8}, ascii l = true → ∀ (j : Nat) (b : UInt8), l[j]? = some b → b.toNat < 128
  | [], _, j, b, h => by simp at h
  | a :: l, hl, j, b, h => by
    simp only [ascii, Bool.and_eq_true, Nat.blt_eq] at hl
    cases j with
    | zero => simp at h; subst h; exact hl.1
    | succ j => exact ascii_spec hl.2 j b (by simpa using h)
/-- The contract of strings.IndexAny, as an oracle. -/
def anyCl : Cl := fun f bs nt args =>
  match Nat.beq f 59, bs, nt, args with
  | true, [], 0, [.str s, .str c] => match ascii s && (ascii c && (Nat.blt s.length 4000000000 && Nat.blt c.length 4000000000)) with | true => some ([], 0, .int .i64 (Lib.indexAny s c)) | false => none
  | _, _, _, _ => none
theorem anyCl_ok : anyCl.Ok Tryd.prog := by
  intro f bs nt args bs' nt' r h
  unfold anyCl at h
  split at h
  · rename_i s c hf
    have hf := Nat.eq_of_beq_eq_true hf
    subst hf
    split at h
    · rename_i hh
      simp only [Bool.and_eq_true, Nat.blt_eq] at hh
      obtain ⟨h1, h2, h3, h4⟩ := hh
      cases h
      refine Fsp.of_below ⟨Tryd.f59, Tryd.func59, by kernel_rfl, by kernel_rfl⟩ fun g w vs _ hsz hargs => ?_
      obtain ⟨a, b, rfl⟩ : ∃ a b, vs = #[a, b] := by
        have : vs.size = 2 := hsz
        match vs, this with
        | ⟨[a, b]⟩, _ => exact ⟨a, b, rfl⟩
      have e1 := (hargs 0 a _ rfl rfl).str_inv
      have e2 := (hargs 1 b _ rfl rfl).str_inv
      subst e1; subst e2
      refine (Tryd.indexAny _ _ w ?_ ?_ (ascii_spec h1) (ascii_spec h2)).mono fun e w' ⟨he, hb⟩ => ⟨_, he, .int _ _, hb⟩
      · show s.length < _; omega
      · show c.length < _; omega
    · cases h
  · cases h
theorem mixed : Tryd.prog.follows .mixedOrders = true := by kernel_rfl
end Sh
end Go.Proofs
