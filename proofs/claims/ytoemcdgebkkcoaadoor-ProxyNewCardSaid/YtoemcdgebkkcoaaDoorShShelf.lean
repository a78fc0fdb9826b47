/- The library's contracts at this program: strings.IndexAny, strings.Fields, strings.Builder; the package-level variables. -/
import Derived.Test.YtoemcdgebkkcoaaDoorPvBc
import Derived.Test.YtoemcdgebkkcoaaDoorPvV
import Derived.Test.YtoemcdgebkkcoaaDoorProg
import Derived.KernelRfl
import Derived.Shelf.Strings.IndexAnyAll
import Derived.Shelf.Strings.Fields
import Derived.Shelf.Strconv.Clone
import Derived.Shelf.Strings.Builder1
namespace Go.Proofs
open Go.Shelf
def Tryd.laysN153_ren : Go.Shelf.Ren := ⟨fun | 153 => 68 | 152 => 70 | 226 => 71 | 227 => 72 | 228 => 73 | 137 => 76 | 119 => 77 | 224 => 78 | 225 => 79 | 217 => 80 | 266 => 81 | n => n, fun | 9 => 9 | 3 => 3 | 4 => 4 | 5 => 5 | 21 => 21 | 117 => 138 | 116 => 137 | 0 => 0 | 46 => 82 | 124 => 154 | n => n, fun | n => n⟩
theorem Tryd.laysN153 : Go.Proofs.Lays.n153 Tryd.prog Tryd.laysN153_ren := {
  mixed := by kernel_rfl
  f119 := Tryd.func77.trans (congrArg some (by kernel_rfl))
  f137 := Tryd.func76.trans (congrArg some (by kernel_rfl))
  f152 := Tryd.func70.trans (congrArg some (by kernel_rfl))
  f153 := Tryd.func68.trans (congrArg some (by kernel_rfl))
  f217 := Tryd.func80.trans (congrArg some (by kernel_rfl))
  f224 := Tryd.func78.trans (congrArg some (by kernel_rfl))
  f225 := Tryd.func79.trans (congrArg some (by kernel_rfl))
  f226 := Tryd.func71.trans (congrArg some (by kernel_rfl))
  f227 := Tryd.func72.trans (congrArg some (by kernel_rfl))
  f228 := Tryd.func73.trans (congrArg some (by kernel_rfl))
  f266 := Tryd.func81.trans (congrArg some (by kernel_rfl))
  t0 := Tryd.underlying0
  a0 := Tryd.isAgg0
  z0 := Tryd.sizeOf0
  v0 := Tryd.zeroValue0
  t3 := Tryd.underlying3
  a3 := Tryd.isAgg3
  z3 := Tryd.sizeOf3
  v3 := Tryd.zeroValue3
  t4 := Tryd.underlying4
  a4 := Tryd.isAgg4
  z4 := Tryd.sizeOf4
  v4 := Tryd.zeroValue4
  t5 := Tryd.underlying5
  a5 := Tryd.isAgg5
  z5 := Tryd.sizeOf5
  v5 := Tryd.zeroValue5
  t9 := Tryd.underlying9
  a9 := Tryd.isAgg9
  z9 := Tryd.sizeOf9
  v9 := Tryd.zeroValue9
  t21 := Tryd.underlying21
  a21 := Tryd.isAgg21
  z21 := Tryd.sizeOf21
  v21 := Tryd.zeroValue21
  t46 := Tryd.underlying82
  a46 := Tryd.isAgg82
  z46 := Tryd.sizeOf82
  v46 := Tryd.zeroValue82
  t116 := Tryd.underlying137
  a116 := Tryd.isAgg137
  z116 := Tryd.sizeOf137
  t117 := Tryd.underlying138
  a117 := Tryd.isAgg138
  z117 := Tryd.sizeOf138
  v117 := Tryd.zeroValue138
  t124 := Tryd.underlying154
  a124 := Tryd.isAgg154
  z124 := Tryd.sizeOf154
  v124 := Tryd.zeroValue154 }
def Tryd.laysN157_ren : Go.Shelf.Ren := ⟨fun | 157 => 64 | 229 => 66 | 199 => 67 | 261 => 69 | 311 => 74 | 312 => 75 | n => n, fun | 9 => 9 | 31 => 24 | 3 => 3 | 5 => 5 | 4 => 4 | 119 => 125 | 0 => 0 | 40 => 127 | 152 => 129 | 21 => 21 | 154 => 131 | 51 => 132 | 141 => 134 | 196 => 144 | 193 => 141 | 198 => 147 | 49 => 145 | 194 => 142 | 201 => 150 | 226 => 155 | 46 => 82 | 227 => 156 | n => n, fun | 0 => 1 | 6 => 2 | n => n⟩
theorem Tryd.laysN157 : Go.Proofs.Lays.n157 Tryd.prog Tryd.laysN157_ren := {
  mixed := by kernel_rfl
  f157 := Tryd.func64.trans (congrArg some (by kernel_rfl))
  f199 := Tryd.func67.trans (congrArg some (by kernel_rfl))
  f229 := Tryd.func66.trans (congrArg some (by kernel_rfl))
  f261 := Tryd.func69.trans (congrArg some (by kernel_rfl))
  f311 := Tryd.func74.trans (congrArg some (by kernel_rfl))
  f312 := Tryd.func75.trans (congrArg some (by kernel_rfl))
  t0 := Tryd.underlying0
  a0 := Tryd.isAgg0
  z0 := Tryd.sizeOf0
  v0 := Tryd.zeroValue0
  t3 := Tryd.underlying3
  a3 := Tryd.isAgg3
  z3 := Tryd.sizeOf3
  v3 := Tryd.zeroValue3
  t4 := Tryd.underlying4
  a4 := Tryd.isAgg4
  z4 := Tryd.sizeOf4
  v4 := Tryd.zeroValue4
  t5 := Tryd.underlying5
  a5 := Tryd.isAgg5
  z5 := Tryd.sizeOf5
  v5 := Tryd.zeroValue5
  t9 := Tryd.underlying9
  a9 := Tryd.isAgg9
  z9 := Tryd.sizeOf9
  v9 := Tryd.zeroValue9
  t21 := Tryd.underlying21
  a21 := Tryd.isAgg21
  z21 := Tryd.sizeOf21
  v21 := Tryd.zeroValue21
  t31 := Tryd.underlying24
  a31 := Tryd.isAgg24
  z31 := Tryd.sizeOf24
  v31 := Tryd.zeroValue24
  t40 := Tryd.underlying127
  a40 := Tryd.isAgg127
  z40 := Tryd.sizeOf127
  v40 := Tryd.zeroValue127
  t46 := Tryd.underlying82
  a46 := Tryd.isAgg82
  z46 := Tryd.sizeOf82
  v46 := Tryd.zeroValue82
  t49 := Tryd.underlying145
  a49 := Tryd.isAgg145
  z49 := Tryd.sizeOf145
  v49 := Tryd.zeroValue145
  t51 := Tryd.underlying132
  a51 := Tryd.isAgg132
  z51 := Tryd.sizeOf132
  v51 := Tryd.zeroValue132
  t119 := Tryd.underlying125
  a119 := Tryd.isAgg125
  z119 := Tryd.sizeOf125
  t141 := Tryd.underlying134
  a141 := Tryd.isAgg134
  z141 := Tryd.sizeOf134
  v141 := Tryd.zeroValue134
  t152 := Tryd.underlying129
  a152 := Tryd.isAgg129
  z152 := Tryd.sizeOf129
  v152 := Tryd.zeroValue129
  t154 := Tryd.underlying131
  a154 := Tryd.isAgg131
  z154 := Tryd.sizeOf131
  v154 := Tryd.zeroValue131
  t193 := Tryd.underlying141
  a193 := Tryd.isAgg141
  z193 := Tryd.sizeOf141
  v193 := Tryd.zeroValue141
  t194 := Tryd.underlying142
  a194 := Tryd.isAgg142
  z194 := Tryd.sizeOf142
  v194 := Tryd.zeroValue142
  t196 := Tryd.underlying144
  a196 := Tryd.isAgg144
  z196 := Tryd.sizeOf144
  v196 := Tryd.zeroValue144
  t198 := Tryd.underlying147
  a198 := Tryd.isAgg147
  z198 := Tryd.sizeOf147
  v198 := Tryd.zeroValue147
  t201 := Tryd.underlying150
  a201 := Tryd.isAgg150
  z201 := Tryd.sizeOf150
  v201 := Tryd.zeroValue150
  t226 := Tryd.underlying155
  a226 := Tryd.isAgg155
  z226 := Tryd.sizeOf155
  v226 := Tryd.zeroValue155
  t227 := Tryd.underlying156
  a227 := Tryd.isAgg156
  z227 := Tryd.sizeOf156
  v227 := Tryd.zeroValue156
  g0 := by kernel_rfl
  g6 := by kernel_rfl }
def Tryd.laysM316_ren : Go.Shelf.Ren := ⟨fun | 316 => 57 | n => n, fun | 9 => 9 | 3 => 3 | 4 => 4 | 37 => 76 | 0 => 0 | 127 => 116 | 5 => 5 | n => n, fun | n => n⟩
theorem Tryd.laysM316 : Go.Proofs.LaysM.n316 Tryd.prog Tryd.laysM316_ren := {
  mixed := by kernel_rfl
  f316 := Tryd.func57.trans (congrArg some (by kernel_rfl))
  t0 := Tryd.underlying0
  a0 := Tryd.isAgg0
  z0 := Tryd.sizeOf0
  v0 := Tryd.zeroValue0
  t3 := Tryd.underlying3
  a3 := Tryd.isAgg3
  z3 := Tryd.sizeOf3
  v3 := Tryd.zeroValue3
  t4 := Tryd.underlying4
  a4 := Tryd.isAgg4
  z4 := Tryd.sizeOf4
  v4 := Tryd.zeroValue4
  t9 := Tryd.underlying9
  a9 := Tryd.isAgg9
  z9 := Tryd.sizeOf9
  v9 := Tryd.zeroValue9
  t37 := Tryd.underlying76
  a37 := Tryd.isAgg76
  z37 := Tryd.sizeOf76
  v37 := Tryd.zeroValue76
  t127 := Tryd.underlying116
  a127 := Tryd.isAgg116
  z127 := Tryd.sizeOf116
  v127 := Tryd.zeroValue116
  t5 := Tryd.underlying5
  a5 := Tryd.isAgg5
  z5 := Tryd.sizeOf5
  v5 := Tryd.zeroValue5
  i0 := by kernel_rfl
  i3 := by kernel_rfl
  i4 := by kernel_rfl
  i5 := by kernel_rfl
  i9 := by kernel_rfl
  i37 := by kernel_rfl
  i127 := by kernel_rfl }
theorem Tryd.setN153 : (Tryd.prog.info? (Tryd.laysN153_ren.t 116)).map (fun i => (i.zero, i.size)) = some (some (.agg (Array.replicate 256 (.bool false))), 256) := by kernel_rfl
open Go.RowKit in
theorem Tryd.indexAny (s chars : ByteArray) (w : World) (hs : s.size < 4294967281) (hcs : chars.size < 4294967281)
    (has : ∀ (j : Nat) b, s.data.toList[j]? = some b → b.toNat < 128) (hac : ∀ (j : Nat) b, chars.data.toList[j]? = some b → b.toNat < 128) :
    Calls Tryd.prog 68 #[.string s, .string chars] w fun e w' => e = .returned (.int .i64 (Lib.indexAny s.data.toList chars.data.toList)) ∧ Below w.heap.size w w' :=
  Any.strings_IndexAny_laid Tryd.laysN153 Tryd.setN153 s chars w hs hcs has hac
open Go.RowKit in
theorem Tryd.stringslite_Clone (s : ByteArray) (w : World) (hlim : s.size ≤ 281474976710656) :
    Calls Tryd.prog 57 #[.string s] w fun e w' => e = .returned (.string s) ∧ Below w.heap.size w w' := Any.stringslite_Clone Tryd.laysM316 s w hlim
/-- The package-level variables, as they are laid. -/
instance Tryd.gtab : Go.Pv.GTab := ⟨[(0, [.int .i64 1, .int .i64 0, .int .i64 255, .int .i64 2, .int .i64 0, .int .i64 65535, .int .i64 4, .int .i64 0, .int .i64 4294967295, .int .i64 (-1), .int .i64 (-128), .int .i64 127, .int .i64 (-2), .int .i64 (-32768), .int .i64 32767, .int .i64 (-4), .int .i64 (-2147483648), .int .i64 2147483647]),
  (1, [.int .u8 0, .int .u8 0, .int .u8 0, .int .u8 0, .int .u8 0, .int .u8 0, .int .u8 0, .int .u8 0, .int .u8 0, .int .u8 1, .int .u8 1, .int .u8 1, .int .u8 1, .int .u8 1, .int .u8 0, .int .u8 0, .int .u8 0, .int .u8 0, .int .u8 0, .int .u8 0, .int .u8 0, .int .u8 0, .int .u8 0, .int .u8 0, .int .u8 0, .int .u8 0, .int .u8 0, .int .u8 0, .int .u8 0, .int .u8 0, .int .u8 0, .int .u8 0, .int .u8 1, .int .u8 0, .int .u8 0, .int .u8 0, .int .u8 0, .int .u8 0, .int .u8 0, .int .u8 0, .int .u8 0, .int .u8 0, .int .u8 0, .int .u8 0, .int .u8 0, .int .u8 0, .int .u8 0, .int .u8 0, .int .u8 0, .int .u8 0, .int .u8 0, .int .u8 0, .int .u8 0, .int .u8 0, .int .u8 0, .int .u8 0, .int .u8 0, .int .u8 0, .int .u8 0, .int .u8 0, .int .u8 0, .int .u8 0, .int .u8 0, .int .u8 0, .int .u8 0, .int .u8 0, .int .u8 0, .int .u8 0, .int .u8 0, .int .u8 0, .int .u8 0, .int .u8 0, .int .u8 0, .int .u8 0, .int .u8 0, .int .u8 0, .int .u8 0, .int .u8 0, .int .u8 0, .int .u8 0, .int .u8 0, .int .u8 0, .int .u8 0, .int .u8 0, .int .u8 0, .int .u8 0, .int .u8 0, .int .u8 0, .int .u8 0, .int .u8 0, .int .u8 0, .int .u8 0, .int .u8 0, .int .u8 0, .int .u8 0, .int .u8 0, .int .u8 0, .int .u8 0, .int .u8 0, .int .u8 0, .int .u8 0, .int .u8 0, .int .u8 0, .int .u8 0, .int .u8 0, .int .u8 0, .int .u8 0, .int .u8 0, .int .u8 0, .int .u8 0, .int .u8 0, .int .u8 0, .int .u8 0, .int .u8 0, .int .u8 0, .int .u8 0, .int .u8 0, .int .u8 0, .int .u8 0, .int .u8 0, .int .u8 0, .int .u8 0, .int .u8 0, .int .u8 0, .int .u8 0, .int .u8 0, .int .u8 0, .int .u8 0, .int .u8 0, .int .u8 0, .int .u8 0, .int .u8 0, .int .u8 0, .int .u8 0, .int .u8 0, .int .u8 0, .int .u8 0, .int .u8 0, .int .u8 0, .int .u8 0, .int .u8 0, .int .u8 0, .int .u8 0, .int .u8 0, .int .u8 0, .int .u8 0, .int .u8 0, .int .u8 0, .int .u8 0, .int .u8 0, .int .u8 0, .int .u8 0, .int .u8 0, .int .u8 0, .int .u8 0, .int .u8 0, .int .u8 0, .int .u8 0, .int .u8 0, .int .u8 0, .int .u8 0, .int .u8 0, .int .u8 0, .int .u8 0, .int .u8 0, .int .u8 0, .int .u8 0, .int .u8 0, .int .u8 0, .int .u8 0, .int .u8 0, .int .u8 0, .int .u8 0, .int .u8 0, .int .u8 0, .int .u8 0, .int .u8 0, .int .u8 0, .int .u8 0, .int .u8 0, .int .u8 0, .int .u8 0, .int .u8 0, .int .u8 0, .int .u8 0, .int .u8 0, .int .u8 0, .int .u8 0, .int .u8 0, .int .u8 0, .int .u8 0, .int .u8 0, .int .u8 0, .int .u8 0, .int .u8 0, .int .u8 0, .int .u8 0, .int .u8 0, .int .u8 0, .int .u8 0, .int .u8 0, .int .u8 0, .int .u8 0, .int .u8 0, .int .u8 0, .int .u8 0, .int .u8 0, .int .u8 0, .int .u8 0, .int .u8 0, .int .u8 0, .int .u8 0, .int .u8 0, .int .u8 0, .int .u8 0, .int .u8 0, .int .u8 0, .int .u8 0, .int .u8 0, .int .u8 0, .int .u8 0, .int .u8 0, .int .u8 0, .int .u8 0, .int .u8 0, .int .u8 0, .int .u8 0, .int .u8 0, .int .u8 0, .int .u8 0, .int .u8 0, .int .u8 0, .int .u8 0, .int .u8 0, .int .u8 0, .int .u8 0, .int .u8 0, .int .u8 0, .int .u8 0, .int .u8 0, .int .u8 0, .int .u8 0, .int .u8 0, .int .u8 0, .int .u8 0, .int .u8 0, .int .u8 0, .int .u8 0, .int .u8 0, .int .u8 0, .int .u8 0, .int .u8 0, .int .u8 0, .int .u8 0, .int .u8 0, .int .u8 0])]⟩
namespace Sh
open Go.Pv
def ascii : List UInt8 → Bool
  | [] => true
  | b :: l => Nat.blt b.toNat 128 && ascii l
theorem ascii_spec : ∀ {l : List UInt8}, ascii l = true → ∀ (j : Nat) (b : UInt8), l[j]? = some b → b.toNat < 128
  | [], _, j, b, h => by simp at h
  | a :: l, hl, j, b, h => by
    simp only [ascii, Bool.and_eq_true, Nat.blt_eq] at hl
    cases j with
    | zero => simp at h; subst h; exact hl.1
    | succ j => exact ascii_spec hl.2 j b (by simpa using h)
/-- The contract of strings.IndexAny, as an oracle. -/
def anyCl : Cl := fun f bs nt args =>
  match Nat.beq f 68, bs, nt, args with
  | true, [], 0, [.str s, .str c] => match ascii s && (ascii c && (Nat.blt s.length 4000000000 && Nat.blt c.length 4000000000)) with | true => some ([], 0, .int .i64 (Lib.indexAny s c)) | false => none
  | _, _, _, _ => none
theorem anyCl_ok : anyCl.Ok Tryd.prog := by
  intro f bs nt args bs' nt' r h
  unfold anyCl at h
  split at h
  · rename_i s c hf
    have hf := Nat.eq_of_beq_eq_true hf
    subst hf
    split at h
    · rename_i hh
      simp only [Bool.and_eq_true, Nat.blt_eq] at hh
      obtain ⟨h1, h2, h3, h4⟩ := hh
      cases h
      refine Fsp.of_below ⟨Tryd.f68, Tryd.func68, by kernel_rfl, by kernel_rfl⟩ fun g w vs _ hsz hargs => ?_
      obtain ⟨a, b, rfl⟩ : ∃ a b, vs = #[a, b] := by
        have : vs.size = 2 := hsz
        match vs, this with
        | ⟨[a, b]⟩, _ => exact ⟨a, b, rfl⟩
      have e1 := (hargs 0 a _ rfl rfl).str_inv
      have e2 := (hargs 1 b _ rfl rfl).str_inv
      subst e1; subst e2
      refine (Tryd.indexAny _ _ w ?_ ?_ (ascii_spec h1) (ascii_spec h2)).mono fun e w' ⟨he, hb⟩ => ⟨_, he, .int _ _, hb⟩
      · show s.length < _; omega
      · show c.length < _; omega
    · cases h
  · cases h
theorem space_at : (List.range 256).all (fun c => pvEq ((gat Tryd.gtab.tab 1).getD [] |>.getD c .any) (.int .u8 (if Lib.isSp (UInt8.ofNat c) then 1 else 0))) = true := by kernel_rfl
theorem space_len : ((gat Tryd.gtab.tab 1).getD []).length = 256 := by kernel_rfl
theorem space_some : (gat Tryd.gtab.tab 1).isSome = true := by kernel_rfl
theorem space_cell {g : Gh} {S : PS} {w : World} (hI : InvW g S w) (c : Nat) (hc : c < 256) : w.cell? ⟨1, c, none⟩ = some (.int .u8 (if Lib.isSp (UInt8.ofNat c) then 1 else 0)) := by
  obtain ⟨ps, hps⟩ := Option.isSome_iff_exists.1 space_some
  have h1 := hI.gl 1 ps hps
  have hl := space_len
  have ha := List.all_eq_true.1 space_at c (List.mem_range.2 hc)
  rw [hps] at hl ha
  simp only [Option.getD_some] at hl ha
  have h2 := pvEq_eq ha
  cases h1 with
  | loc b off ps vals hh ho hp =>
    have h3 := hh c (by omega)
    rw [Nat.zero_add] at h3
    have h4 := hp c _ (by rw [List.getElem?_eq_getElem (by omega)])
    have h5 : ps[c]'(by omega) = ps.getD c .any := by rw [List.getD_eq_getElem?_getD, List.getElem?_eq_getElem (by omega)]; rfl
    rw [h5, h2] at h4
    have h6 := hI.cell h3 (ho c (by omega))
    rw [h6]
    cases hv : vals c <;> rw [hv] at h4 <;> cases h4
    rfl
def fldCl : Cl := fnCl 64 fun args => match args with
  | [.str s] => match ascii s && Nat.blt s.length 4000000000 with | true => some (.sl 1 ((Lib.fields s).map .str)) | false => none
  | _ => none
theorem fldCl_ok : fldCl.Ok Tryd.prog := fnCl_ok fun args r h => by
  split at h
  · rename_i s
    split at h
    · rename_i hh
      simp only [Bool.and_eq_true, Nat.blt_eq] at hh
      cases h
      refine Fsp.untok (r := .slt 1 ((Lib.fields s).map .str) 0) (nt' := 1) (Fsp.of_row ⟨Tryd.f64, Tryd.func64, by kernel_rfl, by kernel_rfl⟩ (fun p hp => by obtain ⟨x, _, rfl⟩ := List.mem_map.1 hp; rfl) fun g w vs hI hsz hargs => ?_)
      obtain ⟨a, rfl⟩ : ∃ a, vs = #[a] := by
        have : vs.size = 1 := hsz
        match vs, this with
        | ⟨[a]⟩, _ => exact ⟨a, rfl⟩
      have e1 := (hargs 0 a _ rfl rfl).str_inv
      subst e1
      have hfl : ∀ l : List (List UInt8), (l.map PV.str).flatMap PV.cells = l.map PV.str := by
        intro l; induction l with
        | nil => rfl
        | cons x l ih => simp only [List.map_cons, List.flatMap_cons, ih]; rfl
      have hlen : (Lib.fields s).length ≤ maxLen := by
        have h1 : ∀ (l : List UInt8) (b : Bool), Lib.cntF b l ≤ l.length := by
          intro l
          induction l with
          | nil => intro b; exact Nat.le_refl _
          | cons x l ih =>
            intro b
            have := ih (Lib.isSp x)
            simp only [Lib.cntF, List.length_cons]
            split <;> omega
        have h2 := h1 s true
        rw [Lib.fields_length, maxLen_eq]; omega
      refine (Any.strings_Fields_core Tryd.laysN157 (by kernel_rfl) ⟨⟨s⟩⟩ w (by show s.length < _; omega) (ascii_spec hh.1) (fun c hc => space_cell hI c hc)).mono fun e w' ⟨he, hw⟩ => ?_
      subst hw
      refine ⟨_, _, _, _, he, Pushed.alloc _ _, by simp, Nat.le_refl _, hlen, by simp, ?_, ?_⟩
      · intro i v hv
        simp only [List.getElem?_toArray, List.getElem?_map] at hv
        obtain ⟨x, _, rfl⟩ := Option.map_eq_some_iff.1 hv
        rfl
      · intro i v p hv hp
        rw [hfl] at hp
        simp only [List.getElem?_toArray, List.getElem?_map] at hv hp
        obtain ⟨x, hx, rfl⟩ := Option.map_eq_some_iff.1 hv
        rw [hx] at hp
        cases hp
        exact .str x
    · cases h
  · cases h
theorem mixed : Tryd.prog.follows .mixedOrders = true := by kernel_rfl
theorem clOk : (strCl 57).Ok Tryd.prog := strCl_ok ⟨Tryd.f57, Tryd.func57, by kernel_rfl, by kernel_rfl⟩ fun s w h => Tryd.stringslite_Clone s w h
end Sh
end Go.Proofs
