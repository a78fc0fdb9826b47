/- Layers 1 and 2 as plain data: the bytes of numbers. No program. -/
import Derived.Test.YtoemcdgebkkcoaaGreatDoorPvBs
import Derived.Test.YtoemcdgebkkcoaaGreatDoorPvYa
import Derived.Test.YtoemcdgebkkcoaaGreatDoorShTypes
import Derived.Test.YtoemcdgebkkcoaaGreatDoorPvYb
set_option linter.unusedVariables false
namespace Go.Proofs.Sh
open Go.Pv
def byteAt (v : Int) (k : Nat) : UInt8 := UInt8.ofNat ((v / 256 ^ k) % 256).toNat
def encB (o : Int) (n : Nat) (v : Int) : List UInt8 := (List.range n).map fun i => byteAt v (if (o == 1) = true then n - 1 - i else i)
theorem encB_length (o : Int) (n : Nat) (v : Int) : (encB o n v).length = n := by simp [encB]
theorem wrap_u64 (v : Int) : IntKind.u64.wrap v = v % 18446744073709551616 := by
 simp only [IntKind.wrap, IntKind.signed, IntKind.bits, Bool.false_and]; rfl
theorem wrap_u8 (v : Int) : IntKind.u8.wrap v = v % 256 := by
 simp only [IntKind.wrap, IntKind.signed, IntKind.bits, Bool.false_and]; rfl
theorem byteAt_toNat (v : Int) (k : Nat) : ((byteAt v k).toNat : Int) = (v / 256 ^ k) % 256 := by
 have h1 : 0 ≤ (v / 256 ^ k) % 256 := Int.emod_nonneg _ (by omega)
 have h2 : (v / 256 ^ k) % 256 < 256 := Int.emod_lt_of_pos _ (by omega)
 unfold byteAt
 rw [UInt8.toNat_ofNat']
 omega
theorem byte0 (v : Int) : IntKind.u8.wrap ((IntKind.u64.wrap v).fdiv 1) = ((byteAt v 0).toNat : Int) := by
 rw [byteAt_toNat, wrap_u64, wrap_u8, Int.fdiv_eq_ediv_of_nonneg _ (by omega)]; omega
theorem byte1 (v : Int) : IntKind.u8.wrap ((IntKind.u64.wrap v).fdiv 256) = ((byteAt v 1).toNat : Int) := by
 rw [byteAt_toNat, wrap_u64, wrap_u8, Int.fdiv_eq_ediv_of_nonneg _ (by omega)]; omega
theorem byte2 (v : Int) : IntKind.u8.wrap ((IntKind.u64.wrap v).fdiv 65536) = ((byteAt v 2).toNat : Int) := by
 rw [byteAt_toNat, wrap_u64, wrap_u8, Int.fdiv_eq_ediv_of_nonneg _ (by omega)]; omega
theorem byte3 (v : Int) : IntKind.u8.wrap ((IntKind.u64.wrap v).fdiv 16777216) = ((byteAt v 3).toNat : Int) := by
 rw [byteAt_toNat, wrap_u64, wrap_u8, Int.fdiv_eq_ediv_of_nonneg _ (by omega)]; omega
def low (s : Int) : Int := if s = -1 then -128 else if s = -2 then -32768 else if s = -4 then -2147483648 else 0
def high (s : Int) : Int := if s = 1 then 255 else if s = 2 then 65535 else if s = 4 then 4294967295 else if s = -1 then 127 else if s = -2 then 32767 else 2147483647
def isSize (s : Int) : Prop := s = 1 ∨ s = 2 ∨ s = 4 ∨ s = -1 ∨ s = -2 ∨ s = -4
def isOrder (o : Int) : Prop := o = 0 ∨ o = 1
def wid (s : Int) : Nat := s.natAbs
def fitsN (s v : Int) : Bool := decide (low s ≤ v) && decide (v ≤ high s)
theorem wid_pos {s : Int} (h : isSize s) : 1 ≤ wid s ∧ wid s ≤ 4 := by rcases h with rfl | rfl | rfl | rfl | rfl | rfl <;> decide
end Go.Proofs.Sh
set_option maxRecDepth 100000
set_option linter.unusedSimpArgs false
set_option linter.unusedVariables false
namespace Go.Proofs.Sh
open Go.Pv
theorem len_fs (l : List UInt8) : Fsp Tryz.prog 88 [[.nbp 89 0, .bsl 5 (bs l) 0]] 1 [.box 0 0] [[.nbp 89 0, .bsl 5 (bs l) 0]] 1 (.int .i64 l.length) := by
 (refine Fsp.of (nx := 1) mixed Tryz.func88 rfl (by decide) (by first | exact Nat.le_refl _ | simp) (by simp [Tryz.f88]) ⟨by simp, by simp⟩ ?_; simp -implicitDefEqProofs only [push_cast, Tryz.f88, seval])
 rw [bs_length]
 exact endK_box1 [0] rfl rfl (by simp [PS.lv, lkp_hit, lkp_miss, lkp_nil]) (by simp [PS.obj, lkp_hit, lkp_miss, lkp_nil]; rfl) (by simp [wkL, res1, PV.weak]) ⟨by simp [resOk, PS.get, lkp_hit, lkp_miss, PS.ev], by simp [resPV, PS.get, lkp_hit, lkp_miss, PS.ev], by simp [resOf, resPV, one', res3, res2, res1, PS.get, lkp_hit, lkp_miss, PS.ev, PV.weak, PV.el, wkL]⟩
theorem writeString_fs (l s : List UInt8) (h : l.length + s.length ≤ 140737488355328) : Fsp Tryz.prog 44 [[.nbp 89 0, .bsl 5 (bs l) 0]] 1 [.box 0 0, .str s] [[.nbp 89 0, .bsl 5 (bs (l ++ s)) 0]] 1 (.tup [.int .i64 s.length, .nilif]) := by
 have hc := check_fs (.bsl 5 (bs l) 0) 1
 have hb : (bs l).length + (List.map (fun b => PV.int .u8 (b.toNat : Int)) s).length ≤ 140737488355328 := by rw [bs_length, List.length_map]; exact h
 (refine Fsp.of (nx := 1) mixed Tryz.func44 rfl (by decide) (by first | exact Nat.le_refl _ | simp) (by simp [Tryz.f44]) ⟨by simp, by simp⟩ ?_; simp -implicitDefEqProofs only [push_cast, Tryz.f44, seval])
 refine callE_bx hc [0] [0] ?_
 simp -implicitDefEqProofs only [push_cast, seval]
 refine ⟨by omega, by omega, ?_⟩
 rw [show bs l ++ List.map (fun b => PV.int .u8 (b.toNat : Int)) s = bs (l ++ s) from (bs_append l s).symm]
 exact endK_box1 [41] rfl rfl (by simp [PS.lv, lkp_hit, lkp_miss, lkp_nil]) (by simp [PS.obj, lkp_hit, lkp_miss, lkp_nil]; rfl) (by simp [wkL, res1, PV.weak]) ⟨by simp [resOk, PS.get, lkp_hit, lkp_miss, PS.ev], by simp [resPV, PS.get, lkp_hit, lkp_miss, PS.ev], by simp [resOf, resPV, one', res3, res2, res1, PS.get, lkp_hit, lkp_miss, PS.ev, PV.weak, PV.el, wkL]⟩
theorem writeByte_fs (l : List UInt8) (h : l.length + 1 ≤ 140737488355328) : Fsp Tryz.prog 89 [[.nbp 89 0, .bsl 5 (bs l) 0]] 1 [.box 0 0, .int .u8 0] [[.nbp 89 0, .bsl 5 (bs (l ++ [0])) 0]] 1 .nilif := by
 have hc := check_fs (.bsl 5 (bs l) 0) 1
 have hb : (bs l).length + 1 ≤ 140737488355328 := by rw [bs_length]; exact h
 (refine Fsp.of (nx := 1) mixed Tryz.func89 rfl (by decide) (by first | exact Nat.le_refl _ | simp) (by simp [Tryz.f89]) ⟨by simp, by simp⟩ ?_; simp -implicitDefEqProofs only [push_cast, Tryz.f89, seval])
 refine callE_bx hc [0] [0] ?_
 simp -implicitDefEqProofs only [push_cast, seval]
 refine ⟨by omega, by omega, ?_⟩
 rw [show bs l ++ [PV.int .u8 0] = bs (l ++ [0]) from (bs_append l [0]).symm]
 exact endK_box1 [41] rfl rfl (by simp [PS.lv, lkp_hit, lkp_miss, lkp_nil]) (by simp [PS.obj, lkp_hit, lkp_miss, lkp_nil]; rfl) (by simp [wkL, res1, PV.weak]) ⟨by simp [resOk, PS.get, lkp_hit, lkp_miss, PS.ev], by simp [resPV, PS.get, lkp_hit, lkp_miss, PS.ev], by simp [resOf, resPV, one', res3, res2, res1, PS.get, lkp_hit, lkp_miss, PS.ev, PV.weak, PV.el, wkL]⟩
end Go.Proofs.Sh
set_option maxRecDepth 100000
set_option linter.unusedSimpArgs false
set_option linter.unusedVariables false
namespace Go.Proofs.Sh
open Go.Pv
noncomputable def run0 (f : Nat) (args : List PV) := runI Tryz.prog noCl (fun _ => false) 30 4 f [] 0 args
theorem run0_fs {f : Nat} {args : List PV} {r : PV} (h : run0 f args = some ([], 0, r)) : Fsp Tryz.prog f [] 0 args [] 0 r := runI_ok mixed (noCl_ok _) _ _ _ _ _ _ _ h
def spanOf (s : Int) : PV := .agg [.int .i64 s, .int .i64 (low s), .int .i64 (high s)]
theorem known_fs {o s : Int} (ho : isOrder o) (hs : isSize s) : Fsp Tryz.prog 66 [] 0 [.int .i64 o, .int .i64 s] [] 0 (.tup [spanOf s, .int .i64 0]) := by
 rcases ho with rfl | rfl <;> rcases hs with rfl | rfl | rfl | rfl | rfl | rfl <;> exact run0_fs (by kernel_rfl)
theorem width_fs {s : Int} (hs : isSize s) : Fsp Tryz.prog 90 [] 0 [spanOf s] [] 0 (.int .i64 (wid s)) := by
 rcases hs with rfl | rfl | rfl | rfl | rfl | rfl <;> exact run0_fs (by kernel_rfl)
theorem has_fs (s v : Int) : Fsp Tryz.prog 67 [] 0 [spanOf s, .int .i64 v] [] 0 (.bool (fitsN s v)) := by
 (refine Fsp.ofs (nx := 0) mixed Tryz.func67 rfl (by simp [Tryz.f67]) ?_; simp -implicitDefEqProofs only [push_cast, Tryz.f67, spanOf, seval])
 rfl
theorem add_0_1 (v : Int) : Fsp Tryz.prog 68 [] 0 [spanOf (1), .nilsl, .int .i64 0, .int .i64 v] [] 1 (.slt 1 (bs (encB 0 (wid (1)) v)) 0) := by
 have hw := width_fs (s := 1) (by unfold isSize; omega)
 have hn : ((wid (1) : Nat) : Int) = 1 := rfl
 rw [hn] at hw
 simp only [spanOf] at hw
 (refine Fsp.ofs (nx := 0) mixed Tryz.func68 rfl (by simp [Tryz.f68]) ?_; simp -implicitDefEqProofs only [push_cast, Tryz.f68, spanOf, seval])
 refine callE_p hw ?_
 simp -implicitDefEqProofs only [push_cast, seval]
 refine loopC_un 2 ?_
 simp -implicitDefEqProofs only [push_cast, seval]
 simp only [byte0, byte1, byte2, byte3]
 exact endK_tok1 rfl rfl
theorem add_0_2 (v : Int) : Fsp Tryz.prog 68 [] 0 [spanOf (2), .nilsl, .int .i64 0, .int .i64 v] [] 1 (.slt 1 (bs (encB 0 (wid (2)) v)) 0) := by
 have hw := width_fs (s := 2) (by unfold isSize; omega)
 have hn : ((wid (2) : Nat) : Int) = 2 := rfl
 rw [hn] at hw
 simp only [spanOf] at hw
 (refine Fsp.ofs (nx := 0) mixed Tryz.func68 rfl (by simp [Tryz.f68]) ?_; simp -implicitDefEqProofs only [push_cast, Tryz.f68, spanOf, seval])
 refine callE_p hw ?_
 simp -implicitDefEqProofs only [push_cast, seval]
 refine loopC_un 3 ?_
 simp -implicitDefEqProofs only [push_cast, seval]
 simp only [byte0, byte1, byte2, byte3]
 exact endK_tok1 rfl rfl
theorem add_0_4 (v : Int) : Fsp Tryz.prog 68 [] 0 [spanOf (4), .nilsl, .int .i64 0, .int .i64 v] [] 1 (.slt 1 (bs (encB 0 (wid (4)) v)) 0) := by
 have hw := width_fs (s := 4) (by unfold isSize; omega)
 have hn : ((wid (4) : Nat) : Int) = 4 := rfl
 rw [hn] at hw
 simp only [spanOf] at hw
 (refine Fsp.ofs (nx := 0) mixed Tryz.func68 rfl (by simp [Tryz.f68]) ?_; simp -implicitDefEqProofs only [push_cast, Tryz.f68, spanOf, seval])
 refine callE_p hw ?_
 simp -implicitDefEqProofs only [push_cast, seval]
 refine loopC_un 5 ?_
 simp -implicitDefEqProofs only [push_cast, seval]
 simp only [byte0, byte1, byte2, byte3]
 exact endK_tok1 rfl rfl
theorem add_0_m1 (v : Int) : Fsp Tryz.prog 68 [] 0 [spanOf (-1), .nilsl, .int .i64 0, .int .i64 v] [] 1 (.slt 1 (bs (encB 0 (wid (-1)) v)) 0) := by
 have hw := width_fs (s := -1) (by unfold isSize; omega)
 have hn : ((wid (-1) : Nat) : Int) = 1 := rfl
 rw [hn] at hw
 simp only [spanOf] at hw
 (refine Fsp.ofs (nx := 0) mixed Tryz.func68 rfl (by simp [Tryz.f68]) ?_; simp -implicitDefEqProofs only [push_cast, Tryz.f68, spanOf, seval])
 refine callE_p hw ?_
 simp -implicitDefEqProofs only [push_cast, seval]
 refine loopC_un 2 ?_
 simp -implicitDefEqProofs only [push_cast, seval]
 simp only [byte0, byte1, byte2, byte3]
 exact endK_tok1 rfl rfl
theorem add_0_m2 (v : Int) : Fsp Tryz.prog 68 [] 0 [spanOf (-2), .nilsl, .int .i64 0, .int .i64 v] [] 1 (.slt 1 (bs (encB 0 (wid (-2)) v)) 0) := by
 have hw := width_fs (s := -2) (by unfold isSize; omega)
 have hn : ((wid (-2) : Nat) : Int) = 2 := rfl
 rw [hn] at hw
 simp only [spanOf] at hw
 (refine Fsp.ofs (nx := 0) mixed Tryz.func68 rfl (by simp [Tryz.f68]) ?_; simp -implicitDefEqProofs only [push_cast, Tryz.f68, spanOf, seval])
 refine callE_p hw ?_
 simp -implicitDefEqProofs only [push_cast, seval]
 refine loopC_un 3 ?_
 simp -implicitDefEqProofs only [push_cast, seval]
 simp only [byte0, byte1, byte2, byte3]
 exact endK_tok1 rfl rfl
theorem add_0_m4 (v : Int) : Fsp Tryz.prog 68 [] 0 [spanOf (-4), .nilsl, .int .i64 0, .int .i64 v] [] 1 (.slt 1 (bs (encB 0 (wid (-4)) v)) 0) := by
 have hw := width_fs (s := -4) (by unfold isSize; omega)
 have hn : ((wid (-4) : Nat) : Int) = 4 := rfl
 rw [hn] at hw
 simp only [spanOf] at hw
 (refine Fsp.ofs (nx := 0) mixed Tryz.func68 rfl (by simp [Tryz.f68]) ?_; simp -implicitDefEqProofs only [push_cast, Tryz.f68, spanOf, seval])
 refine callE_p hw ?_
 simp -implicitDefEqProofs only [push_cast, seval]
 refine loopC_un 5 ?_
 simp -implicitDefEqProofs only [push_cast, seval]
 simp only [byte0, byte1, byte2, byte3]
 exact endK_tok1 rfl rfl
theorem add_1_1 (v : Int) : Fsp Tryz.prog 68 [] 0 [spanOf (1), .nilsl, .int .i64 1, .int .i64 v] [] 1 (.slt 1 (bs (encB 1 (wid (1)) v)) 0) := by
 have hw := width_fs (s := 1) (by unfold isSize; omega)
 have hn : ((wid (1) : Nat) : Int) = 1 := rfl
 rw [hn] at hw
 simp only [spanOf] at hw
 (refine Fsp.ofs (nx := 0) mixed Tryz.func68 rfl (by simp [Tryz.f68]) ?_; simp -implicitDefEqProofs only [push_cast, Tryz.f68, spanOf, seval])
 refine callE_p hw ?_
 simp -implicitDefEqProofs only [push_cast, seval]
 refine loopC_un 2 ?_
 simp -implicitDefEqProofs only [push_cast, seval]
 simp only [byte0, byte1, byte2, byte3]
 exact endK_tok1 rfl rfl
theorem add_1_2 (v : Int) : Fsp Tryz.prog 68 [] 0 [spanOf (2), .nilsl, .int .i64 1, .int .i64 v] [] 1 (.slt 1 (bs (encB 1 (wid (2)) v)) 0) := by
 have hw := width_fs (s := 2) (by unfold isSize; omega)
 have hn : ((wid (2) : Nat) : Int) = 2 := rfl
 rw [hn] at hw
 simp only [spanOf] at hw
 (refine Fsp.ofs (nx := 0) mixed Tryz.func68 rfl (by simp [Tryz.f68]) ?_; simp -implicitDefEqProofs only [push_cast, Tryz.f68, spanOf, seval])
 refine callE_p hw ?_
 simp -implicitDefEqProofs only [push_cast, seval]
 refine loopC_un 3 ?_
 simp -implicitDefEqProofs only [push_cast, seval]
 simp only [byte0, byte1, byte2, byte3]
 exact endK_tok1 rfl rfl
theorem add_1_4 (v : Int) : Fsp Tryz.prog 68 [] 0 [spanOf (4), .nilsl, .int .i64 1, .int .i64 v] [] 1 (.slt 1 (bs (encB 1 (wid (4)) v)) 0) := by
 have hw := width_fs (s := 4) (by unfold isSize; omega)
 have hn : ((wid (4) : Nat) : Int) = 4 := rfl
 rw [hn] at hw
 simp only [spanOf] at hw
 (refine Fsp.ofs (nx := 0) mixed Tryz.func68 rfl (by simp [Tryz.f68]) ?_; simp -implicitDefEqProofs only [push_cast, Tryz.f68, spanOf, seval])
 refine callE_p hw ?_
 simp -implicitDefEqProofs only [push_cast, seval]
 refine loopC_un 5 ?_
 simp -implicitDefEqProofs only [push_cast, seval]
 simp only [byte0, byte1, byte2, byte3]
 exact endK_tok1 rfl rfl
theorem add_1_m1 (v : Int) : Fsp Tryz.prog 68 [] 0 [spanOf (-1), .nilsl, .int .i64 1, .int .i64 v] [] 1 (.slt 1 (bs (encB 1 (wid (-1)) v)) 0) := by
 have hw := width_fs (s := -1) (by unfold isSize; omega)
 have hn : ((wid (-1) : Nat) : Int) = 1 := rfl
 rw [hn] at hw
 simp only [spanOf] at hw
 (refine Fsp.ofs (nx := 0) mixed Tryz.func68 rfl (by simp [Tryz.f68]) ?_; simp -implicitDefEqProofs only [push_cast, Tryz.f68, spanOf, seval])
 refine callE_p hw ?_
 simp -implicitDefEqProofs only [push_cast, seval]
 refine loopC_un 2 ?_
 simp -implicitDefEqProofs only [push_cast, seval]
 simp only [byte0, byte1, byte2, byte3]
 exact endK_tok1 rfl rfl
theorem add_1_m2 (v : Int) : Fsp Tryz.prog 68 [] 0 [spanOf (-2), .nilsl, .int .i64 1, .int .i64 v] [] 1 (.slt 1 (bs (encB 1 (wid (-2)) v)) 0) := by
 have hw := width_fs (s := -2) (by unfold isSize; omega)
 have hn : ((wid (-2) : Nat) : Int) = 2 := rfl
 rw [hn] at hw
 simp only [spanOf] at hw
 (refine Fsp.ofs (nx := 0) mixed Tryz.func68 rfl (by simp [Tryz.f68]) ?_; simp -implicitDefEqProofs only [push_cast, Tryz.f68, spanOf, seval])
 refine callE_p hw ?_
 simp -implicitDefEqProofs only [push_cast, seval]
 refine loopC_un 3 ?_
 simp -implicitDefEqProofs only [push_cast, seval]
 simp only [byte0, byte1, byte2, byte3]
 exact endK_tok1 rfl rfl
theorem add_1_m4 (v : Int) : Fsp Tryz.prog 68 [] 0 [spanOf (-4), .nilsl, .int .i64 1, .int .i64 v] [] 1 (.slt 1 (bs (encB 1 (wid (-4)) v)) 0) := by
 have hw := width_fs (s := -4) (by unfold isSize; omega)
 have hn : ((wid (-4) : Nat) : Int) = 4 := rfl
 rw [hn] at hw
 simp only [spanOf] at hw
 (refine Fsp.ofs (nx := 0) mixed Tryz.func68 rfl (by simp [Tryz.f68]) ?_; simp -implicitDefEqProofs only [push_cast, Tryz.f68, spanOf, seval])
 refine callE_p hw ?_
 simp -implicitDefEqProofs only [push_cast, seval]
 refine loopC_un 5 ?_
 simp -implicitDefEqProofs only [push_cast, seval]
 simp only [byte0, byte1, byte2, byte3]
 exact endK_tok1 rfl rfl
theorem add_fs {o s : Int} (ho : isOrder o) (hs : isSize s) (v : Int) : Fsp Tryz.prog 68 [] 0 [spanOf s, .nilsl, .int .i64 o, .int .i64 v] [] 1 (.slt 1 (bs (encB o (wid s) v)) 0) := by
 rcases ho with rfl | rfl <;> rcases hs with rfl | rfl | rfl | rfl | rfl | rfl
 all_goals first | exact add_0_1 v | exact add_0_2 v | exact add_0_4 v | exact add_0_m1 v | exact add_0_m2 v | exact add_0_m4 v | exact add_1_1 v | exact add_1_2 v | exact add_1_4 v | exact add_1_m1 v | exact add_1_m2 v | exact add_1_m4 v
def putS (o s v : Int) : List UInt8 := if fitsN s v = true then encB o (wid s) v else []
def putE (s v : Int) : Int := if fitsN s v = true then 0 else 1
theorem put_fs {o s : Int} (ho : isOrder o) (hs : isSize s) (v : Int) : Fsp Tryz.prog 36 [] 0 [.int .i64 o, .int .i64 s, .int .i64 v] [] 0 (.tup [.str (putS o s v), .int .i64 (putE s v)]) := by
 have hk := known_fs ho hs
 have hh := has_fs s v
 have ha := add_fs ho hs v
 simp only [spanOf] at hk hh ha
 (refine Fsp.ofs (nx := 0) mixed Tryz.func36 rfl (by simp [Tryz.f36]) ?_; simp -implicitDefEqProofs only [push_cast, Tryz.f36, seval])
 refine callE_p hk ?_
 simp -implicitDefEqProofs only [push_cast, seval]
 refine callE_p hh ?_
 simp -implicitDefEqProofs only [push_cast, seval]
 generalize hf : fitsN s v = ff at *
 refine condC_split (fun h => ?_) (fun h => ?_)
 ·have : ff = false := by simpa using h
  subst this
  simp -implicitDefEqProofs only [push_cast, seval]
  simp [putS, putE, hf, wkL, res2, res1, PV.weak, PV.el]
 ·have : ff = true := by simpa using h
  subst this
  simp -implicitDefEqProofs only [push_cast, seval]
  refine callE_p ha ?_
  simp -implicitDefEqProofs only [push_cast, seval]
  refine ⟨bs_isByte _, _, rfl, ?_⟩
  rw [bs_byteOf]
  simp [wkL, res2, res1, PV.weak, PV.el, putS, putE, hf]
end Go.Proofs.Sh
set_option maxRecDepth 100000
set_option linter.unusedSimpArgs false
set_option linter.unusedVariables false
namespace Go.Proofs.Sh
open Go.Pv
def little : List UInt8 → Nat
 | [] => 0
 | x :: l => x.toNat + 256 * little l
def decU (o : Int) (b : List UInt8) : Nat := little (if (o == 1) = true then b.reverse else b)
def readV (o s : Int) (b : List UInt8) : Int := if decide (high s < (decU o b : Int)) = true then (decU o b : Int) - 256 ^ wid s else decU o b
theorem or_u64 (a b : Nat) (ha : a < 2 ^ 64) (hb : b < 2 ^ 64) : bitsI .or .u64 (a : Int) (b : Int) = ((a ||| b : Nat) : Int) := by
 have h := Nat.or_lt_two_pow ha hb
 have e : (BitVec.ofInt 64 (a : Int) ||| BitVec.ofInt 64 (b : Int)).toNat = a ||| b := by
  rw [BitVec.toNat_or, BitVec.ofInt_natCast, BitVec.ofInt_natCast, BitVec.toNat_ofNat, BitVec.toNat_ofNat, Nat.mod_eq_of_lt ha, Nat.mod_eq_of_lt hb]
 show IntKind.u64.wrap ((BitVec.ofInt 64 (a : Int) ||| BitVec.ofInt 64 (b : Int)).toNat : Int) = _
 rw [e, wrap_u64]
 omega
theorem or_lo (a b k : Nat) (h : b < 2 ^ k) (hd : 2 ^ k ∣ a) : a ||| b = a + b := by
 obtain ⟨c, rfl⟩ := hd
 exact (Nat.two_pow_add_eq_or_of_lt h c).symm
theorem or_up (a b k : Nat) (h : a < 2 ^ k) (hd : 2 ^ k ∣ b) : a ||| b = a + b := by
 rw [Nat.or_comm, or_lo b a k h hd]; omega
theorem sh0 (x : UInt8) : IntKind.u64.wrap (IntKind.u64.wrap (x.toNat : Int) * 1) = ((x.toNat : Nat) : Int) := by
 have := x.toNat_lt
 rw [wrap_u64, wrap_u64]; omega
theorem sh1 (x : UInt8) : IntKind.u64.wrap (IntKind.u64.wrap (x.toNat : Int) * 256) = ((x.toNat * 256 : Nat) : Int) := by
 have := x.toNat_lt
 rw [wrap_u64, wrap_u64]; omega
theorem sh2 (x : UInt8) : IntKind.u64.wrap (IntKind.u64.wrap (x.toNat : Int) * 65536) = ((x.toNat * 65536 : Nat) : Int) := by
 have := x.toNat_lt
 rw [wrap_u64, wrap_u64]; omega
theorem sh3 (x : UInt8) : IntKind.u64.wrap (IntKind.u64.wrap (x.toNat : Int) * 16777216) = ((x.toNat * 16777216 : Nat) : Int) := by
 have := x.toNat_lt
 rw [wrap_u64, wrap_u64]; omega
theorem or_0 (b : Nat) (h : b < 2 ^ 64) : bitsI .or .u64 0 (b : Int) = (b : Int) := by
 have := or_u64 0 b (by decide) h
 rw [Nat.zero_or] at this; exact this
theorem orU_0_1 (b0 : UInt8) : bitsI .or .u64 (0) (IntKind.u64.wrap (IntKind.u64.wrap (b0.toNat : Int) * 1)) = ((decU 0 [b0] : Nat) : Int) := by
 have h_b0 := b0.toNat_lt
 simp only [sh0, sh1, sh2, sh3]
 rw [or_0 _ (by omega)]
 simp only [decU, little, Int.reduceBEq, Bool.false_eq_true, if_true, if_false, ite_true, ite_false, List.reverse_cons, List.reverse_nil, List.nil_append, List.cons_append]
 omega
theorem orU_0_2 (b0 b1 : UInt8) : bitsI .or .u64 (bitsI .or .u64 (0) (IntKind.u64.wrap (IntKind.u64.wrap (b0.toNat : Int) * 1))) (IntKind.u64.wrap (IntKind.u64.wrap (b1.toNat : Int) * 256)) = ((decU 0 [b0, b1] : Nat) : Int) := by
 have h_b0 := b0.toNat_lt
 have h_b1 := b1.toNat_lt
 simp only [sh0, sh1, sh2, sh3]
 rw [or_0 _ (by omega)]
 rw [or_u64 _ _ (by omega) (by omega), or_up _ _ 8 (by omega) (by omega)]
 simp only [decU, little, Int.reduceBEq, Bool.false_eq_true, if_true, if_false, ite_true, ite_false, List.reverse_cons, List.reverse_nil, List.nil_append, List.cons_append]
 omega
theorem orU_0_4 (b0 b1 b2 b3 : UInt8) : bitsI .or .u64 (bitsI .or .u64 (bitsI .or .u64 (bitsI .or .u64 (0) (IntKind.u64.wrap (IntKind.u64.wrap (b0.toNat : Int) * 1))) (IntKind.u64.wrap (IntKind.u64.wrap (b1.toNat : Int) * 256))) (IntKind.u64.wrap (IntKind.u64.wrap (b2.toNat : Int) * 65536))) (IntKind.u64.wrap (IntKind.u64.wrap (b3.toNat : Int) * 16777216)) = ((decU 0 [b0, b1, b2, b3] : Nat) : Int) := by
 have h_b0 := b0.toNat_lt
 have h_b1 := b1.toNat_lt
 have h_b2 := b2.toNat_lt
 have h_b3 := b3.toNat_lt
 simp only [sh0, sh1, sh2, sh3]
 rw [or_0 _ (by omega)]
 rw [or_u64 _ _ (by omega) (by omega), or_up _ _ 8 (by omega) (by omega)]
 rw [or_u64 _ _ (by omega) (by omega), or_up _ _ 16 (by omega) (by omega)]
 rw [or_u64 _ _ (by omega) (by omega), or_up _ _ 24 (by omega) (by omega)]
 simp only [decU, little, Int.reduceBEq, Bool.false_eq_true, if_true, if_false, ite_true, ite_false, List.reverse_cons, List.reverse_nil, List.nil_append, List.cons_append]
 omega
theorem orU_1_1 (b0 : UInt8) : bitsI .or .u64 (0) (IntKind.u64.wrap (IntKind.u64.wrap (b0.toNat : Int) * 1)) = ((decU 1 [b0] : Nat) : Int) := by
 have h_b0 := b0.toNat_lt
 simp only [sh0, sh1, sh2, sh3]
 rw [or_0 _ (by omega)]
 simp only [decU, little, Int.reduceBEq, Bool.false_eq_true, if_true, if_false, ite_true, ite_false, List.reverse_cons, List.reverse_nil, List.nil_append, List.cons_append]
 omega
theorem orU_1_2 (b0 b1 : UInt8) : bitsI .or .u64 (bitsI .or .u64 (0) (IntKind.u64.wrap (IntKind.u64.wrap (b0.toNat : Int) * 256))) (IntKind.u64.wrap (IntKind.u64.wrap (b1.toNat : Int) * 1)) = ((decU 1 [b0, b1] : Nat) : Int) := by
 have h_b0 := b0.toNat_lt
 have h_b1 := b1.toNat_lt
 simp only [sh0, sh1, sh2, sh3]
 rw [or_0 _ (by omega)]
 rw [or_u64 _ _ (by omega) (by omega), or_lo _ _ 8 (by omega) (by omega)]
 simp only [decU, little, Int.reduceBEq, Bool.false_eq_true, if_true, if_false, ite_true, ite_false, List.reverse_cons, List.reverse_nil, List.nil_append, List.cons_append]
 omega
theorem orU_1_4 (b0 b1 b2 b3 : UInt8) : bitsI .or .u64 (bitsI .or .u64 (bitsI .or .u64 (bitsI .or .u64 (0) (IntKind.u64.wrap (IntKind.u64.wrap (b0.toNat : Int) * 16777216))) (IntKind.u64.wrap (IntKind.u64.wrap (b1.toNat : Int) * 65536))) (IntKind.u64.wrap (IntKind.u64.wrap (b2.toNat : Int) * 256))) (IntKind.u64.wrap (IntKind.u64.wrap (b3.toNat : Int) * 1)) = ((decU 1 [b0, b1, b2, b3] : Nat) : Int) := by
 have h_b0 := b0.toNat_lt
 have h_b1 := b1.toNat_lt
 have h_b2 := b2.toNat_lt
 have h_b3 := b3.toNat_lt
 simp only [sh0, sh1, sh2, sh3]
 rw [or_0 _ (by omega)]
 rw [or_u64 _ _ (by omega) (by omega), or_lo _ _ 24 (by omega) (by omega)]
 rw [or_u64 _ _ (by omega) (by omega), or_lo _ _ 16 (by omega) (by omega)]
 rw [or_u64 _ _ (by omega) (by omega), or_lo _ _ 8 (by omega) (by omega)]
 simp only [decU, little, Int.reduceBEq, Bool.false_eq_true, if_true, if_false, ite_true, ite_false, List.reverse_cons, List.reverse_nil, List.nil_append, List.cons_append]
 omega
theorem little_lt : ∀ l : List UInt8, little l < 256 ^ l.length
 | [] => by decide
 | x :: l => by
  have h1 := little_lt l
  have h2 := x.toNat_lt
  have h3 : 256 ^ (x :: l).length = 256 * 256 ^ l.length := by rw [List.length_cons, Nat.pow_succ, Nat.mul_comm]
  rw [h3]
  show x.toNat + 256 * little l < _
  omega
theorem decU_lt (o : Int) (b : List UInt8) : decU o b < 256 ^ b.length := by
 unfold decU
 split
 ·have := little_lt b.reverse; rwa [List.length_reverse] at this
 ·exact little_lt b
set_option maxHeartbeats 1000000
theorem read_0_1 (b0 : UInt8) : Fsp Tryz.prog 91 [] 0 [spanOf (1), .int .i64 0, .str [b0]] [] 0 (.int .i64 (readV 0 (1) [b0])) := by
 have hw := width_fs (s := 1) (by unfold isSize; omega)
 have hn : ((wid (1) : Nat) : Int) = 1 := rfl
 rw [hn] at hw
 simp only [spanOf] at hw
 have hU := orU_0_1 b0
 have hlt : decU 0 [b0] < 256 ^ 1 := decU_lt 0 [b0]
 have hhi : high (1) = 255 := by decide
 (refine Fsp.ofs (nx := 0) mixed Tryz.func91 rfl (by simp [Tryz.f91]) ?_; simp -implicitDefEqProofs only [push_cast, Tryz.f91, spanOf, seval])
 refine callE_p hw ?_
 simp -implicitDefEqProofs only [push_cast, seval]
 refine loopC_un 2 ?_
 simp -implicitDefEqProofs only [push_cast, hU, seval]
 have hwr : IntKind.i64.wrap ((decU 0 [b0] : Nat) : Int) = ((decU 0 [b0] : Nat) : Int) := by rw [wrap_i64_id (by omega) (by omega)]
 refine condC_split (fun h => ?_) (fun h => ?_)
 ·simp -implicitDefEqProofs only [push_cast, hwr, seval]
  have h' : decide (high (1) < ((decU 0 [b0] : Nat) : Int)) = true := by rw [← hwr]; exact h
  rw [readV, if_pos h', show ((256 : Int) ^ wid (1)) = 256 by decide, wrap_i64_id (by omega) (by omega)]
 ·simp -implicitDefEqProofs only [push_cast, hwr, seval]
  have h' : ¬ (decide (high (1) < ((decU 0 [b0] : Nat) : Int)) = true) := by rw [← hwr, h]; simp
  rw [readV, if_neg h']
theorem read_0_2 (b0 b1 : UInt8) : Fsp Tryz.prog 91 [] 0 [spanOf (2), .int .i64 0, .str [b0, b1]] [] 0 (.int .i64 (readV 0 (2) [b0, b1])) := by
 have hw := width_fs (s := 2) (by unfold isSize; omega)
 have hn : ((wid (2) : Nat) : Int) = 2 := rfl
 rw [hn] at hw
 simp only [spanOf] at hw
 have hU := orU_0_2 b0 b1
 have hlt : decU 0 [b0, b1] < 256 ^ 2 := decU_lt 0 [b0, b1]
 have hhi : high (2) = 65535 := by decide
 (refine Fsp.ofs (nx := 0) mixed Tryz.func91 rfl (by simp [Tryz.f91]) ?_; simp -implicitDefEqProofs only [push_cast, Tryz.f91, spanOf, seval])
 refine callE_p hw ?_
 simp -implicitDefEqProofs only [push_cast, seval]
 refine loopC_un 3 ?_
 simp -implicitDefEqProofs only [push_cast, hU, seval]
 have hwr : IntKind.i64.wrap ((decU 0 [b0, b1] : Nat) : Int) = ((decU 0 [b0, b1] : Nat) : Int) := by rw [wrap_i64_id (by omega) (by omega)]
 refine condC_split (fun h => ?_) (fun h => ?_)
 ·simp -implicitDefEqProofs only [push_cast, hwr, seval]
  have h' : decide (high (2) < ((decU 0 [b0, b1] : Nat) : Int)) = true := by rw [← hwr]; exact h
  rw [readV, if_pos h', show ((256 : Int) ^ wid (2)) = 65536 by decide, wrap_i64_id (by omega) (by omega)]
 ·simp -implicitDefEqProofs only [push_cast, hwr, seval]
  have h' : ¬ (decide (high (2) < ((decU 0 [b0, b1] : Nat) : Int)) = true) := by rw [← hwr, h]; simp
  rw [readV, if_neg h']
theorem read_0_4 (b0 b1 b2 b3 : UInt8) : Fsp Tryz.prog 91 [] 0 [spanOf (4), .int .i64 0, .str [b0, b1, b2, b3]] [] 0 (.int .i64 (readV 0 (4) [b0, b1, b2, b3])) := by
 have hw := width_fs (s := 4) (by unfold isSize; omega)
 have hn : ((wid (4) : Nat) : Int) = 4 := rfl
 rw [hn] at hw
 simp only [spanOf] at hw
 have hU := orU_0_4 b0 b1 b2 b3
 have hlt : decU 0 [b0, b1, b2, b3] < 256 ^ 4 := decU_lt 0 [b0, b1, b2, b3]
 have hhi : high (4) = 4294967295 := by decide
 (refine Fsp.ofs (nx := 0) mixed Tryz.func91 rfl (by simp [Tryz.f91]) ?_; simp -implicitDefEqProofs only [push_cast, Tryz.f91, spanOf, seval])
 refine callE_p hw ?_
 simp -implicitDefEqProofs only [push_cast, seval]
 refine loopC_un 5 ?_
 simp -implicitDefEqProofs only [push_cast, hU, seval]
 have hwr : IntKind.i64.wrap ((decU 0 [b0, b1, b2, b3] : Nat) : Int) = ((decU 0 [b0, b1, b2, b3] : Nat) : Int) := by rw [wrap_i64_id (by omega) (by omega)]
 refine condC_split (fun h => ?_) (fun h => ?_)
 ·simp -implicitDefEqProofs only [push_cast, hwr, seval]
  have h' : decide (high (4) < ((decU 0 [b0, b1, b2, b3] : Nat) : Int)) = true := by rw [← hwr]; exact h
  rw [readV, if_pos h', show ((256 : Int) ^ wid (4)) = 4294967296 by decide, wrap_i64_id (by omega) (by omega)]
 ·simp -implicitDefEqProofs only [push_cast, hwr, seval]
  have h' : ¬ (decide (high (4) < ((decU 0 [b0, b1, b2, b3] : Nat) : Int)) = true) := by rw [← hwr, h]; simp
  rw [readV, if_neg h']
theorem read_0_m1 (b0 : UInt8) : Fsp Tryz.prog 91 [] 0 [spanOf (-1), .int .i64 0, .str [b0]] [] 0 (.int .i64 (readV 0 (-1) [b0])) := by
 have hw := width_fs (s := -1) (by unfold isSize; omega)
 have hn : ((wid (-1) : Nat) : Int) = 1 := rfl
 rw [hn] at hw
 simp only [spanOf] at hw
 have hU := orU_0_1 b0
 have hlt : decU 0 [b0] < 256 ^ 1 := decU_lt 0 [b0]
 have hhi : high (-1) = 127 := by decide
 (refine Fsp.ofs (nx := 0) mixed Tryz.func91 rfl (by simp [Tryz.f91]) ?_; simp -implicitDefEqProofs only [push_cast, Tryz.f91, spanOf, seval])
 refine callE_p hw ?_
 simp -implicitDefEqProofs only [push_cast, seval]
 refine loopC_un 2 ?_
 simp -implicitDefEqProofs only [push_cast, hU, seval]
 have hwr : IntKind.i64.wrap ((decU 0 [b0] : Nat) : Int) = ((decU 0 [b0] : Nat) : Int) := by rw [wrap_i64_id (by omega) (by omega)]
 refine condC_split (fun h => ?_) (fun h => ?_)
 ·simp -implicitDefEqProofs only [push_cast, hwr, seval]
  have h' : decide (high (-1) < ((decU 0 [b0] : Nat) : Int)) = true := by rw [← hwr]; exact h
  rw [readV, if_pos h', show ((256 : Int) ^ wid (-1)) = 256 by decide, wrap_i64_id (by omega) (by omega)]
 ·simp -implicitDefEqProofs only [push_cast, hwr, seval]
  have h' : ¬ (decide (high (-1) < ((decU 0 [b0] : Nat) : Int)) = true) := by rw [← hwr, h]; simp
  rw [readV, if_neg h']
theorem read_0_m2 (b0 b1 : UInt8) : Fsp Tryz.prog 91 [] 0 [spanOf (-2), .int .i64 0, .str [b0, b1]] [] 0 (.int .i64 (readV 0 (-2) [b0, b1])) := by
 have hw := width_fs (s := -2) (by unfold isSize; omega)
 have hn : ((wid (-2) : Nat) : Int) = 2 := rfl
 rw [hn] at hw
 simp only [spanOf] at hw
 have hU := orU_0_2 b0 b1
 have hlt : decU 0 [b0, b1] < 256 ^ 2 := decU_lt 0 [b0, b1]
 have hhi : high (-2) = 32767 := by decide
 (refine Fsp.ofs (nx := 0) mixed Tryz.func91 rfl (by simp [Tryz.f91]) ?_; simp -implicitDefEqProofs only [push_cast, Tryz.f91, spanOf, seval])
 refine callE_p hw ?_
 simp -implicitDefEqProofs only [push_cast, seval]
 refine loopC_un 3 ?_
 simp -implicitDefEqProofs only [push_cast, hU, seval]
 have hwr : IntKind.i64.wrap ((decU 0 [b0, b1] : Nat) : Int) = ((decU 0 [b0, b1] : Nat) : Int) := by rw [wrap_i64_id (by omega) (by omega)]
 refine condC_split (fun h => ?_) (fun h => ?_)
 ·simp -implicitDefEqProofs only [push_cast, hwr, seval]
  have h' : decide (high (-2) < ((decU 0 [b0, b1] : Nat) : Int)) = true := by rw [← hwr]; exact h
  rw [readV, if_pos h', show ((256 : Int) ^ wid (-2)) = 65536 by decide, wrap_i64_id (by omega) (by omega)]
 ·simp -implicitDefEqProofs only [push_cast, hwr, seval]
  have h' : ¬ (decide (high (-2) < ((decU 0 [b0, b1] : Nat) : Int)) = true) := by rw [← hwr, h]; simp
  rw [readV, if_neg h']
theorem read_0_m4 (b0 b1 b2 b3 : UInt8) : Fsp Tryz.prog 91 [] 0 [spanOf (-4), .int .i64 0, .str [b0, b1, b2, b3]] [] 0 (.int .i64 (readV 0 (-4) [b0, b1, b2, b3])) := by
 have hw := width_fs (s := -4) (by unfold isSize; omega)
 have hn : ((wid (-4) : Nat) : Int) = 4 := rfl
 rw [hn] at hw
 simp only [spanOf] at hw
 have hU := orU_0_4 b0 b1 b2 b3
 have hlt : decU 0 [b0, b1, b2, b3] < 256 ^ 4 := decU_lt 0 [b0, b1, b2, b3]
 have hhi : high (-4) = 2147483647 := by decide
 (refine Fsp.ofs (nx := 0) mixed Tryz.func91 rfl (by simp [Tryz.f91]) ?_; simp -implicitDefEqProofs only [push_cast, Tryz.f91, spanOf, seval])
 refine callE_p hw ?_
 simp -implicitDefEqProofs only [push_cast, seval]
 refine loopC_un 5 ?_
 simp -implicitDefEqProofs only [push_cast, hU, seval]
 have hwr : IntKind.i64.wrap ((decU 0 [b0, b1, b2, b3] : Nat) : Int) = ((decU 0 [b0, b1, b2, b3] : Nat) : Int) := by rw [wrap_i64_id (by omega) (by omega)]
 refine condC_split (fun h => ?_) (fun h => ?_)
 ·simp -implicitDefEqProofs only [push_cast, hwr, seval]
  have h' : decide (high (-4) < ((decU 0 [b0, b1, b2, b3] : Nat) : Int)) = true := by rw [← hwr]; exact h
  rw [readV, if_pos h', show ((256 : Int) ^ wid (-4)) = 4294967296 by decide, wrap_i64_id (by omega) (by omega)]
 ·simp -implicitDefEqProofs only [push_cast, hwr, seval]
  have h' : ¬ (decide (high (-4) < ((decU 0 [b0, b1, b2, b3] : Nat) : Int)) = true) := by rw [← hwr, h]; simp
  rw [readV, if_neg h']
theorem read_1_1 (b0 : UInt8) : Fsp Tryz.prog 91 [] 0 [spanOf (1), .int .i64 1, .str [b0]] [] 0 (.int .i64 (readV 1 (1) [b0])) := by
 have hw := width_fs (s := 1) (by unfold isSize; omega)
 have hn : ((wid (1) : Nat) : Int) = 1 := rfl
 rw [hn] at hw
 simp only [spanOf] at hw
 have hU := orU_1_1 b0
 have hlt : decU 1 [b0] < 256 ^ 1 := decU_lt 1 [b0]
 have hhi : high (1) = 255 := by decide
 (refine Fsp.ofs (nx := 0) mixed Tryz.func91 rfl (by simp [Tryz.f91]) ?_; simp -implicitDefEqProofs only [push_cast, Tryz.f91, spanOf, seval])
 refine callE_p hw ?_
 simp -implicitDefEqProofs only [push_cast, seval]
 refine loopC_un 2 ?_
 simp -implicitDefEqProofs only [push_cast, hU, seval]
 have hwr : IntKind.i64.wrap ((decU 1 [b0] : Nat) : Int) = ((decU 1 [b0] : Nat) : Int) := by rw [wrap_i64_id (by omega) (by omega)]
 refine condC_split (fun h => ?_) (fun h => ?_)
 ·simp -implicitDefEqProofs only [push_cast, hwr, seval]
  have h' : decide (high (1) < ((decU 1 [b0] : Nat) : Int)) = true := by rw [← hwr]; exact h
  rw [readV, if_pos h', show ((256 : Int) ^ wid (1)) = 256 by decide, wrap_i64_id (by omega) (by omega)]
 ·simp -implicitDefEqProofs only [push_cast, hwr, seval]
  have h' : ¬ (decide (high (1) < ((decU 1 [b0] : Nat) : Int)) = true) := by rw [← hwr, h]; simp
  rw [readV, if_neg h']
theorem read_1_2 (b0 b1 : UInt8) : Fsp Tryz.prog 91 [] 0 [spanOf (2), .int .i64 1, .str [b0, b1]] [] 0 (.int .i64 (readV 1 (2) [b0, b1])) := by
 have hw := width_fs (s := 2) (by unfold isSize; omega)
 have hn : ((wid (2) : Nat) : Int) = 2 := rfl
 rw [hn] at hw
 simp only [spanOf] at hw
 have hU := orU_1_2 b0 b1
 have hlt : decU 1 [b0, b1] < 256 ^ 2 := decU_lt 1 [b0, b1]
 have hhi : high (2) = 65535 := by decide
 (refine Fsp.ofs (nx := 0) mixed Tryz.func91 rfl (by simp [Tryz.f91]) ?_; simp -implicitDefEqProofs only [push_cast, Tryz.f91, spanOf, seval])
 refine callE_p hw ?_
 simp -implicitDefEqProofs only [push_cast, seval]
 refine loopC_un 3 ?_
 simp -implicitDefEqProofs only [push_cast, hU, seval]
 have hwr : IntKind.i64.wrap ((decU 1 [b0, b1] : Nat) : Int) = ((decU 1 [b0, b1] : Nat) : Int) := by rw [wrap_i64_id (by omega) (by omega)]
 refine condC_split (fun h => ?_) (fun h => ?_)
 ·simp -implicitDefEqProofs only [push_cast, hwr, seval]
  have h' : decide (high (2) < ((decU 1 [b0, b1] : Nat) : Int)) = true := by rw [← hwr]; exact h
  rw [readV, if_pos h', show ((256 : Int) ^ wid (2)) = 65536 by decide, wrap_i64_id (by omega) (by omega)]
 ·simp -implicitDefEqProofs only [push_cast, hwr, seval]
  have h' : ¬ (decide (high (2) < ((decU 1 [b0, b1] : Nat) : Int)) = true) := by rw [← hwr, h]; simp
  rw [readV, if_neg h']
theorem read_1_4 (b0 b1 b2 b3 : UInt8) : Fsp Tryz.prog 91 [] 0 [spanOf (4), .int .i64 1, .str [b0, b1, b2, b3]] [] 0 (.int .i64 (readV 1 (4) [b0, b1, b2, b3])) := by
 have hw := width_fs (s := 4) (by unfold isSize; omega)
 have hn : ((wid (4) : Nat) : Int) = 4 := rfl
 rw [hn] at hw
 simp only [spanOf] at hw
 have hU := orU_1_4 b0 b1 b2 b3
 have hlt : decU 1 [b0, b1, b2, b3] < 256 ^ 4 := decU_lt 1 [b0, b1, b2, b3]
 have hhi : high (4) = 4294967295 := by decide
 (refine Fsp.ofs (nx := 0) mixed Tryz.func91 rfl (by simp [Tryz.f91]) ?_; simp -implicitDefEqProofs only [push_cast, Tryz.f91, spanOf, seval])
 refine callE_p hw ?_
 simp -implicitDefEqProofs only [push_cast, seval]
 refine loopC_un 5 ?_
 simp -implicitDefEqProofs only [push_cast, hU, seval]
 have hwr : IntKind.i64.wrap ((decU 1 [b0, b1, b2, b3] : Nat) : Int) = ((decU 1 [b0, b1, b2, b3] : Nat) : Int) := by rw [wrap_i64_id (by omega) (by omega)]
 refine condC_split (fun h => ?_) (fun h => ?_)
 ·simp -implicitDefEqProofs only [push_cast, hwr, seval]
  have h' : decide (high (4) < ((decU 1 [b0, b1, b2, b3] : Nat) : Int)) = true := by rw [← hwr]; exact h
  rw [readV, if_pos h', show ((256 : Int) ^ wid (4)) = 4294967296 by decide, wrap_i64_id (by omega) (by omega)]
 ·simp -implicitDefEqProofs only [push_cast, hwr, seval]
  have h' : ¬ (decide (high (4) < ((decU 1 [b0, b1, b2, b3] : Nat) : Int)) = true) := by rw [← hwr, h]; simp
  rw [readV, if_neg h']
theorem read_1_m1 (b0 : UInt8) : Fsp Tryz.prog 91 [] 0 [spanOf (-1), .int .i64 1, .str [b0]] [] 0 (.int .i64 (readV 1 (-1) [b0])) := by
 have hw := width_fs (s := -1) (by unfold isSize; omega)
 have hn : ((wid (-1) : Nat) : Int) = 1 := rfl
 rw [hn] at hw
 simp only [spanOf] at hw
 have hU := orU_1_1 b0
 have hlt : decU 1 [b0] < 256 ^ 1 := decU_lt 1 [b0]
 have hhi : high (-1) = 127 := by decide
 (refine Fsp.ofs (nx := 0) mixed Tryz.func91 rfl (by simp [Tryz.f91]) ?_; simp -implicitDefEqProofs only [push_cast, Tryz.f91, spanOf, seval])
 refine callE_p hw ?_
 simp -implicitDefEqProofs only [push_cast, seval]
 refine loopC_un 2 ?_
 simp -implicitDefEqProofs only [push_cast, hU, seval]
 have hwr : IntKind.i64.wrap ((decU 1 [b0] : Nat) : Int) = ((decU 1 [b0] : Nat) : Int) := by rw [wrap_i64_id (by omega) (by omega)]
 refine condC_split (fun h => ?_) (fun h => ?_)
 ·simp -implicitDefEqProofs only [push_cast, hwr, seval]
  have h' : decide (high (-1) < ((decU 1 [b0] : Nat) : Int)) = true := by rw [← hwr]; exact h
  rw [readV, if_pos h', show ((256 : Int) ^ wid (-1)) = 256 by decide, wrap_i64_id (by omega) (by omega)]
 ·simp -implicitDefEqProofs only [push_cast, hwr, seval]
  have h' : ¬ (decide (high (-1) < ((decU 1 [b0] : Nat) : Int)) = true) := by rw [← hwr, h]; simp
  rw [readV, if_neg h']
theorem read_1_m2 (b0 b1 : UInt8) : Fsp Tryz.prog 91 [] 0 [spanOf (-2), .int .i64 1, .str [b0, b1]] [] 0 (.int .i64 (readV 1 (-2) [b0, b1])) := by
 have hw := width_fs (s := -2) (by unfold isSize; omega)
 have hn : ((wid (-2) : Nat) : Int) = 2 := rfl
 rw [hn] at hw
 simp only [spanOf] at hw
 have hU := orU_1_2 b0 b1
 have hlt : decU 1 [b0, b1] < 256 ^ 2 := decU_lt 1 [b0, b1]
 have hhi : high (-2) = 32767 := by decide
 (refine Fsp.ofs (nx := 0) mixed Tryz.func91 rfl (by simp [Tryz.f91]) ?_; simp -implicitDefEqProofs only [push_cast, Tryz.f91, spanOf, seval])
 refine callE_p hw ?_
 simp -implicitDefEqProofs only [push_cast, seval]
 refine loopC_un 3 ?_
 simp -implicitDefEqProofs only [push_cast, hU, seval]
 have hwr : IntKind.i64.wrap ((decU 1 [b0, b1] : Nat) : Int) = ((decU 1 [b0, b1] : Nat) : Int) := by rw [wrap_i64_id (by omega) (by omega)]
 refine condC_split (fun h => ?_) (fun h => ?_)
 ·simp -implicitDefEqProofs only [push_cast, hwr, seval]
  have h' : decide (high (-2) < ((decU 1 [b0, b1] : Nat) : Int)) = true := by rw [← hwr]; exact h
  rw [readV, if_pos h', show ((256 : Int) ^ wid (-2)) = 65536 by decide, wrap_i64_id (by omega) (by omega)]
 ·simp -implicitDefEqProofs only [push_cast, hwr, seval]
  have h' : ¬ (decide (high (-2) < ((decU 1 [b0, b1] : Nat) : Int)) = true) := by rw [← hwr, h]; simp
  rw [readV, if_neg h']
theorem read_1_m4 (b0 b1 b2 b3 : UInt8) : Fsp Tryz.prog 91 [] 0 [spanOf (-4), .int .i64 1, .str [b0, b1, b2, b3]] [] 0 (.int .i64 (readV 1 (-4) [b0, b1, b2, b3])) := by
 have hw := width_fs (s := -4) (by unfold isSize; omega)
 have hn : ((wid (-4) : Nat) : Int) = 4 := rfl
 rw [hn] at hw
 simp only [spanOf] at hw
 have hU := orU_1_4 b0 b1 b2 b3
 have hlt : decU 1 [b0, b1, b2, b3] < 256 ^ 4 := decU_lt 1 [b0, b1, b2, b3]
 have hhi : high (-4) = 2147483647 := by decide
 (refine Fsp.ofs (nx := 0) mixed Tryz.func91 rfl (by simp [Tryz.f91]) ?_; simp -implicitDefEqProofs only [push_cast, Tryz.f91, spanOf, seval])
 refine callE_p hw ?_
 simp -implicitDefEqProofs only [push_cast, seval]
 refine loopC_un 5 ?_
 simp -implicitDefEqProofs only [push_cast, hU, seval]
 have hwr : IntKind.i64.wrap ((decU 1 [b0, b1, b2, b3] : Nat) : Int) = ((decU 1 [b0, b1, b2, b3] : Nat) : Int) := by rw [wrap_i64_id (by omega) (by omega)]
 refine condC_split (fun h => ?_) (fun h => ?_)
 ·simp -implicitDefEqProofs only [push_cast, hwr, seval]
  have h' : decide (high (-4) < ((decU 1 [b0, b1, b2, b3] : Nat) : Int)) = true := by rw [← hwr]; exact h
  rw [readV, if_pos h', show ((256 : Int) ^ wid (-4)) = 4294967296 by decide, wrap_i64_id (by omega) (by omega)]
 ·simp -implicitDefEqProofs only [push_cast, hwr, seval]
  have h' : ¬ (decide (high (-4) < ((decU 1 [b0, b1, b2, b3] : Nat) : Int)) = true) := by rw [← hwr, h]; simp
  rw [readV, if_neg h']
theorem read_fs {o s : Int} (ho : isOrder o) (hs : isSize s) (b : List UInt8) (hb : b.length = wid s) : Fsp Tryz.prog 91 [] 0 [spanOf s, .int .i64 o, .str b] [] 0 (.int .i64 (readV o s b)) := by
 rcases ho with rfl | rfl <;> rcases hs with rfl | rfl | rfl | rfl | rfl | rfl
 ·match b, hb with
  | [b0], _ => exact read_0_1 b0
 ·match b, hb with
  | [b0, b1], _ => exact read_0_2 b0 b1
 ·match b, hb with
  | [b0, b1, b2, b3], _ => exact read_0_4 b0 b1 b2 b3
 ·match b, hb with
  | [b0], _ => exact read_0_m1 b0
 ·match b, hb with
  | [b0, b1], _ => exact read_0_m2 b0 b1
 ·match b, hb with
  | [b0, b1, b2, b3], _ => exact read_0_m4 b0 b1 b2 b3
 ·match b, hb with
  | [b0], _ => exact read_1_1 b0
 ·match b, hb with
  | [b0, b1], _ => exact read_1_2 b0 b1
 ·match b, hb with
  | [b0, b1, b2, b3], _ => exact read_1_4 b0 b1 b2 b3
 ·match b, hb with
  | [b0], _ => exact read_1_m1 b0
 ·match b, hb with
  | [b0, b1], _ => exact read_1_m2 b0 b1
 ·match b, hb with
  | [b0, b1, b2, b3], _ => exact read_1_m4 b0 b1 b2 b3
def getV (o s : Int) (b : List UInt8) : Int := if b.length = wid s then readV o s b else 0
def getE (s : Int) (b : List UInt8) : Int := if b.length < wid s then 3 else if wid s < b.length then 4 else 0
set_option maxHeartbeats 1000000 in
theorem get_fs {o s : Int} (ho : isOrder o) (hs : isSize s) (b : List UInt8) : Fsp Tryz.prog 61 [] 0 [.int .i64 o, .int .i64 s, .str b] [] 0 (.tup [.int .i64 (getV o s b), .int .i64 (getE s b)]) := by
 have hk := known_fs ho hs
 have hw := width_fs hs
 simp only [spanOf] at hk hw
 (refine Fsp.ofs (nx := 0) mixed Tryz.func61 rfl (by simp [Tryz.f61]) ?_; simp -implicitDefEqProofs only [push_cast, Tryz.f61, seval])
 refine callE_p hk ?_
 simp -implicitDefEqProofs only [push_cast, seval]
 refine callE_p hw ?_
 simp -implicitDefEqProofs only [push_cast, seval]
 refine condC_split (fun h => ?_) (fun h => ?_)
 ·have h1 : b.length < wid s := by simp at h; omega
  rw [show getV o s b = 0 by rw [getV, if_neg (by omega)], show getE s b = 3 by rw [getE, if_pos h1]]
  simp -implicitDefEqProofs only [push_cast, seval]
  simp [wkL, res2, res1, PV.weak, PV.el]
 ·have h1 : wid s ≤ b.length := by simp at h; omega
  simp -implicitDefEqProofs only [push_cast, seval]
  refine callE_p hw ?_
  simp -implicitDefEqProofs only [push_cast, seval]
  refine condC_split (fun h2 => ?_) (fun h2 => ?_)
  ·have h3 : wid s < b.length := by simp at h2; omega
   rw [show getV o s b = 0 by rw [getV, if_neg (by omega)], show getE s b = 4 by rw [getE, if_neg (by omega), if_pos h3]]
   simp -implicitDefEqProofs only [push_cast, seval]
   simp [wkL, res2, res1, PV.weak, PV.el]
  ·have h3 : b.length = wid s := by simp at h2; omega
   have hr := read_fs ho hs b h3
   simp only [spanOf] at hr
   rw [show getV o s b = readV o s b by rw [getV, if_pos h3], show getE s b = 0 by rw [getE, if_neg (by omega), if_neg (by omega)]]
   simp -implicitDefEqProofs only [push_cast, seval]
   refine callE_p hr ?_
   simp -implicitDefEqProofs only [push_cast, seval]
   simp [wkL, res2, res1, PV.weak, PV.el]
end Go.Proofs.Sh
set_option maxRecDepth 100000
set_option linter.unusedSimpArgs false
set_option linter.unusedVariables false
namespace Go.Proofs.Sh
open Go.Pv
theorem addT_fs {o : Int} (ho : isOrder o) (v : Int) (es : List PV) (h : es.length ≤ 100) : Fsp Tryz.prog 68 [] 1 [spanOf 1, .slt 1 es 0, .int .i64 o, .int .i64 v] [] 1 (.slt 1 (es ++ bs (encB o 1 v)) 0) := by
 have hw := width_fs (s := 1) (by unfold isSize; omega)
 have hn : ((wid 1 : Nat) : Int) = 1 := rfl
 rw [hn] at hw
 simp only [spanOf] at hw
 rcases ho with rfl | rfl
 ·(refine Fsp.of (nx := 1) mixed Tryz.func68 rfl (by decide) (by first | exact Nat.le_refl _ | simp) (by simp [Tryz.f68]) ⟨by simp, by simp⟩ ?_; simp -implicitDefEqProofs only [push_cast, Tryz.f68, spanOf, seval])
  refine callE_p hw ?_
  simp -implicitDefEqProofs only [push_cast, seval]
  refine loopC_un 2 ?_
  simp -implicitDefEqProofs only [push_cast, seval]
  refine ⟨by omega, by omega, ?_⟩
  simp only [byte0, byte1, byte2, byte3]
  exact endK_tok1 rfl rfl
 ·(refine Fsp.of (nx := 1) mixed Tryz.func68 rfl (by decide) (by first | exact Nat.le_refl _ | simp) (by simp [Tryz.f68]) ⟨by simp, by simp⟩ ?_; simp -implicitDefEqProofs only [push_cast, Tryz.f68, spanOf, seval])
  refine callE_p hw ?_
  simp -implicitDefEqProofs only [push_cast, seval]
  refine loopC_un 2 ?_
  simp -implicitDefEqProofs only [push_cast, seval]
  refine ⟨by omega, by omega, ?_⟩
  simp only [byte0, byte1, byte2, byte3]
  exact endK_tok1 rfl rfl
def rowS (o a b : Int) : List UInt8 := if (fitsN 1 a && fitsN 1 b) = true then encB o 1 a ++ encB o 1 b else []
def rowE (a b : Int) : Int := if (fitsN 1 a && fitsN 1 b) = true then 0 else 1
theorem row_fs {o : Int} (ho : isOrder o) (a b : Int) : Fsp Tryz.prog 59 [] 0 [.int .i64 o, .int .i64 1, .sl 1 [.int .i64 a, .int .i64 b]] [] 0 (.tup [.str (rowS o a b), .int .i64 (rowE a b)]) := by
 have hk := known_fs ho (s := 1) (by unfold isSize; omega)
 have hw := width_fs (s := 1) (by unfold isSize; omega)
 have hn : ((wid 1 : Nat) : Int) = 1 := rfl
 rw [hn] at hw
 have h1 := has_fs 1 a
 have h2 := has_fs 1 b
 have a1 := addT_fs ho a [] (by simp)
 have a2 := addT_fs ho b (bs (encB o 1 a)) (by rw [bs_length, encB_length]; omega)
 simp only [spanOf, List.nil_append] at hk hw h1 h2 a1 a2
 (refine Fsp.ofs (nx := 0) mixed Tryz.func59 rfl (by simp [Tryz.f59]) ?_; simp -implicitDefEqProofs only [push_cast, Tryz.f59, seval])
 refine callE_p hk ?_
 simp -implicitDefEqProofs only [push_cast, seval]
 refine callE_p hw ?_
 simp -implicitDefEqProofs only [push_cast, seval]
 refine loopC_un 3 ?_
 simp -implicitDefEqProofs only [push_cast, List.replicate_zero, seval]
 refine callE_p h1 ?_
 simp -implicitDefEqProofs only [push_cast, seval]
 generalize hf1 : fitsN 1 a = f1 at *
 refine condC_split (fun h => ?_) (fun h => ?_)
 ·have : f1 = false := by simpa using h
  subst this
  simp -implicitDefEqProofs only [push_cast, seval]
  simp [rowS, rowE, hf1, wkL, res2, res1, PV.weak, PV.el]
 ·have : f1 = true := by simpa using h
  subst this
  simp -implicitDefEqProofs only [push_cast, seval]
  refine callE_bx a1 [] [84] ?_
  simp -implicitDefEqProofs only [push_cast, seval]
  refine callE_p h2 ?_
  simp -implicitDefEqProofs only [push_cast, seval]
  generalize hf2 : fitsN 1 b = f2 at *
  refine condC_split (fun h => ?_) (fun h => ?_)
  ·have : f2 = false := by simpa using h
   subst this
   simp -implicitDefEqProofs only [push_cast, seval]
   simp [rowS, rowE, hf1, hf2, wkL, res2, res1, PV.weak, PV.el]
  ·have : f2 = true := by simpa using h
   subst this
   simp -implicitDefEqProofs only [push_cast, seval]
   refine callE_bx a2 [] [152] ?_
   simp -implicitDefEqProofs only [push_cast, seval]
   rw [← bs_append]
   refine ⟨bs_isByte _, _, rfl, ?_⟩
   rw [bs_byteOf]
   simp [rowS, rowE, hf1, hf2, wkL, res2, res1, PV.weak, PV.el]
def padN (n : Nat) : Nat := (4 - n % 4) % 4
theorem pad_fs (n : Nat) (h : n ≤ 1000000000) : Fsp Tryz.prog 87 [] 0 [.int .i64 n] [] 0 (.int .i64 (padN n : Nat)) := by
 (refine Fsp.ofs (nx := 0) mixed Tryz.func87 rfl (by simp [Tryz.f87]) ?_; simp -implicitDefEqProofs only [push_cast, Tryz.f87, seval])
 refine condC_split (fun h2 => ?_) (fun h2 => ?_)
 ·simp at h2; omega
 ·simp -implicitDefEqProofs only [push_cast, seval]
  rw [Int.tmod_eq_emod_of_nonneg (show (0 : Int) ≤ (n : Int) by omega), wrap_i64_id (by omega) (by omega), Int.tmod_eq_emod_of_nonneg (by omega), padN]
  congr 1
  omega
end Go.Proofs.Sh
set_option maxRecDepth 100000
set_option linter.unusedSimpArgs false
set_option linter.unusedVariables false
namespace Go.Proofs.Sh
open Go.Pv
def ints (l : List Int) : List PV := l.map (PV.int .i64 ·)
theorem ints_length (l : List Int) : (ints l).length = l.length := by simp [ints]
theorem ints_at {l : List Int} {i : Nat} (h : i < l.length) : (ints l).getD i .any = .int .i64 (l.getD i 0) := by simp [ints, List.getD_eq_getElem?_getD, h]
structure Fm where
 F : List Int
 B : Bool
 L : Int
def Fm.pv (f : Fm) : PV := .agg [.sl 1 (ints f.F), .bool f.B, .int .i64 f.L]
structure Fm.Ok (f : Fm) : Prop where
 n : f.F.length ≤ 16
 s : ∀ x ∈ f.F, isSize x
 l : f.L = 0 ∨ isSize f.L
structure Fd where
 N : List Int
 B : List UInt8
 L : List Int
def Fd.pv (x : Fd) : PV := .agg [.sl 1 (ints x.N), .str x.B, .sl 1 (ints x.L)]
theorem sized_fs {s : Int} (hs : isSize s) : Fsp Tryz.prog 107 [] 0 [.int .i64 s] [] 0 (.bool true) := by
 rcases hs with rfl | rfl | rfl | rfl | rfl | rfl <;> exact run0_fs (by kernel_rfl)
structure CkS (f : Fm) where
 i : Nat
 hi : i ≤ f.F.length
def CkS.st {f : Fm} (a : CkS f) : PS := { n := 29, env := [(12, .int .i64 a.i), (11, .int .i64 f.F.length), (10, .sl 1 (ints f.F)), (1, .box 0 0), (2, .int .i64 0)], objs := [(0, some [.sl 1 (ints f.F), .bool f.B, .int .i64 f.L])], live := [], nxt := 60 }
theorem check_form (f : Fm) (h : f.Ok) : Fsp Tryz.prog 102 [] 0 [f.pv] [] 0 (.int .i64 0) := by
 have hn := h.n
 (refine Fsp.ofs (nx := 0) mixed Tryz.func102 rfl (by simp [Tryz.f102]) ?_; simp -implicitDefEqProofs only [push_cast, Tryz.f102, Fm.pv, ints_length, seval])
 refine condC_split (fun h2 => ?_) (fun h2 => ?_)
 ·simp at h2; omega
 simp -implicitDefEqProofs only [push_cast, ints_length, seval]
 refine loopC_of (α := CkS f) CkS.st (fun a => f.F.length - a.i) ⟨0, by omega⟩ ?_ ?_
 ·(simp only [CkS.st]; exact Wk.ax [(0, 0)] [] [] (by simp [PS.get, PS.obj, PS.lv, lkp_hit, lkp_miss, lkp_nil, lko, wkL, wkC, PV.weak]))
 ·rintro ⟨i, hi⟩
  simp -implicitDefEqProofs only [push_cast, CkS.st, seval]
  refine condC_split (fun h3 => ?_) (fun h3 => ?_)
  ·have hlt : i < f.F.length := by simp at h3; omega
   have hg := ints_at hlt
   have hsz : isSize (f.F.getD i 0) := by
    rw [List.getD_eq_getElem?_getD, List.getElem?_eq_getElem hlt, Option.getD_some]
    exact h.s _ (List.getElem_mem hlt)
   have hs := sized_fs hsz
   have hwr : IntKind.i64.wrap ((i : Int) + 1) = ((i + 1 : Nat) : Int) := by (rw [wrap_i64_id (by omega) (by omega)]; rfl)
   simp -implicitDefEqProofs only [push_cast, hg, ints_length, seval]
   refine ⟨by omega, ?_⟩
   refine callE_p hs ?_
   simp -implicitDefEqProofs only [push_cast, hg, ints_length, seval]
   rw [hwr]
   refine ⟨⟨i + 1, by omega⟩, by simp only; omega, ?_⟩
   (simp only [CkS.st]; exact Wk.ax [(0, 0)] [] [] (by simp [PS.get, PS.obj, PS.lv, lkp_hit, lkp_miss, lkp_nil, lko, wkL, wkC, PV.weak]))
  ·rcases h.l with hL | hL
   ·have hL0 : (f.L != 0) = false := by simp [hL]
    simp -implicitDefEqProofs only [push_cast, hL0, seval]
    refine callE_no ?_
    simp -implicitDefEqProofs only [push_cast, hL0, seval]
   ·have hL0 : (f.L != 0) = true := by rcases hL with e | e | e | e | e | e <;> rw [e] <;> rfl
    have hs := sized_fs hL
    simp -implicitDefEqProofs only [push_cast, hL0, seval]
    refine callE_p hs ?_
    simp -implicitDefEqProofs only [push_cast, hL0, seval]
theorem known_form {o : Int} (ho : isOrder o) (f : Fm) (h : f.Ok) : Fsp Tryz.prog 83 [] 0 [.int .i64 o, f.pv] [] 0 (.int .i64 0) := by
 have hc := check_form f h
 simp only [Fm.pv] at hc
 have h1 : (o != 0 && o != 1) = false := by rcases ho with rfl | rfl <;> rfl
 rcases ho with rfl | rfl
 all_goals
  (refine Fsp.ofs (nx := 0) mixed Tryz.func83 rfl (by simp [Tryz.f83]) ?_; simp -implicitDefEqProofs only [push_cast, Tryz.f83, Fm.pv, seval])
  refine callE_p hc ?_
  simp -implicitDefEqProofs only [push_cast, seval]
end Go.Proofs.Sh
set_option maxRecDepth 100000
set_option linter.unusedSimpArgs false
set_option linter.unusedVariables false
namespace Go.Proofs.Sh
open Go.Pv
def allFit (F N : List Int) (k : Nat) : Bool := (List.range k).all fun i => fitsN (F.getD i 0) (N.getD i 0)
def rowFit (s : Int) (L : List Int) (k : Nat) : Bool := (List.range k).all fun i => fitsN s (L.getD i 0)
theorem all_range_succ {p : Nat → Bool} {k : Nat} : (List.range (k + 1)).all p = ((List.range k).all p && p k) := by rw [List.range_succ, List.all_append]; simp
theorem all_range_false {p : Nat → Bool} {k n : Nat} (h : k < n) (hp : p k = false) : (List.range n).all p = false := by
 rw [List.all_eq_false]
 exact ⟨k, List.mem_range.2 h, by rw [hp]; simp⟩
def fitsE (f : Fm) (x : Fd) : Int :=
 if ((x.N.length : Int) != f.F.length) = true then 14
 else if allFit f.F x.N x.N.length = false then 1
 else if (x.B != [] && !f.B) = true then 14
 else if decide ((65536 : Int) < x.B.length) = true then 4
 else if (decide ((0 : Int) < x.L.length) && f.L == 0) = true then 14
 else if decide ((65536 : Int) < x.L.length) = true then 4
 else if rowFit f.L x.L x.L.length = false then 1
 else 0
structure F1S (f : Fm) (x : Fd) where
 i : Nat
 hi : i ≤ x.N.length
 h : allFit f.F x.N i = true
def F1S.st (o : Int) {f : Fm} {x : Fd} (a : F1S f x) : PS := { n := 89, env := [(25, .int .i64 a.i), (24, .int .i64 x.N.length), (23, .sl 1 (ints x.N)), (0, .int .i64 o), (4, .box 0 0), (5, .box 1 0), (6, .int .i64 0)], objs := [(0, some [.sl 1 (ints f.F), .bool f.B, .int .i64 f.L]), (1, some [.sl 1 (ints x.N), .str x.B, .sl 1 (ints x.L)])], live := [], nxt := 60 }
structure F2S (f : Fm) (x : Fd) where
 i : Nat
 hi : i ≤ x.L.length
 h : rowFit f.L x.L i = true
def F2S.st (o : Int) {f : Fm} {x : Fd} (a : F2S f x) : PS := { n := 89, env := [(73, .int .i64 a.i), (72, .int .i64 x.L.length), (71, .sl 1 (ints x.L)), (0, .int .i64 o), (4, .box 0 0), (5, .box 1 0), (6, .int .i64 0)], objs := [(0, some [.sl 1 (ints f.F), .bool f.B, .int .i64 f.L]), (1, some [.sl 1 (ints x.N), .str x.B, .sl 1 (ints x.L)])], live := [], nxt := 60 }
set_option maxHeartbeats 2000000 in
theorem fits_fs {o : Int} (ho : isOrder o) (f : Fm) (h : f.Ok) (x : Fd) (hx : x.N.length ≤ 1000000000000000) (hx2 : x.L.length ≤ 1000000000000000) : Fsp Tryz.prog 84 [] 0 [.int .i64 o, f.pv, x.pv] [] 0 (.int .i64 (fitsE f x)) := by
 (refine Fsp.ofs (nx := 0) mixed Tryz.func84 rfl (by simp [Tryz.f84]) ?_; simp -implicitDefEqProofs only [push_cast, Tryz.f84, Fm.pv, Fd.pv, ints_length, seval])
 refine condC_split (fun h2 => ?_) (fun h2 => ?_)
 ·rw [fitsE, if_pos h2]
  simp -implicitDefEqProofs only [push_cast, seval]
 have hl : x.N.length = f.F.length := by simp at h2; omega
 simp -implicitDefEqProofs only [push_cast, ints_length, seval]
 refine loopC_of (α := F1S f x) (F1S.st o) (fun a => x.N.length - a.i) ⟨0, by omega, rfl⟩ ?_ ?_
 ·(simp only [F1S.st]; exact Wk.ax [(0, 0), (1, 4)] [] [] (by simp [PS.get, PS.obj, PS.lv, lkp_hit, lkp_miss, lkp_nil, lko, wkL, wkC, PV.weak]))
 ·rintro ⟨i, hi, hf⟩
  simp -implicitDefEqProofs only [push_cast, F1S.st, seval]
  refine condC_split (fun h3 => ?_) (fun h3 => ?_)
  ·have hlt : i < x.N.length := by simp at h3; omega
   have hg := ints_at hlt
   have hg2 := ints_at (l := f.F) (i := i) (by omega)
   have hsz : isSize (f.F.getD i 0) := by
    rw [List.getD_eq_getElem?_getD, List.getElem?_eq_getElem (by omega), Option.getD_some]
    exact h.s _ (List.getElem_mem _)
   have hp := put_fs ho hsz (x.N.getD i 0)
   have hwr : IntKind.i64.wrap ((i : Int) + 1) = ((i + 1 : Nat) : Int) := by (rw [wrap_i64_id (by omega) (by omega)]; rfl)
   simp -implicitDefEqProofs only [push_cast, hg, hg2, ints_length, seval]
   refine ⟨by omega, by omega, ?_⟩
   refine callE_p hp ?_
   simp -implicitDefEqProofs only [push_cast, hg, hg2, ints_length, seval]
   have hstep : allFit f.F x.N (i + 1) = (allFit f.F x.N i && fitsN (f.F.getD i 0) (x.N.getD i 0)) := all_range_succ
   refine condC_split (fun h4 => ?_) (fun h4 => ?_)
   ·simp -implicitDefEqProofs only [push_cast, seval]
    have hff : fitsN (f.F.getD i 0) (x.N.getD i 0) = false := by
     cases hh : fitsN (f.F.getD i 0) (x.N.getD i 0) with
     | false => rfl
     | true => rw [putE, if_pos hh] at h4; exact absurd h4 (by decide)
    rw [fitsE, if_neg (by rw [h2]; simp), if_pos (show allFit f.F x.N x.N.length = false from all_range_false (p := fun i => fitsN (f.F.getD i 0) (x.N.getD i 0)) hlt hff), putE, if_neg (by rw [hff]; simp)]
   ·have hff : fitsN (f.F.getD i 0) (x.N.getD i 0) = true := by
     cases hh : fitsN (f.F.getD i 0) (x.N.getD i 0) with
     | true => rfl
     | false => rw [putE, if_neg (by rw [hh]; simp)] at h4; exact absurd h4 (by decide)
    simp -implicitDefEqProofs only [push_cast, seval]
    rw [hwr]
    refine ⟨⟨i + 1, by omega, by rw [hstep, hf, hff]; rfl⟩, by simp only; omega, ?_⟩
    (simp only [F1S.st]; exact Wk.ax [(0, 0), (1, 1)] [] [] (by simp [PS.get, PS.obj, PS.lv, lkp_hit, lkp_miss, lkp_nil, lko, wkL, wkC, PV.weak]))
  ·have hi2 : i = x.N.length := by simp at h3; omega
   have hall : ¬ (allFit f.F x.N x.N.length = false) := by rw [← hi2, hf]; simp
   have h2' : ¬ (((x.N.length : Int) != f.F.length) = true) := by rw [h2]; simp
   cases hB : (x.B != [])
   ·have hn1 : ¬ ((x.B != [] && !f.B) = true) := by rw [hB]; simp
    simp -implicitDefEqProofs only [push_cast, hB, ints_length, seval]
    refine condC_split (fun h5 => ?_) (fun h5 => ?_)
    ·simp -implicitDefEqProofs only [push_cast, ints_length, seval]
     rw [fitsE, if_neg h2', if_neg hall, if_neg hn1, if_pos h5]
    have h5' : ¬ (decide ((65536 : Int) < x.B.length) = true) := by rw [h5]; simp
    cases hL : decide ((0 : Int) < x.L.length)
    ·have hn2 : ¬ ((decide ((0 : Int) < x.L.length) && f.L == 0) = true) := by rw [hL]; simp
     simp -implicitDefEqProofs only [push_cast, hL, ints_length, seval]
     refine condC_split (fun h6 => ?_) (fun h6 => ?_)
     ·simp -implicitDefEqProofs only [push_cast, ints_length, seval]
      rw [fitsE, if_neg h2', if_neg hall, if_neg hn1, if_neg h5', if_neg hn2, if_pos h6]
     have h6' : ¬ (decide ((65536 : Int) < x.L.length) = true) := by rw [h6]; simp
     simp -implicitDefEqProofs only [push_cast, ints_length, seval]
     refine loopC_of (α := F2S f x) (F2S.st o) (fun a => x.L.length - a.i) ⟨0, by omega, rfl⟩ ?_ ?_
     ·(simp only [F2S.st]; exact Wk.ax [(0, 0), (1, 1)] [] [] (by simp [PS.get, PS.obj, PS.lv, lkp_hit, lkp_miss, lkp_nil, lko, wkL, wkC, PV.weak]))
     ·rintro ⟨k, hk, hkf⟩
      simp -implicitDefEqProofs only [push_cast, F2S.st, seval]
      refine condC_split (fun h7 => ?_) (fun h7 => ?_)
      ·have hlt : k < x.L.length := by simp at h7; omega
       have hg := ints_at hlt
       have hsz : isSize f.L := by
        rcases h.l with e | e
        ·exact absurd (show (decide ((0 : Int) < x.L.length) && f.L == 0) = true by rw [e]; simp; omega) hn2
        ·exact e
       have hp := put_fs ho hsz (x.L.getD k 0)
       have hwr : IntKind.i64.wrap ((k : Int) + 1) = ((k + 1 : Nat) : Int) := by (rw [wrap_i64_id (by omega) (by omega)]; rfl)
       simp -implicitDefEqProofs only [push_cast, hg, ints_length, seval]
       refine ⟨by omega, ?_⟩
       refine callE_p hp ?_
       simp -implicitDefEqProofs only [push_cast, hg, ints_length, seval]
       have hstep : rowFit f.L x.L (k + 1) = (rowFit f.L x.L k && fitsN f.L (x.L.getD k 0)) := all_range_succ
       refine condC_split (fun h8 => ?_) (fun h8 => ?_)
       ·simp -implicitDefEqProofs only [push_cast, seval]
        have hff : fitsN f.L (x.L.getD k 0) = false := by
         cases hh : fitsN f.L (x.L.getD k 0) with
         | false => rfl
         | true => rw [putE, if_pos hh] at h8; exact absurd h8 (by decide)
        rw [fitsE, if_neg h2', if_neg hall, if_neg hn1, if_neg h5', if_neg hn2, if_neg h6', if_pos (show rowFit f.L x.L x.L.length = false from all_range_false (p := fun i => fitsN f.L (x.L.getD i 0)) hlt hff), putE, if_neg (by rw [hff]; simp)]
       ·have hff : fitsN f.L (x.L.getD k 0) = true := by
         cases hh : fitsN f.L (x.L.getD k 0) with
         | true => rfl
         | false => rw [putE, if_neg (by rw [hh]; simp)] at h8; exact absurd h8 (by decide)
        simp -implicitDefEqProofs only [push_cast, seval]
        rw [hwr]
        refine ⟨⟨k + 1, by omega, by rw [hstep, hkf, hff]; rfl⟩, by simp only; omega, ?_⟩
        (simp only [F2S.st]; exact Wk.ax [(0, 0), (1, 1)] [] [] (by simp [PS.get, PS.obj, PS.lv, lkp_hit, lkp_miss, lkp_nil, lko, wkL, wkC, PV.weak]))
      ·have hk2 : k = x.L.length := by simp at h7; omega
       have hall2 : ¬ (rowFit f.L x.L x.L.length = false) := by rw [← hk2, hkf]; simp
       simp -implicitDefEqProofs only [push_cast, seval]
       rw [fitsE, if_neg h2', if_neg hall, if_neg hn1, if_neg h5', if_neg hn2, if_neg h6', if_neg hall2]
    ·cases hL0 : (f.L == 0)
     ·have hn2 : ¬ ((decide ((0 : Int) < x.L.length) && f.L == 0) = true) := by rw [hL0]; simp
      simp -implicitDefEqProofs only [push_cast, hL, hL0, ints_length, seval]
      refine condC_split (fun h6 => ?_) (fun h6 => ?_)
      ·simp -implicitDefEqProofs only [push_cast, ints_length, seval]
       rw [fitsE, if_neg h2', if_neg hall, if_neg hn1, if_neg h5', if_neg hn2, if_pos h6]
      have h6' : ¬ (decide ((65536 : Int) < x.L.length) = true) := by rw [h6]; simp
      simp -implicitDefEqProofs only [push_cast, ints_length, seval]
      refine loopC_of (α := F2S f x) (F2S.st o) (fun a => x.L.length - a.i) ⟨0, by omega, rfl⟩ ?_ ?_
      ·(simp only [F2S.st]; exact Wk.ax [(0, 0), (1, 1)] [] [] (by simp [PS.get, PS.obj, PS.lv, lkp_hit, lkp_miss, lkp_nil, lko, wkL, wkC, PV.weak]))
      ·rintro ⟨k, hk, hkf⟩
       simp -implicitDefEqProofs only [push_cast, F2S.st, seval]
       refine condC_split (fun h7 => ?_) (fun h7 => ?_)
       ·have hlt : k < x.L.length := by simp at h7; omega
        have hg := ints_at hlt
        have hsz : isSize f.L := by
         rcases h.l with e | e
         ·exact absurd (show (decide ((0 : Int) < x.L.length) && f.L == 0) = true by rw [e]; simp; omega) hn2
         ·exact e
        have hp := put_fs ho hsz (x.L.getD k 0)
        have hwr : IntKind.i64.wrap ((k : Int) + 1) = ((k + 1 : Nat) : Int) := by (rw [wrap_i64_id (by omega) (by omega)]; rfl)
        simp -implicitDefEqProofs only [push_cast, hg, ints_length, seval]
        refine ⟨by omega, ?_⟩
        refine callE_p hp ?_
        simp -implicitDefEqProofs only [push_cast, hg, ints_length, seval]
        have hstep : rowFit f.L x.L (k + 1) = (rowFit f.L x.L k && fitsN f.L (x.L.getD k 0)) := all_range_succ
        refine condC_split (fun h8 => ?_) (fun h8 => ?_)
        ·simp -implicitDefEqProofs only [push_cast, seval]
         have hff : fitsN f.L (x.L.getD k 0) = false := by
          cases hh : fitsN f.L (x.L.getD k 0) with
          | false => rfl
          | true => rw [putE, if_pos hh] at h8; exact absurd h8 (by decide)
         rw [fitsE, if_neg h2', if_neg hall, if_neg hn1, if_neg h5', if_neg hn2, if_neg h6', if_pos (show rowFit f.L x.L x.L.length = false from all_range_false (p := fun i => fitsN f.L (x.L.getD i 0)) hlt hff), putE, if_neg (by rw [hff]; simp)]
        ·have hff : fitsN f.L (x.L.getD k 0) = true := by
          cases hh : fitsN f.L (x.L.getD k 0) with
          | true => rfl
          | false => rw [putE, if_neg (by rw [hh]; simp)] at h8; exact absurd h8 (by decide)
         simp -implicitDefEqProofs only [push_cast, seval]
         rw [hwr]
         refine ⟨⟨k + 1, by omega, by rw [hstep, hkf, hff]; rfl⟩, by simp only; omega, ?_⟩
         (simp only [F2S.st]; exact Wk.ax [(0, 0), (1, 1)] [] [] (by simp [PS.get, PS.obj, PS.lv, lkp_hit, lkp_miss, lkp_nil, lko, wkL, wkC, PV.weak]))
       ·have hk2 : k = x.L.length := by simp at h7; omega
        have hall2 : ¬ (rowFit f.L x.L x.L.length = false) := by rw [← hk2, hkf]; simp
        simp -implicitDefEqProofs only [push_cast, seval]
        rw [fitsE, if_neg h2', if_neg hall, if_neg hn1, if_neg h5', if_neg hn2, if_neg h6', if_neg hall2]
     ·simp -implicitDefEqProofs only [push_cast, hL, hL0, ints_length, seval]
      rw [fitsE, if_neg h2', if_neg hall, if_neg hn1, if_neg h5', if_pos (by rw [hL, hL0]; rfl)]
   ·cases hfB : f.B
    ·simp -implicitDefEqProofs only [push_cast, hB, hfB, ints_length, seval]
     simp [fitsE, h2, hall, hB, hfB]
    ·have hn1 : ¬ ((x.B != [] && !f.B) = true) := by rw [hfB]; simp
     simp -implicitDefEqProofs only [push_cast, hB, hfB, ints_length, seval]
     refine condC_split (fun h5 => ?_) (fun h5 => ?_)
     ·simp -implicitDefEqProofs only [push_cast, ints_length, seval]
      rw [fitsE, if_neg h2', if_neg hall, if_neg hn1, if_pos h5]
     have h5' : ¬ (decide ((65536 : Int) < x.B.length) = true) := by rw [h5]; simp
     cases hL : decide ((0 : Int) < x.L.length)
     ·have hn2 : ¬ ((decide ((0 : Int) < x.L.length) && f.L == 0) = true) := by rw [hL]; simp
      simp -implicitDefEqProofs only [push_cast, hL, ints_length, seval]
      refine condC_split (fun h6 => ?_) (fun h6 => ?_)
      ·simp -implicitDefEqProofs only [push_cast, ints_length, seval]
       rw [fitsE, if_neg h2', if_neg hall, if_neg hn1, if_neg h5', if_neg hn2, if_pos h6]
      have h6' : ¬ (decide ((65536 : Int) < x.L.length) = true) := by rw [h6]; simp
      simp -implicitDefEqProofs only [push_cast, ints_length, seval]
      refine loopC_of (α := F2S f x) (F2S.st o) (fun a => x.L.length - a.i) ⟨0, by omega, rfl⟩ ?_ ?_
      ·(simp only [F2S.st]; exact Wk.at _ _ _ [(0, 0), (1, 1)] [] [] (by simp) (by simp [wkV, PV.el, PV.weak, PS.get, PS.obj, PS.lv, lkp_hit, lkp_miss, lkp_nil, lko, hfB]) (by simp [PS.get, PS.obj, PS.lv, lkp_hit, lkp_miss, lkp_nil, lko, wkL, wkC, PV.weak, hfB]))
      ·rintro ⟨k, hk, hkf⟩
       simp -implicitDefEqProofs only [push_cast, F2S.st, seval]
       refine condC_split (fun h7 => ?_) (fun h7 => ?_)
       ·have hlt : k < x.L.length := by simp at h7; omega
        have hg := ints_at hlt
        have hsz : isSize f.L := by
         rcases h.l with e | e
         ·exact absurd (show (decide ((0 : Int) < x.L.length) && f.L == 0) = true by rw [e]; simp; omega) hn2
         ·exact e
        have hp := put_fs ho hsz (x.L.getD k 0)
        have hwr : IntKind.i64.wrap ((k : Int) + 1) = ((k + 1 : Nat) : Int) := by (rw [wrap_i64_id (by omega) (by omega)]; rfl)
        simp -implicitDefEqProofs only [push_cast, hg, ints_length, seval]
        refine ⟨by omega, ?_⟩
        refine callE_p hp ?_
        simp -implicitDefEqProofs only [push_cast, hg, ints_length, seval]
        have hstep : rowFit f.L x.L (k + 1) = (rowFit f.L x.L k && fitsN f.L (x.L.getD k 0)) := all_range_succ
        refine condC_split (fun h8 => ?_) (fun h8 => ?_)
        ·simp -implicitDefEqProofs only [push_cast, seval]
         have hff : fitsN f.L (x.L.getD k 0) = false := by
          cases hh : fitsN f.L (x.L.getD k 0) with
          | false => rfl
          | true => rw [putE, if_pos hh] at h8; exact absurd h8 (by decide)
         rw [fitsE, if_neg h2', if_neg hall, if_neg hn1, if_neg h5', if_neg hn2, if_neg h6', if_pos (show rowFit f.L x.L x.L.length = false from all_range_false (p := fun i => fitsN f.L (x.L.getD i 0)) hlt hff), putE, if_neg (by rw [hff]; simp)]
        ·have hff : fitsN f.L (x.L.getD k 0) = true := by
          cases hh : fitsN f.L (x.L.getD k 0) with
          | true => rfl
          | false => rw [putE, if_neg (by rw [hh]; simp)] at h8; exact absurd h8 (by decide)
         simp -implicitDefEqProofs only [push_cast, seval]
         rw [hwr]
         refine ⟨⟨k + 1, by omega, by rw [hstep, hkf, hff]; rfl⟩, by simp only; omega, ?_⟩
         (simp only [F2S.st]; exact Wk.ax [(0, 0), (1, 1)] [] [] (by simp [PS.get, PS.obj, PS.lv, lkp_hit, lkp_miss, lkp_nil, lko, wkL, wkC, PV.weak]))
       ·have hk2 : k = x.L.length := by simp at h7; omega
        have hall2 : ¬ (rowFit f.L x.L x.L.length = false) := by rw [← hk2, hkf]; simp
        simp -implicitDefEqProofs only [push_cast, seval]
        rw [fitsE, if_neg h2', if_neg hall, if_neg hn1, if_neg h5', if_neg hn2, if_neg h6', if_neg hall2]
     ·cases hL0 : (f.L == 0)
      ·have hn2 : ¬ ((decide ((0 : Int) < x.L.length) && f.L == 0) = true) := by rw [hL0]; simp
       simp -implicitDefEqProofs only [push_cast, hL, hL0, ints_length, seval]
       refine condC_split (fun h6 => ?_) (fun h6 => ?_)
       ·simp -implicitDefEqProofs only [push_cast, ints_length, seval]
        rw [fitsE, if_neg h2', if_neg hall, if_neg hn1, if_neg h5', if_neg hn2, if_pos h6]
       have h6' : ¬ (decide ((65536 : Int) < x.L.length) = true) := by rw [h6]; simp
       simp -implicitDefEqProofs only [push_cast, ints_length, seval]
       refine loopC_of (α := F2S f x) (F2S.st o) (fun a => x.L.length - a.i) ⟨0, by omega, rfl⟩ ?_ ?_
       ·(simp only [F2S.st]; exact Wk.at _ _ _ [(0, 0), (1, 1)] [] [] (by simp) (by simp [wkV, PV.el, PV.weak, PS.get, PS.obj, PS.lv, lkp_hit, lkp_miss, lkp_nil, lko, hfB]) (by simp [PS.get, PS.obj, PS.lv, lkp_hit, lkp_miss, lkp_nil, lko, wkL, wkC, PV.weak, hfB]))
       ·rintro ⟨k, hk, hkf⟩
        simp -implicitDefEqProofs only [push_cast, F2S.st, seval]
        refine condC_split (fun h7 => ?_) (fun h7 => ?_)
        ·have hlt : k < x.L.length := by simp at h7; omega
         have hg := ints_at hlt
         have hsz : isSize f.L := by
          rcases h.l with e | e
          ·exact absurd (show (decide ((0 : Int) < x.L.length) && f.L == 0) = true by rw [e]; simp; omega) hn2
          ·exact e
         have hp := put_fs ho hsz (x.L.getD k 0)
         have hwr : IntKind.i64.wrap ((k : Int) + 1) = ((k + 1 : Nat) : Int) := by (rw [wrap_i64_id (by omega) (by omega)]; rfl)
         simp -implicitDefEqProofs only [push_cast, hg, ints_length, seval]
         refine ⟨by omega, ?_⟩
         refine callE_p hp ?_
         simp -implicitDefEqProofs only [push_cast, hg, ints_length, seval]
         have hstep : rowFit f.L x.L (k + 1) = (rowFit f.L x.L k && fitsN f.L (x.L.getD k 0)) := all_range_succ
         refine condC_split (fun h8 => ?_) (fun h8 => ?_)
         ·simp -implicitDefEqProofs only [push_cast, seval]
          have hff : fitsN f.L (x.L.getD k 0) = false := by
           cases hh : fitsN f.L (x.L.getD k 0) with
           | false => rfl
           | true => rw [putE, if_pos hh] at h8; exact absurd h8 (by decide)
          rw [fitsE, if_neg h2', if_neg hall, if_neg hn1, if_neg h5', if_neg hn2, if_neg h6', if_pos (show rowFit f.L x.L x.L.length = false from all_range_false (p := fun i => fitsN f.L (x.L.getD i 0)) hlt hff), putE, if_neg (by rw [hff]; simp)]
         ·have hff : fitsN f.L (x.L.getD k 0) = true := by
           cases hh : fitsN f.L (x.L.getD k 0) with
           | true => rfl
           | false => rw [putE, if_neg (by rw [hh]; simp)] at h8; exact absurd h8 (by decide)
          simp -implicitDefEqProofs only [push_cast, seval]
          rw [hwr]
          refine ⟨⟨k + 1, by omega, by rw [hstep, hkf, hff]; rfl⟩, by simp only; omega, ?_⟩
          (simp only [F2S.st]; exact Wk.ax [(0, 0), (1, 1)] [] [] (by simp [PS.get, PS.obj, PS.lv, lkp_hit, lkp_miss, lkp_nil, lko, wkL, wkC, PV.weak]))
        ·have hk2 : k = x.L.length := by simp at h7; omega
         have hall2 : ¬ (rowFit f.L x.L x.L.length = false) := by rw [← hk2, hkf]; simp
         simp -implicitDefEqProofs only [push_cast, seval]
         rw [fitsE, if_neg h2', if_neg hall, if_neg hn1, if_neg h5', if_neg hn2, if_neg h6', if_neg hall2]
      ·simp -implicitDefEqProofs only [push_cast, hL, hL0, ints_length, seval]
       rw [fitsE, if_neg h2', if_neg hall, if_neg hn1, if_neg h5', if_pos (by rw [hL, hL0]; rfl)]
end Go.Proofs.Sh
set_option maxRecDepth 100000
set_option linter.unusedSimpArgs false
set_option linter.unusedVariables false
namespace Go.Proofs.Sh
open Go.Pv
theorem putS_length {o s : Int} (hs : isSize s) (v : Int) : (putS o s v).length ≤ 4 := by
 unfold putS
 split
 ·rw [encB_length]; exact (wid_pos hs).2
 ·simp
theorem number_fs {o s : Int} (ho : isOrder o) (hs : isSize s) (v : Int) (l : List UInt8) (hl : l.length ≤ 1000000000) : Fsp Tryz.prog 85 [[.int .i64 o], [.nbp 89 1, .bsl 5 (bs (l)) 0]] 1 [.int .i64 s, .int .i64 v, .box 0 0, .box 1 0] [[.int .i64 o], [.nbp 89 1, .bsl 5 (bs (l ++ putS o s v)) 0]] 1 (.tup []) := by
 have hp := put_fs ho hs v
 have hw := writeString_fs l (putS o s v) (by have := putS_length (o := o) hs v; omega)
 generalize putS o s v = ps at *
 (refine Fsp.of (nx := 2) mixed Tryz.func85 rfl (by decide) (by first | exact Nat.le_refl _ | simp) (by simp [Tryz.f85]) ⟨by simp, by simp⟩ ?_; simp -implicitDefEqProofs only [push_cast, Tryz.f85, seval])
 refine callE_p hp ?_
 simp -implicitDefEqProofs only [push_cast, seval]
 refine callE_bx hw [1] [0] ?_
 simp -implicitDefEqProofs only [push_cast, seval]
 exact endK_box [42] [0, 1] rfl rfl (by simp [PS.lv, lkp_hit, lkp_miss, lkp_nil]) rfl rfl (by rfl) (fun i j ps h1 h2 => by (rcases i with _ | _ | i <;> simp at h1 h2 <;> (subst h1; subst h2; exact ⟨_, rfl, (by (repeat' (first | exact wkL_nil | refine wkL_cons ?_ ?_)); all_goals (first | rfl | exact ⟨rfl, rfl⟩ | exact ⟨rfl, rfl, rfl⟩ | exact .inl rfl))⟩))) ⟨by simp [resOk, PS.get, lkp_hit, lkp_miss, PS.ev], by simp [resPV, PS.get, lkp_hit, lkp_miss, PS.ev], by simp [resOf, resPV, one', res3, res2, res1, PS.get, lkp_hit, lkp_miss, PS.ev, PV.weak, PV.el, wkL]⟩
def zeros (n : Nat) : List UInt8 := List.replicate n 0
theorem zeros_succ (l : List UInt8) (n : Nat) : (l ++ zeros n) ++ [0] = l ++ zeros (n + 1) := by rw [zeros, zeros, List.replicate_succ', List.append_assoc]
theorem padN_le (n : Nat) : padN n ≤ 3 := by unfold padN; omega
structure FiS (l : List UInt8) where
 i : Nat
 hi : i ≤ padN l.length
def FiS.st {l : List UInt8} (a : FiS l) : PS := { n := 7, env := [(3, .int .i64 a.i), (2, .int .i64 (padN l.length : Nat)), (0, .box 0 0)], objs := [(0, some [.nbp 89 0, .bsl 5 (bs (l ++ zeros a.i)) 50])], live := [(50, true)], nxt := 60 }
theorem fill_fs (l : List UInt8) (hl : l.length ≤ 1000000000) : Fsp Tryz.prog 86 [[.nbp 89 0, .bsl 5 (bs (l)) 0]] 1 [.box 0 0] [[.nbp 89 0, .bsl 5 (bs (l ++ zeros (padN l.length))) 0]] 1 (.tup []) := by
 have hlen := len_fs l
 have hp := pad_fs l.length hl
 have hp3 := padN_le l.length
 (refine Fsp.of (nx := 1) mixed Tryz.func86 rfl (by decide) (by first | exact Nat.le_refl _ | simp) (by simp [Tryz.f86]) ⟨by simp, by simp⟩ ?_; simp -implicitDefEqProofs only [push_cast, Tryz.f86, seval])
 refine callE_bx hlen [0] [0] ?_
 simp -implicitDefEqProofs only [push_cast, seval]
 refine callE_p hp ?_
 simp -implicitDefEqProofs only [push_cast, seval]
 refine loopC_of (α := FiS l) FiS.st (fun a => 4 - a.i) ⟨0, by omega⟩ ?_ ?_
 ·(simp only [FiS.st]; exact Wk.by _ _ _ [(0, 0)] [(50, 1)] [] (by simp) (by simp [wkV, PV.el, PV.weak, PS.get, PS.obj, PS.lv, lkp_hit, lkp_miss, lkp_nil, lko, zeros]) (by simp [PS.get, PS.obj, PS.lv, lkp_hit, lkp_miss, lkp_nil, lko, wkL, wkC, PV.weak, zeros]) (by simp [PS.get, PS.obj, PS.lv, lkp_hit, lkp_miss, lkp_nil, lko]) (by rfl) (by rfl) (by simp [lko]) (by simp) (by simp) (by simp) (fun i hi => by cases Nat.lt_one_iff.1 hi; rfl))
 ·rintro ⟨i, hi⟩
  simp -implicitDefEqProofs only [push_cast, FiS.st, seval]
  refine condC_split (fun h2 => ?_) (fun h2 => ?_)
  ·have hlt : i < padN l.length := by simp at h2; omega
   have hw := writeByte_fs (l ++ zeros i) (by simp [zeros]; omega)
   rw [zeros_succ] at hw
   have hwr : IntKind.i64.wrap ((i : Int) + 1) = ((i + 1 : Nat) : Int) := by (rw [wrap_i64_id (by omega) (by omega)]; rfl)
   simp -implicitDefEqProofs only [push_cast, seval]
   refine callE_bx hw [0] [50] ?_
   simp -implicitDefEqProofs only [push_cast, seval]
   rw [hwr]
   refine ⟨⟨i + 1, by omega⟩, by simp only; omega, ?_⟩
   (simp only [FiS.st]; exact Wk.by _ _ _ [(0, 0)] [(50, 64)] [] (by simp) (by simp [wkV, PV.el, PV.weak, PS.get, PS.obj, PS.lv, lkp_hit, lkp_miss, lkp_nil, lko]) (by simp [PS.get, PS.obj, PS.lv, lkp_hit, lkp_miss, lkp_nil, lko, wkL, wkC, PV.weak]) (by simp [PS.get, PS.obj, PS.lv, lkp_hit, lkp_miss, lkp_nil, lko]) (by rfl) (by rfl) (by simp [lko]) (by simp) (by simp) (by simp) (fun i hi => by cases Nat.lt_one_iff.1 hi; rfl))
  ·have hie : i = padN l.length := by simp at h2; omega
   subst hie
   simp -implicitDefEqProofs only [push_cast, seval]
   exact endK_box1 [50] rfl rfl (by simp [PS.lv, lkp_hit, lkp_miss, lkp_nil]) (by simp [PS.obj, lkp_hit, lkp_miss, lkp_nil]; rfl) (by simp [wkL, res1, PV.weak]) ⟨by simp [resOk, PS.get, lkp_hit, lkp_miss, PS.ev], by simp [resPV, PS.get, lkp_hit, lkp_miss, PS.ev], by simp [resOf, resPV, one', res3, res2, res1, PS.get, lkp_hit, lkp_miss, PS.ev, PV.weak, PV.el, wkL]⟩
def row (o : Int) (F N : List Int) (k : Nat) : List UInt8 := (List.range k).flatMap fun j => putS o (F.getD j 0) (N.getD j 0)
theorem row_succ (o : Int) (F N : List Int) (k : Nat) : row o F N (k + 1) = row o F N k ++ putS o (F.getD k 0) (N.getD k 0) := by simp only [row, List.range_succ, List.flatMap_append, List.flatMap_cons, List.flatMap_nil, List.append_nil]
def row1 (o s : Int) (L : List Int) (k : Nat) : List UInt8 := (List.range k).flatMap fun j => putS o s (L.getD j 0)
theorem row1_succ (o s : Int) (L : List Int) (k : Nat) : row1 o s L (k + 1) = row1 o s L k ++ putS o s (L.getD k 0) := by simp only [row1, List.range_succ, List.flatMap_append, List.flatMap_cons, List.flatMap_nil, List.append_nil]
theorem row1_length (o : Int) {s : Int} (hs : isSize s) (L : List Int) : ∀ k, (row1 o s L k).length ≤ 4 * k
 | 0 => by simp [row1]
 | k + 1 => by
  rw [row1_succ, List.length_append]
  have := row1_length o hs L k
  have := putS_length (o := o) hs (L.getD k 0)
  omega
def p1 (l : List UInt8) : List UInt8 := l ++ zeros (padN l.length)
theorem p1_length (l : List UInt8) : (p1 l).length ≤ l.length + 3 := by
 have := padN_le l.length
 simp [p1, zeros]; omega
def fmt1 (o : Int) (f : Fm) (x : Fd) : List UInt8 := p1 (row o f.F x.N x.N.length)
def fmt2 (o : Int) (f : Fm) (x : Fd) : List UInt8 := if f.B = true then p1 (fmt1 o f x ++ putS o 4 x.B.length ++ x.B) else fmt1 o f x
def fmt (o : Int) (f : Fm) (x : Fd) : List UInt8 := if (f.L != 0) = true then p1 (fmt2 o f x ++ putS o 4 x.L.length ++ row1 o f.L x.L x.L.length) else fmt2 o f x
def fmtR (o : Int) (f : Fm) (x : Fd) : PV :=
 if (fitsE f x != 0) = true then .tup [.str [], .int .i64 (fitsE f x)]
 else if decide ((65536 : Int) < (fmt o f x).length) = true then .tup [.str [], .int .i64 4]
 else .tup [.str (fmt o f x), .int .i64 0]
theorem fitsE_bl {f : Fm} {x : Fd} (h : (fitsE f x != 0) = false) : x.B.length ≤ 65536 ∧ x.L.length ≤ 65536 := by
 unfold fitsE at h
 (repeat' split at h) <;> first | exact absurd h (by decide) | skip
 rename_i h1 h2 h3 h4 h5 h6 h7
 simp only [decide_eq_true_eq] at h4 h6
 omega
theorem fitsE_n {f : Fm} {x : Fd} (h : (fitsE f x != 0) = false) : x.N.length = f.F.length := by
 unfold fitsE at h
 split at h
 ·exact absurd h (by decide)
 ·rename_i h1; simp at h1; omega
structure P1S (f : Fm) (x : Fd) where
 i : Nat
 hi : i ≤ x.N.length
def P1S.st (o : Int) {f : Fm} {x : Fd} (a : P1S f x) : PS := { n := 89, env := [(35, .int .i64 a.i), (34, .int .i64 x.N.length), (33, .sl 1 (ints x.N)), (3, .box 0 0), (4, .box 1 0), (5, .box 2 0), (10, .box 3 0), (11, .fn 85 [.box 0 0, .box 3 0]), (12, .fn 86 [.box 3 0]), (6, .str []), (7, .int .i64 0)], objs := [(0, some [.int .i64 o]), (1, some [.sl 1 (ints f.F), .bool f.B, .int .i64 f.L]), (2, some [.sl 1 (ints x.N), .str x.B, .sl 1 (ints x.L)]), (3, some [.nbp 89 3, .bsl 5 (bs (row o f.F x.N a.i)) 50])], live := [(50, true)], nxt := 100 }
structure P2S (x : Fd) where
 i : Nat
 hi : i ≤ x.L.length
def P2S.st (o : Int) (f : Fm) (x : Fd) (l : List UInt8) (a : P2S x) : PS := { n := 89, env := [(74, .int .i64 a.i), (73, .int .i64 x.L.length), (72, .sl 1 (ints x.L)), (3, .box 0 0), (4, .box 1 0), (5, .box 2 0), (10, .box 3 0), (11, .fn 85 [.box 0 0, .box 3 0]), (12, .fn 86 [.box 3 0]), (6, .str []), (7, .int .i64 0)], objs := [(0, some [.int .i64 o]), (1, some [.sl 1 (ints f.F), .bool f.B, .int .i64 f.L]), (2, some [.sl 1 (ints x.N), .str x.B, .sl 1 (ints x.L)]), (3, some [.nbp 89 3, .bsl 5 (bs (l ++ putS o 4 x.L.length ++ row1 o f.L x.L a.i)) 50])], live := [(50, true)], nxt := 200 }
theorem row_length (o : Int) {f : Fm} (h : f.Ok) (N : List Int) : ∀ k, k ≤ f.F.length → (row o f.F N k).length ≤ 4 * k
 | 0, _ => by simp [row]
 | k + 1, hk => by
  rw [row_succ, List.length_append]
  have := row_length o h N k (by omega)
  have hsz : isSize (f.F.getD k 0) := by
   rw [List.getD_eq_getElem?_getD, List.getElem?_eq_getElem (by omega), Option.getD_some]
   exact h.s _ (List.getElem_mem _)
  have := putS_length (o := o) hsz (N.getD k 0)
  omega
set_option maxHeartbeats 4000000 in
theorem format_fs {o : Int} (ho : isOrder o) (f : Fm) (h : f.Ok) (x : Fd) (hx : x.N.length ≤ 1000000000000000) (hx2 : x.L.length ≤ 1000000000000000) (hx3 : x.B.length ≤ 1000000000000000) : Fsp Tryz.prog 58 [] 0 [.int .i64 o, f.pv, x.pv] [] 0 (fmtR o f x) := by
 have hk := known_form ho f h
 have hf := fits_fs ho f h x hx hx2
 simp only [Fm.pv, Fd.pv] at hk hf
 (refine Fsp.ofs (nx := 0) mixed Tryz.func58 rfl (by simp [Tryz.f58]) ?_; simp -implicitDefEqProofs only [push_cast, Tryz.f58, Fm.pv, Fd.pv, seval])
 refine callE_p hk ?_
 simp -implicitDefEqProofs only [push_cast, seval]
 refine callE_p hf ?_
 simp -implicitDefEqProofs only [push_cast, seval]
 refine condC_split (fun h2 => ?_) (fun h2 => ?_)
 ·simp -implicitDefEqProofs only [push_cast, seval]
  rw [fmtR, if_pos h2]
  exact ⟨_, rfl, by simp [wkL, res2, res1, PV.weak, PV.el]⟩
 have hl := fitsE_n h2
 obtain ⟨hx3, hx2⟩ := fitsE_bl h2
 have hnF := h.n
 simp -implicitDefEqProofs only [push_cast, ints_length, seval]
 refine loopC_of (α := P1S f x) (P1S.st o) (fun a => x.N.length - a.i) ⟨0, by omega⟩ ?_ ?_
 ·(simp only [P1S.st]; exact Wk.at _ _ _ [(0, 0), (1, 4), (2, 8), (3, 72)] [(50, 72)] [] (by simp) (by simp [wkV, PV.el, PV.weak, PS.get, PS.obj, PS.lv, lkp_hit, lkp_miss, lkp_nil, lko, row, bs, wkL]) (by simp [PS.get, PS.obj, PS.lv, lkp_hit, lkp_miss, lkp_nil, lko, wkL, wkC, PV.weak, row, bs, wkL]))
 ·rintro ⟨i, hi⟩
  simp -implicitDefEqProofs only [push_cast, P1S.st, seval]
  refine condC_split (fun h3 => ?_) (fun h3 => ?_)
  ·have hlt : i < x.N.length := by simp at h3; omega
   have hg := ints_at hlt
   have hg2 := ints_at (l := f.F) (i := i) (by omega)
   have hsz : isSize (f.F.getD i 0) := by
    rw [List.getD_eq_getElem?_getD, List.getElem?_eq_getElem (by omega), Option.getD_some]
    exact h.s _ (List.getElem_mem _)
   have hr := row_length o h x.N i (by omega)
   have hn := number_fs ho hsz (x.N.getD i 0) (row o f.F x.N i) (by omega)
   rw [← row_succ] at hn
   have hwr : IntKind.i64.wrap ((i : Int) + 1) = ((i + 1 : Nat) : Int) := by (rw [wrap_i64_id (by omega) (by omega)]; rfl)
   simp -implicitDefEqProofs only [push_cast, hg, hg2, ints_length, seval]
   (repeat (first | refine ⟨by omega, ?_⟩ | refine ⟨by (unfold drawOk; kernel_rfl), ?_⟩))
   refine callE_bx hn [0, 3] [50] ?_
   simp -implicitDefEqProofs only [push_cast, hg, hg2, ints_length, seval]
   rw [hwr]
   refine ⟨⟨i + 1, by omega⟩, by simp only; omega, ?_⟩
   (simp only [P1S.st]; exact Wk.at _ _ _ [(0, 0), (1, 1), (2, 2), (3, 3)] [(50, 152)] [] (by simp) (by simp [wkV, PV.el, PV.weak, PS.get, PS.obj, PS.lv, lkp_hit, lkp_miss, lkp_nil, lko, wkL]) (by simp [PS.get, PS.obj, PS.lv, lkp_hit, lkp_miss, lkp_nil, lko, wkL, wkC, PV.weak, wkL]))
  ·have hie : i = x.N.length := by simp at h3; omega
   subst hie
   have hr := row_length o h x.N x.N.length (by omega)
   have hfl := fill_fs (row o f.F x.N x.N.length) (by omega)
   have hp1 := p1_length (row o f.F x.N x.N.length)
   rw [show row o f.F x.N x.N.length ++ zeros (padN (row o f.F x.N x.N.length).length) = fmt1 o f x from rfl] at hfl
   have h1l : (fmt1 o f x).length ≤ 100 := by unfold fmt1; omega
   simp -implicitDefEqProofs only [push_cast, seval]
   refine callE_bx hfl [3] [50] ?_
   simp -implicitDefEqProofs only [push_cast, seval]
   refine condC_split (fun hB => ?_) (fun hB => ?_)
   ·have hn4 := number_fs ho (s := 4) (by unfold isSize; omega) x.B.length (fmt1 o f x) (by omega)
    have hp4 := putS_length (o := o) (s := 4) (by unfold isSize; omega) x.B.length
    have hws := writeString_fs (fmt1 o f x ++ putS o 4 x.B.length) x.B (by simp only [List.length_append]; omega)
    have hfl2 := fill_fs (fmt1 o f x ++ putS o 4 x.B.length ++ x.B) (by simp only [List.length_append]; omega)
    have hp2 := p1_length (fmt1 o f x ++ putS o 4 x.B.length ++ x.B)
    have h2e : fmt2 o f x = p1 (fmt1 o f x ++ putS o 4 x.B.length ++ x.B) := by rw [fmt2, if_pos hB]
    rw [show fmt1 o f x ++ putS o 4 x.B.length ++ x.B ++ zeros (padN (fmt1 o f x ++ putS o 4 x.B.length ++ x.B).length) = fmt2 o f x from h2e.symm] at hfl2
    have h2l : (fmt2 o f x).length ≤ 2000000 := by rw [h2e]; simp only [List.length_append] at hp2; omega
    simp -implicitDefEqProofs only [push_cast, seval]
    refine callE_bx hn4 [0, 3] [108] ?_
    simp -implicitDefEqProofs only [push_cast, seval]
    refine callE_bx hws [3] [136] ?_
    simp -implicitDefEqProofs only [push_cast, seval]
    refine callE_bx hfl2 [3] [148] ?_
    simp -implicitDefEqProofs only [push_cast, seval]
    refine condC_split (fun hL => ?_) (fun hL => ?_)
    ·have hLs : isSize f.L := by
      rcases h.l with e | e
      ·rw [e] at hL; exact absurd hL (by decide)
      ·exact e
     have hn4 := number_fs ho (s := 4) (by unfold isSize; omega) x.L.length (fmt2 o f x) (by omega)
     simp -implicitDefEqProofs only [push_cast, ints_length, hL, seval]
     refine callE_bx hn4 [0, 3] [156] ?_
     simp -implicitDefEqProofs only [push_cast, ints_length, seval]
     refine loopC_of (α := P2S x) (P2S.st o f x (fmt2 o f x)) (fun a => x.L.length - a.i) ⟨0, by omega⟩ ?_ ?_
     ·(simp only [P2S.st]; exact Wk.at _ _ _ [(0, 0), (1, 1), (2, 2), (3, 3)] [(50, 188)] [] (by simp) (by simp [wkV, PV.el, PV.weak, PS.get, PS.obj, PS.lv, lkp_hit, lkp_miss, lkp_nil, lko, row1, wkL]) (by simp [PS.get, PS.obj, PS.lv, lkp_hit, lkp_miss, lkp_nil, lko, wkL, wkC, PV.weak, row1, wkL]))
     ·rintro ⟨k, hk⟩
      simp -implicitDefEqProofs only [push_cast, P2S.st, seval]
      refine condC_split (fun h7 => ?_) (fun h7 => ?_)
      ·have hlt : k < x.L.length := by simp at h7; omega
       have hg := ints_at hlt
       have hr := row1_length o hLs x.L k
       have hn := number_fs ho hLs (x.L.getD k 0) ((fmt2 o f x) ++ putS o 4 x.L.length ++ row1 o f.L x.L k) (by have := putS_length (o := o) (s := 4) (by unfold isSize; omega) x.L.length; simp only [List.length_append]; omega)
       rw [List.append_assoc _ (row1 o f.L x.L k), ← row1_succ] at hn
       have hwr : IntKind.i64.wrap ((k : Int) + 1) = ((k + 1 : Nat) : Int) := by (rw [wrap_i64_id (by omega) (by omega)]; rfl)
       simp -implicitDefEqProofs only [push_cast, hg, ints_length, seval]
       (repeat (first | refine ⟨by omega, ?_⟩ | refine ⟨by (unfold drawOk; kernel_rfl), ?_⟩))
       refine callE_bx hn [0, 3] [50] ?_
       simp -implicitDefEqProofs only [push_cast, hg, ints_length, seval]
       rw [hwr]
       refine ⟨⟨k + 1, by omega⟩, by simp only; omega, ?_⟩
       (simp only [P2S.st]; exact Wk.at _ _ _ [(0, 0), (1, 1), (2, 2), (3, 3)] [(50, 232)] [] (by simp) (by simp [wkV, PV.el, PV.weak, PS.get, PS.obj, PS.lv, lkp_hit, lkp_miss, lkp_nil, lko, wkL]) (by simp [PS.get, PS.obj, PS.lv, lkp_hit, lkp_miss, lkp_nil, lko, wkL, wkC, PV.weak, wkL]))
      ·have hke : k = x.L.length := by simp at h7; omega
       subst hke
       have hr := row1_length o hLs x.L x.L.length
       have hp4 := putS_length (o := o) (s := 4) (by unfold isSize; omega) x.L.length
       have hfl := fill_fs ((fmt2 o f x) ++ putS o 4 x.L.length ++ row1 o f.L x.L x.L.length) (by simp only [List.length_append]; omega)
       have hacc : fmt o f x = p1 ((fmt2 o f x) ++ putS o 4 x.L.length ++ row1 o f.L x.L x.L.length) := by rw [fmt, if_pos hL]
       rw [show (fmt2 o f x) ++ putS o 4 x.L.length ++ row1 o f.L x.L x.L.length ++ zeros (padN ((fmt2 o f x) ++ putS o 4 x.L.length ++ row1 o f.L x.L x.L.length).length) = fmt o f x from hacc.symm] at hfl
       simp -implicitDefEqProofs only [push_cast, seval]
       refine callE_bx hfl [3] [50] ?_
       simp -implicitDefEqProofs only [push_cast, seval]
       have hlen := len_fs (fmt o f x)
       have hst := string_fs (fmt o f x)
       refine callE_bx hlen [3] [208] ?_
       simp -implicitDefEqProofs only [push_cast, seval]
       refine condC_split (fun h9 => ?_) (fun h9 => ?_)
       ·simp -implicitDefEqProofs only [push_cast, seval]
        rw [fmtR, if_neg (by rw [h2]; simp), if_pos h9]; exact ⟨_, rfl, by simp [wkL, res2, res1, PV.weak, PV.el]⟩
       ·simp -implicitDefEqProofs only [push_cast, seval]
        refine callE_bx hst [3] [212] ?_
        simp -implicitDefEqProofs only [push_cast, seval]
        rw [fmtR, if_neg (by rw [h2]; simp), if_neg (by rw [h9]; simp)]; exact ⟨_, rfl, by simp [wkL, res2, res1, PV.weak, PV.el]⟩
    ·have hacc : fmt o f x = (fmt2 o f x) := by rw [fmt, if_neg (by rw [hL]; simp)]
     rw [← hacc]
     simp -implicitDefEqProofs only [push_cast, hL, seval]
     have hlen := len_fs (fmt o f x)
     have hst := string_fs (fmt o f x)
     refine callE_bx hlen [3] [156] ?_
     simp -implicitDefEqProofs only [push_cast, seval]
     refine condC_split (fun h9 => ?_) (fun h9 => ?_)
     ·simp -implicitDefEqProofs only [push_cast, seval]
      rw [fmtR, if_neg (by rw [h2]; simp), if_pos h9]; exact ⟨_, rfl, by simp [wkL, res2, res1, PV.weak, PV.el]⟩
     ·simp -implicitDefEqProofs only [push_cast, seval]
      refine callE_bx hst [3] [172] ?_
      simp -implicitDefEqProofs only [push_cast, seval]
      rw [fmtR, if_neg (by rw [h2]; simp), if_neg (by rw [h9]; simp)]; exact ⟨_, rfl, by simp [wkL, res2, res1, PV.weak, PV.el]⟩
   ·have h2e : fmt2 o f x = fmt1 o f x := by rw [fmt2, if_neg (by rw [hB]; simp)]
    have h2l : (fmt2 o f x).length ≤ 2000000 := by rw [h2e]; omega
    rw [← h2e]
    simp -implicitDefEqProofs only [push_cast, seval]
    refine condC_split (fun hL => ?_) (fun hL => ?_)
    ·have hLs : isSize f.L := by
      rcases h.l with e | e
      ·rw [e] at hL; exact absurd hL (by decide)
      ·exact e
     have hn4 := number_fs ho (s := 4) (by unfold isSize; omega) x.L.length (fmt2 o f x) (by omega)
     simp -implicitDefEqProofs only [push_cast, ints_length, hL, seval]
     refine callE_bx hn4 [0, 3] [108] ?_
     simp -implicitDefEqProofs only [push_cast, ints_length, seval]
     refine loopC_of (α := P2S x) (P2S.st o f x (fmt2 o f x)) (fun a => x.L.length - a.i) ⟨0, by omega⟩ ?_ ?_
     ·(simp only [P2S.st]; exact Wk.at _ _ _ [(0, 0), (1, 1), (2, 2), (3, 3)] [(50, 148)] [] (by simp) (by simp [wkV, PV.el, PV.weak, PS.get, PS.obj, PS.lv, lkp_hit, lkp_miss, lkp_nil, lko, row1, wkL]) (by simp [PS.get, PS.obj, PS.lv, lkp_hit, lkp_miss, lkp_nil, lko, wkL, wkC, PV.weak, row1, wkL]))
     ·rintro ⟨k, hk⟩
      simp -implicitDefEqProofs only [push_cast, P2S.st, seval]
      refine condC_split (fun h7 => ?_) (fun h7 => ?_)
      ·have hlt : k < x.L.length := by simp at h7; omega
       have hg := ints_at hlt
       have hr := row1_length o hLs x.L k
       have hn := number_fs ho hLs (x.L.getD k 0) ((fmt2 o f x) ++ putS o 4 x.L.length ++ row1 o f.L x.L k) (by have := putS_length (o := o) (s := 4) (by unfold isSize; omega) x.L.length; simp only [List.length_append]; omega)
       rw [List.append_assoc _ (row1 o f.L x.L k), ← row1_succ] at hn
       have hwr : IntKind.i64.wrap ((k : Int) + 1) = ((k + 1 : Nat) : Int) := by (rw [wrap_i64_id (by omega) (by omega)]; rfl)
       simp -implicitDefEqProofs only [push_cast, hg, ints_length, seval]
       (repeat (first | refine ⟨by omega, ?_⟩ | refine ⟨by (unfold drawOk; kernel_rfl), ?_⟩))
       refine callE_bx hn [0, 3] [50] ?_
       simp -implicitDefEqProofs only [push_cast, hg, ints_length, seval]
       rw [hwr]
       refine ⟨⟨k + 1, by omega⟩, by simp only; omega, ?_⟩
       (simp only [P2S.st]; exact Wk.at _ _ _ [(0, 0), (1, 1), (2, 2), (3, 3)] [(50, 232)] [] (by simp) (by simp [wkV, PV.el, PV.weak, PS.get, PS.obj, PS.lv, lkp_hit, lkp_miss, lkp_nil, lko, wkL]) (by simp [PS.get, PS.obj, PS.lv, lkp_hit, lkp_miss, lkp_nil, lko, wkL, wkC, PV.weak, wkL]))
      ·have hke : k = x.L.length := by simp at h7; omega
       subst hke
       have hr := row1_length o hLs x.L x.L.length
       have hp4 := putS_length (o := o) (s := 4) (by unfold isSize; omega) x.L.length
       have hfl := fill_fs ((fmt2 o f x) ++ putS o 4 x.L.length ++ row1 o f.L x.L x.L.length) (by simp only [List.length_append]; omega)
       have hacc : fmt o f x = p1 ((fmt2 o f x) ++ putS o 4 x.L.length ++ row1 o f.L x.L x.L.length) := by rw [fmt, if_pos hL]
       rw [show (fmt2 o f x) ++ putS o 4 x.L.length ++ row1 o f.L x.L x.L.length ++ zeros (padN ((fmt2 o f x) ++ putS o 4 x.L.length ++ row1 o f.L x.L x.L.length).length) = fmt o f x from hacc.symm] at hfl
       simp -implicitDefEqProofs only [push_cast, seval]
       refine callE_bx hfl [3] [50] ?_
       simp -implicitDefEqProofs only [push_cast, seval]
       have hlen := len_fs (fmt o f x)
       have hst := string_fs (fmt o f x)
       refine callE_bx hlen [3] [208] ?_
       simp -implicitDefEqProofs only [push_cast, seval]
       refine condC_split (fun h9 => ?_) (fun h9 => ?_)
       ·simp -implicitDefEqProofs only [push_cast, seval]
        rw [fmtR, if_neg (by rw [h2]; simp), if_pos h9]; exact ⟨_, rfl, by simp [wkL, res2, res1, PV.weak, PV.el]⟩
       ·simp -implicitDefEqProofs only [push_cast, seval]
        refine callE_bx hst [3] [212] ?_
        simp -implicitDefEqProofs only [push_cast, seval]
        rw [fmtR, if_neg (by rw [h2]; simp), if_neg (by rw [h9]; simp)]; exact ⟨_, rfl, by simp [wkL, res2, res1, PV.weak, PV.el]⟩
    ·have hacc : fmt o f x = (fmt2 o f x) := by rw [fmt, if_neg (by rw [hL]; simp)]
     rw [← hacc]
     simp -implicitDefEqProofs only [push_cast, hL, seval]
     have hlen := len_fs (fmt o f x)
     have hst := string_fs (fmt o f x)
     refine callE_bx hlen [3] [108] ?_
     simp -implicitDefEqProofs only [push_cast, seval]
     refine condC_split (fun h9 => ?_) (fun h9 => ?_)
     ·simp -implicitDefEqProofs only [push_cast, seval]
      rw [fmtR, if_neg (by rw [h2]; simp), if_pos h9]; exact ⟨_, rfl, by simp [wkL, res2, res1, PV.weak, PV.el]⟩
     ·simp -implicitDefEqProofs only [push_cast, seval]
      refine callE_bx hst [3] [132] ?_
      simp -implicitDefEqProofs only [push_cast, seval]
      rw [fmtR, if_neg (by rw [h2]; simp), if_neg (by rw [h9]; simp)]; exact ⟨_, rfl, by simp [wkL, res2, res1, PV.weak, PV.el]⟩
end Go.Proofs.Sh
set_option maxRecDepth 100000
set_option linter.unusedSimpArgs false
set_option linter.unusedVariables false
namespace Go.Proofs.Sh
open Go.Pv
def earlyT : PV := .agg [.str [], .str [], .str [], .str [99, 114, 101, 97, 116, 101, 45, 119, 105, 110, 100, 111, 119], .str [105, 100, 52, 32, 112, 97, 114, 101, 110, 116, 52, 32, 120, 45, 50, 32, 121, 45, 50, 32, 119, 50, 32, 104, 50, 32, 98, 97, 99, 107, 49, 32, 98, 97, 99, 107, 105, 110, 103, 49, 32, 111, 118, 101, 114, 114, 105, 100, 101, 49], .str [], .str [100, 101, 115, 116, 114, 111, 121, 45, 119, 105, 110, 100, 111, 119], .str [105, 100, 52], .str [], .str [109, 97, 112, 45, 119, 105, 110, 100, 111, 119], .str [105, 100, 52], .str [], .str [117, 110, 109, 97, 112, 45, 119, 105, 110, 100, 111, 119], .str [105, 100, 52], .str [], .str [99, 111, 110, 102, 105, 103, 117, 114, 101, 45, 119, 105, 110, 100, 111, 119], .str [105, 100, 52, 32, 109, 97, 115, 107, 49, 32, 120, 45, 50, 32, 121, 45, 50, 32, 119, 50, 32, 104, 50, 32, 115, 105, 98, 108, 105, 110, 103, 52, 32, 109, 111, 100, 101, 49], .str [], .str [114, 101, 112, 97, 114, 101, 110, 116, 45, 119, 105, 110, 100, 111, 119], .str [105, 100, 52, 32, 112, 97, 114, 101, 110, 116, 52, 32, 120, 45, 50, 32, 121, 45, 50], .str [], .str [99, 104, 97, 110, 103, 101, 45, 119, 105, 110, 100, 111, 119], .str [105, 100, 52, 32, 109, 97, 115, 107, 50, 32, 98, 97, 99, 107, 49, 32, 103, 114, 97, 118, 105, 116, 121, 49, 32, 98, 105, 116, 115, 49, 32, 111, 118, 101, 114, 114, 105, 100, 101, 49, 32, 115, 116, 111, 112, 52, 32, 101, 118, 101, 110, 116, 115, 52], .str [], .str [115, 104, 97, 112, 101, 45, 119, 105, 110, 100, 111, 119], .str [105, 100, 52, 32, 115, 104, 97, 112, 101, 100, 49, 32, 76, 45, 50], .str [], .str [103, 101, 116, 45, 103, 101, 111, 109, 101, 116, 114, 121], .str [105, 100, 52], .str [112, 97, 114, 101, 110, 116, 52, 32, 120, 45, 50, 32, 121, 45, 50, 32, 119, 50, 32, 104, 50, 32, 109, 97, 112, 112, 101, 100, 49, 32, 118, 105, 101, 119, 97, 98, 108, 101, 49], .str [113, 117, 101, 114, 121, 45, 116, 114, 101, 101], .str [105, 100, 52], .str [112, 97, 114, 101, 110, 116, 52, 32, 76, 52], .str [105, 110, 116, 101, 114, 110, 45, 97, 116, 111, 109], .str [111, 110, 108, 121, 49, 32, 66], .str [97, 116, 111, 109, 52], .str [97, 116, 111, 109, 45, 110, 97, 109, 101], .str [97, 116, 111, 109, 52], .str [66], .str [99, 104, 97, 110, 103, 101, 45, 112, 114, 111, 112, 101, 114, 116, 121], .str [105, 100, 52, 32, 110, 97, 109, 101, 52, 32, 116, 121, 112, 101, 52, 32, 102, 111, 114, 109, 97, 116, 49, 32, 109, 111, 100, 101, 49, 32, 76, 52], .str [], .str [100, 101, 108, 101, 116, 101, 45, 112, 114, 111, 112, 101, 114, 116, 121], .str [105, 100, 52, 32, 110, 97, 109, 101, 52], .str [], .str [103, 101, 116, 45, 112, 114, 111, 112, 101, 114, 116, 121], .str [105, 100, 52, 32, 110, 97, 109, 101, 52, 32, 116, 121, 112, 101, 52, 32, 111, 102, 102, 115, 101, 116, 52, 32, 108, 101, 110, 103, 116, 104, 52, 32, 114, 101, 109, 111, 118, 101, 49], .str [116, 121, 112, 101, 52, 32, 102, 111, 114, 109, 97, 116, 49, 32, 108, 101, 102, 116, 52, 32, 76, 52], .str [108, 105, 115, 116, 45, 112, 114, 111, 112, 101, 114, 116, 105, 101, 115], .str [105, 100, 52], .str [76, 52], .str [99, 114, 101, 97, 116, 101, 45, 112, 105, 120, 109, 97, 112], .str [105, 100, 52, 32, 119, 50, 32, 104, 50, 32, 102, 105, 108, 108, 49], .str [], .str [102, 114, 101, 101, 45, 112, 105, 120, 109, 97, 112], .str [105, 100, 52], .str [], .str [99, 114, 101, 97, 116, 101, 45, 112, 101, 110], .str [105, 100, 52], .str [], .str [99, 104, 97, 110, 103, 101, 45, 112, 101, 110], .str [105, 100, 52, 32, 109, 97, 115, 107, 49, 32, 102, 117, 110, 99, 49, 32, 112, 108, 97, 110, 101, 115, 49, 32, 102, 111, 114, 101, 49, 32, 98, 97, 99, 107, 49, 32, 102, 111, 110, 116, 52], .str [], .str [99, 108, 105, 112, 45, 112, 101, 110], .str [105, 100, 52, 32, 120, 45, 50, 32, 121, 45, 50, 32, 99, 108, 105, 112, 112, 101, 100, 49, 32, 76, 45, 50], .str [], .str [102, 114, 101, 101, 45, 112, 101, 110], .str [105, 100, 52], .str [], .str [111, 112, 101, 110, 45, 102, 111, 110, 116], .str [105, 100, 52, 32, 66], .str [], .str [99, 108, 111, 115, 101, 45, 102, 111, 110, 116], .str [105, 100, 52], .str [], .str [113, 117, 101, 114, 121, 45, 102, 111, 110, 116], .str [105, 100, 52], .str [97, 115, 99, 101, 110, 116, 49, 32, 100, 101, 115, 99, 101, 110, 116, 49, 32, 76, 49], .str [99, 108, 101, 97, 114, 45, 97, 114, 101, 97], .str [105, 100, 52, 32, 120, 45, 50, 32, 121, 45, 50, 32, 119, 50, 32, 104, 50, 32, 101, 120, 112, 111, 115, 101, 49], .str [], .str [99, 111, 112, 121, 45, 97, 114, 101, 97], .str [115, 114, 99, 52, 32, 100, 115, 116, 52, 32, 112, 101, 110, 52, 32, 115, 120, 45, 50, 32, 115, 121, 45, 50, 32, 100, 120, 45, 50, 32, 100, 121, 45, 50, 32, 119, 50, 32, 104, 50, 32, 101, 120, 112, 111, 115, 101, 49], .str [], .str [100, 114, 97, 119, 45, 112, 111, 105, 110, 116, 115], .str [100, 115, 116, 52, 32, 112, 101, 110, 52, 32, 76, 45, 50], .str [], .str [100, 114, 97, 119, 45, 108, 105, 110, 101, 115], .str [100, 115, 116, 52, 32, 112, 101, 110, 52, 32, 76, 45, 50], .str []]
def lateT : PV := .agg [.str [], .str [], .str [], .str [], .str [], .str [], .str [], .str [], .str [], .str [], .str [], .str [], .str [], .str [], .str [], .str [], .str [], .str [], .str [], .str [], .str [], .str [], .str [], .str [], .str [], .str [], .str [], .str [], .str [], .str [], .str [], .str [], .str [], .str [], .str [], .str [], .str [], .str [], .str [], .str [], .str [], .str [], .str [], .str [], .str [], .str [], .str [], .str [], .str [], .str [], .str [], .str [], .str [], .str [], .str [], .str [], .str [], .str [], .str [], .str [], .str [], .str [], .str [], .str [], .str [], .str [], .str [], .str [], .str [], .str [], .str [], .str [], .str [], .str [], .str [], .str [], .str [], .str [], .str [], .str [], .str [], .str [], .str [], .str [], .str [], .str [], .str [], .str [], .str [], .str [], .str [102, 105, 108, 108, 45, 114, 101, 99, 116, 115], .str [100, 115, 116, 52, 32, 112, 101, 110, 52, 32, 76, 45, 50], .str [], .str [102, 105, 108, 108, 45, 112, 111, 108, 121], .str [100, 115, 116, 52, 32, 112, 101, 110, 52, 32, 114, 117, 108, 101, 49, 32, 76, 45, 50], .str [], .str [100, 114, 97, 119, 45, 97, 114, 99, 115], .str [100, 115, 116, 52, 32, 112, 101, 110, 52, 32, 76, 45, 50], .str [], .str [102, 105, 108, 108, 45, 97, 114, 99, 115], .str [100, 115, 116, 52, 32, 112, 101, 110, 52, 32, 76, 45, 50], .str [], .str [112, 117, 116, 45, 105, 109, 97, 103, 101], .str [100, 115, 116, 52, 32, 112, 101, 110, 52, 32, 120, 45, 50, 32, 121, 45, 50, 32, 119, 50, 32, 104, 50, 32, 66], .str [], .str [103, 101, 116, 45, 105, 109, 97, 103, 101], .str [115, 114, 99, 52, 32, 120, 45, 50, 32, 121, 45, 50, 32, 119, 50, 32, 104, 50], .str [119, 50, 32, 104, 50, 32, 66], .str [100, 114, 97, 119, 45, 116, 101, 120, 116], .str [100, 115, 116, 52, 32, 112, 101, 110, 52, 32, 120, 45, 50, 32, 121, 45, 50, 32, 111, 112, 97, 113, 117, 101, 49, 32, 66], .str [], .str [115, 101, 116, 45, 102, 111, 99, 117, 115], .str [105, 100, 52, 32, 114, 101, 118, 101, 114, 116, 49, 32, 116, 105, 109, 101, 52], .str [], .str [103, 101, 116, 45, 102, 111, 99, 117, 115], .str [], .str [105, 100, 52, 32, 114, 101, 118, 101, 114, 116, 49], .str [103, 114, 97, 98, 45, 112, 111, 105, 110, 116, 101, 114], .str [105, 100, 52, 32, 111, 119, 110, 101, 114, 49, 32, 101, 118, 101, 110, 116, 115, 52, 32, 112, 111, 105, 110, 116, 101, 114, 49, 32, 107, 101, 121, 98, 111, 97, 114, 100, 49, 32, 116, 105, 109, 101, 52], .str [115, 116, 97, 116, 117, 115, 49], .str [117, 110, 103, 114, 97, 98, 45, 112, 111, 105, 110, 116, 101, 114], .str [116, 105, 109, 101, 52], .str [], .str [103, 114, 97, 98, 45, 98, 117, 116, 116, 111, 110], .str [105, 100, 52, 32, 98, 117, 116, 116, 111, 110, 49, 32, 109, 111, 100, 115, 50, 32, 111, 119, 110, 101, 114, 49, 32, 101, 118, 101, 110, 116, 115, 52, 32, 112, 111, 105, 110, 116, 101, 114, 49, 32, 107, 101, 121, 98, 111, 97, 114, 100, 49], .str [], .str [117, 110, 103, 114, 97, 98, 45, 98, 117, 116, 116, 111, 110], .str [105, 100, 52, 32, 98, 117, 116, 116, 111, 110, 49, 32, 109, 111, 100, 115, 50], .str [], .str [103, 114, 97, 98, 45, 107, 101, 121, 98, 111, 97, 114, 100], .str [105, 100, 52, 32, 111, 119, 110, 101, 114, 49, 32, 112, 111, 105, 110, 116, 101, 114, 49, 32, 107, 101, 121, 98, 111, 97, 114, 100, 49, 32, 116, 105, 109, 101, 52], .str [115, 116, 97, 116, 117, 115, 49], .str [117, 110, 103, 114, 97, 98, 45, 107, 101, 121, 98, 111, 97, 114, 100], .str [116, 105, 109, 101, 52], .str [], .str [103, 114, 97, 98, 45, 107, 101, 121], .str [105, 100, 52, 32, 107, 101, 121, 49, 32, 109, 111, 100, 115, 50, 32, 111, 119, 110, 101, 114, 49, 32, 112, 111, 105, 110, 116, 101, 114, 49, 32, 107, 101, 121, 98, 111, 97, 114, 100, 49], .str [], .str [117, 110, 103, 114, 97, 98, 45, 107, 101, 121], .str [105, 100, 52, 32, 107, 101, 121, 49, 32, 109, 111, 100, 115, 50], .str [], .str [97, 108, 108, 111, 119, 45, 101, 118, 101, 110, 116, 115], .str [109, 111, 100, 101, 49, 32, 116, 105, 109, 101, 52], .str [], .str [113, 117, 101, 114, 121, 45, 112, 111, 105, 110, 116, 101, 114], .str [105, 100, 52], .str [99, 104, 105, 108, 100, 52, 32, 114, 111, 111, 116, 120, 45, 50, 32, 114, 111, 111, 116, 121, 45, 50, 32, 120, 45, 50, 32, 121, 45, 50, 32, 115, 116, 97, 116, 101, 50], .str [119, 97, 114, 112, 45, 112, 111, 105, 110, 116, 101, 114], .str [105, 100, 52, 32, 120, 45, 50, 32, 121, 45, 50], .str [], .str [115, 101, 116, 45, 115, 101, 108, 101, 99, 116, 105, 111, 110], .str [105, 100, 52, 32, 115, 101, 108, 101, 99, 116, 105, 111, 110, 52, 32, 116, 105, 109, 101, 52], .str [], .str [103, 101, 116, 45, 115, 101, 108, 101, 99, 116, 105, 111, 110], .str [115, 101, 108, 101, 99, 116, 105, 111, 110, 52], .str [105, 100, 52], .str [99, 111, 110, 118, 101, 114, 116, 45, 115, 101, 108, 101, 99, 116, 105, 111, 110], .str [114, 101, 113, 117, 101, 115, 116, 111, 114, 52, 32, 115, 101, 108, 101, 99, 116, 105, 111, 110, 52, 32, 116, 97, 114, 103, 101, 116, 52, 32, 112, 114, 111, 112, 101, 114, 116, 121, 52, 32, 116, 105, 109, 101, 52], .str [], .str [115, 101, 110, 100, 45, 101, 118, 101, 110, 116], .str [105, 100, 52, 32, 112, 97, 115, 115, 49, 32, 101, 118, 101, 110, 116, 115, 52, 32, 99, 111, 100, 101, 49, 32, 76, 52], .str [], .str [115, 97, 118, 101, 45, 119, 105, 110, 100, 111, 119], .str [105, 100, 52, 32, 109, 111, 100, 101, 49], .str [], .str [107, 105, 108, 108, 45, 99, 108, 105, 101, 110, 116], .str [105, 100, 52], .str [], .str [103, 114, 97, 98, 45, 115, 101, 114, 118, 101, 114], .str [], .str [], .str [117, 110, 103, 114, 97, 98, 45, 115, 101, 114, 118, 101, 114], .str [], .str [], .str [110, 111, 45, 111, 112], .str [], .str []]
theorem early_fs : Fsp Tryz.prog 98 [] 0 [] [] 0 earlyT := ranIsU mixed anyCl_ok (wbf := fun f => Nat.beq f 100 || Nat.beq f 104) (n := 60) (d := 10) (by kernel_rfl)
theorem late_fs : Fsp Tryz.prog 99 [] 0 [] [] 0 lateT := ranIsU mixed anyCl_ok (wbf := fun f => Nat.beq f 100 || Nat.beq f 104) (n := 60) (d := 10) (by kernel_rfl)
def cl1 : Cl := orCl anyCl (orCl fldCl (orCl (fnCl 98 (nullary earlyT)) (fnCl 99 (nullary lateT))))
theorem cl1_ok : cl1.Ok Tryz.prog := orCl_ok anyCl_ok (orCl_ok fldCl_ok (orCl_ok (nullary_ok early_fs) (nullary_ok late_fs)))
def reqT : List PV :=
 [.agg [.str [], .str [], .str []],
  .agg [.str [99, 114, 101, 97, 116, 101, 45, 119, 105, 110, 100, 111, 119], .str [105, 100, 52, 32, 112, 97, 114, 101, 110, 116, 52, 32, 120, 45, 50, 32, 121, 45, 50, 32, 119, 50, 32, 104, 50, 32, 98, 97, 99, 107, 49, 32, 98, 97, 99, 107, 105, 110, 103, 49, 32, 111, 118, 101, 114, 114, 105, 100, 101, 49], .str []],
  .agg [.str [100, 101, 115, 116, 114, 111, 121, 45, 119, 105, 110, 100, 111, 119], .str [105, 100, 52], .str []],
  .agg [.str [109, 97, 112, 45, 119, 105, 110, 100, 111, 119], .str [105, 100, 52], .str []],
  .agg [.str [117, 110, 109, 97, 112, 45, 119, 105, 110, 100, 111, 119], .str [105, 100, 52], .str []],
  .agg [.str [99, 111, 110, 102, 105, 103, 117, 114, 101, 45, 119, 105, 110, 100, 111, 119], .str [105, 100, 52, 32, 109, 97, 115, 107, 49, 32, 120, 45, 50, 32, 121, 45, 50, 32, 119, 50, 32, 104, 50, 32, 115, 105, 98, 108, 105, 110, 103, 52, 32, 109, 111, 100, 101, 49], .str []],
  .agg [.str [114, 101, 112, 97, 114, 101, 110, 116, 45, 119, 105, 110, 100, 111, 119], .str [105, 100, 52, 32, 112, 97, 114, 101, 110, 116, 52, 32, 120, 45, 50, 32, 121, 45, 50], .str []],
  .agg [.str [99, 104, 97, 110, 103, 101, 45, 119, 105, 110, 100, 111, 119], .str [105, 100, 52, 32, 109, 97, 115, 107, 50, 32, 98, 97, 99, 107, 49, 32, 103, 114, 97, 118, 105, 116, 121, 49, 32, 98, 105, 116, 115, 49, 32, 111, 118, 101, 114, 114, 105, 100, 101, 49, 32, 115, 116, 111, 112, 52, 32, 101, 118, 101, 110, 116, 115, 52], .str []],
  .agg [.str [115, 104, 97, 112, 101, 45, 119, 105, 110, 100, 111, 119], .str [105, 100, 52, 32, 115, 104, 97, 112, 101, 100, 49, 32, 76, 45, 50], .str []],
  .agg [.str [103, 101, 116, 45, 103, 101, 111, 109, 101, 116, 114, 121], .str [105, 100, 52], .str [112, 97, 114, 101, 110, 116, 52, 32, 120, 45, 50, 32, 121, 45, 50, 32, 119, 50, 32, 104, 50, 32, 109, 97, 112, 112, 101, 100, 49, 32, 118, 105, 101, 119, 97, 98, 108, 101, 49]],
  .agg [.str [113, 117, 101, 114, 121, 45, 116, 114, 101, 101], .str [105, 100, 52], .str [112, 97, 114, 101, 110, 116, 52, 32, 76, 52]],
  .agg [.str [105, 110, 116, 101, 114, 110, 45, 97, 116, 111, 109], .str [111, 110, 108, 121, 49, 32, 66], .str [97, 116, 111, 109, 52]],
  .agg [.str [97, 116, 111, 109, 45, 110, 97, 109, 101], .str [97, 116, 111, 109, 52], .str [66]],
  .agg [.str [99, 104, 97, 110, 103, 101, 45, 112, 114, 111, 112, 101, 114, 116, 121], .str [105, 100, 52, 32, 110, 97, 109, 101, 52, 32, 116, 121, 112, 101, 52, 32, 102, 111, 114, 109, 97, 116, 49, 32, 109, 111, 100, 101, 49, 32, 76, 52], .str []],
  .agg [.str [100, 101, 108, 101, 116, 101, 45, 112, 114, 111, 112, 101, 114, 116, 121], .str [105, 100, 52, 32, 110, 97, 109, 101, 52], .str []],
  .agg [.str [103, 101, 116, 45, 112, 114, 111, 112, 101, 114, 116, 121], .str [105, 100, 52, 32, 110, 97, 109, 101, 52, 32, 116, 121, 112, 101, 52, 32, 111, 102, 102, 115, 101, 116, 52, 32, 108, 101, 110, 103, 116, 104, 52, 32, 114, 101, 109, 111, 118, 101, 49], .str [116, 121, 112, 101, 52, 32, 102, 111, 114, 109, 97, 116, 49, 32, 108, 101, 102, 116, 52, 32, 76, 52]],
  .agg [.str [108, 105, 115, 116, 45, 112, 114, 111, 112, 101, 114, 116, 105, 101, 115], .str [105, 100, 52], .str [76, 52]],
  .agg [.str [99, 114, 101, 97, 116, 101, 45, 112, 105, 120, 109, 97, 112], .str [105, 100, 52, 32, 119, 50, 32, 104, 50, 32, 102, 105, 108, 108, 49], .str []],
  .agg [.str [102, 114, 101, 101, 45, 112, 105, 120, 109, 97, 112], .str [105, 100, 52], .str []],
  .agg [.str [99, 114, 101, 97, 116, 101, 45, 112, 101, 110], .str [105, 100, 52], .str []],
  .agg [.str [99, 104, 97, 110, 103, 101, 45, 112, 101, 110], .str [105, 100, 52, 32, 109, 97, 115, 107, 49, 32, 102, 117, 110, 99, 49, 32, 112, 108, 97, 110, 101, 115, 49, 32, 102, 111, 114, 101, 49, 32, 98, 97, 99, 107, 49, 32, 102, 111, 110, 116, 52], .str []],
  .agg [.str [99, 108, 105, 112, 45, 112, 101, 110], .str [105, 100, 52, 32, 120, 45, 50, 32, 121, 45, 50, 32, 99, 108, 105, 112, 112, 101, 100, 49, 32, 76, 45, 50], .str []],
  .agg [.str [102, 114, 101, 101, 45, 112, 101, 110], .str [105, 100, 52], .str []],
  .agg [.str [111, 112, 101, 110, 45, 102, 111, 110, 116], .str [105, 100, 52, 32, 66], .str []],
  .agg [.str [99, 108, 111, 115, 101, 45, 102, 111, 110, 116], .str [105, 100, 52], .str []],
  .agg [.str [113, 117, 101, 114, 121, 45, 102, 111, 110, 116], .str [105, 100, 52], .str [97, 115, 99, 101, 110, 116, 49, 32, 100, 101, 115, 99, 101, 110, 116, 49, 32, 76, 49]],
  .agg [.str [99, 108, 101, 97, 114, 45, 97, 114, 101, 97], .str [105, 100, 52, 32, 120, 45, 50, 32, 121, 45, 50, 32, 119, 50, 32, 104, 50, 32, 101, 120, 112, 111, 115, 101, 49], .str []],
  .agg [.str [99, 111, 112, 121, 45, 97, 114, 101, 97], .str [115, 114, 99, 52, 32, 100, 115, 116, 52, 32, 112, 101, 110, 52, 32, 115, 120, 45, 50, 32, 115, 121, 45, 50, 32, 100, 120, 45, 50, 32, 100, 121, 45, 50, 32, 119, 50, 32, 104, 50, 32, 101, 120, 112, 111, 115, 101, 49], .str []],
  .agg [.str [100, 114, 97, 119, 45, 112, 111, 105, 110, 116, 115], .str [100, 115, 116, 52, 32, 112, 101, 110, 52, 32, 76, 45, 50], .str []],
  .agg [.str [100, 114, 97, 119, 45, 108, 105, 110, 101, 115], .str [100, 115, 116, 52, 32, 112, 101, 110, 52, 32, 76, 45, 50], .str []],
  .agg [.str [102, 105, 108, 108, 45, 114, 101, 99, 116, 115], .str [100, 115, 116, 52, 32, 112, 101, 110, 52, 32, 76, 45, 50], .str []],
  .agg [.str [102, 105, 108, 108, 45, 112, 111, 108, 121], .str [100, 115, 116, 52, 32, 112, 101, 110, 52, 32, 114, 117, 108, 101, 49, 32, 76, 45, 50], .str []],
  .agg [.str [100, 114, 97, 119, 45, 97, 114, 99, 115], .str [100, 115, 116, 52, 32, 112, 101, 110, 52, 32, 76, 45, 50], .str []],
  .agg [.str [102, 105, 108, 108, 45, 97, 114, 99, 115], .str [100, 115, 116, 52, 32, 112, 101, 110, 52, 32, 76, 45, 50], .str []],
  .agg [.str [112, 117, 116, 45, 105, 109, 97, 103, 101], .str [100, 115, 116, 52, 32, 112, 101, 110, 52, 32, 120, 45, 50, 32, 121, 45, 50, 32, 119, 50, 32, 104, 50, 32, 66], .str []],
  .agg [.str [103, 101, 116, 45, 105, 109, 97, 103, 101], .str [115, 114, 99, 52, 32, 120, 45, 50, 32, 121, 45, 50, 32, 119, 50, 32, 104, 50], .str [119, 50, 32, 104, 50, 32, 66]],
  .agg [.str [100, 114, 97, 119, 45, 116, 101, 120, 116], .str [100, 115, 116, 52, 32, 112, 101, 110, 52, 32, 120, 45, 50, 32, 121, 45, 50, 32, 111, 112, 97, 113, 117, 101, 49, 32, 66], .str []],
  .agg [.str [115, 101, 116, 45, 102, 111, 99, 117, 115], .str [105, 100, 52, 32, 114, 101, 118, 101, 114, 116, 49, 32, 116, 105, 109, 101, 52], .str []],
  .agg [.str [103, 101, 116, 45, 102, 111, 99, 117, 115], .str [], .str [105, 100, 52, 32, 114, 101, 118, 101, 114, 116, 49]],
  .agg [.str [103, 114, 97, 98, 45, 112, 111, 105, 110, 116, 101, 114], .str [105, 100, 52, 32, 111, 119, 110, 101, 114, 49, 32, 101, 118, 101, 110, 116, 115, 52, 32, 112, 111, 105, 110, 116, 101, 114, 49, 32, 107, 101, 121, 98, 111, 97, 114, 100, 49, 32, 116, 105, 109, 101, 52], .str [115, 116, 97, 116, 117, 115, 49]],
  .agg [.str [117, 110, 103, 114, 97, 98, 45, 112, 111, 105, 110, 116, 101, 114], .str [116, 105, 109, 101, 52], .str []],
  .agg [.str [103, 114, 97, 98, 45, 98, 117, 116, 116, 111, 110], .str [105, 100, 52, 32, 98, 117, 116, 116, 111, 110, 49, 32, 109, 111, 100, 115, 50, 32, 111, 119, 110, 101, 114, 49, 32, 101, 118, 101, 110, 116, 115, 52, 32, 112, 111, 105, 110, 116, 101, 114, 49, 32, 107, 101, 121, 98, 111, 97, 114, 100, 49], .str []],
  .agg [.str [117, 110, 103, 114, 97, 98, 45, 98, 117, 116, 116, 111, 110], .str [105, 100, 52, 32, 98, 117, 116, 116, 111, 110, 49, 32, 109, 111, 100, 115, 50], .str []],
  .agg [.str [103, 114, 97, 98, 45, 107, 101, 121, 98, 111, 97, 114, 100], .str [105, 100, 52, 32, 111, 119, 110, 101, 114, 49, 32, 112, 111, 105, 110, 116, 101, 114, 49, 32, 107, 101, 121, 98, 111, 97, 114, 100, 49, 32, 116, 105, 109, 101, 52], .str [115, 116, 97, 116, 117, 115, 49]],
  .agg [.str [117, 110, 103, 114, 97, 98, 45, 107, 101, 121, 98, 111, 97, 114, 100], .str [116, 105, 109, 101, 52], .str []],
  .agg [.str [103, 114, 97, 98, 45, 107, 101, 121], .str [105, 100, 52, 32, 107, 101, 121, 49, 32, 109, 111, 100, 115, 50, 32, 111, 119, 110, 101, 114, 49, 32, 112, 111, 105, 110, 116, 101, 114, 49, 32, 107, 101, 121, 98, 111, 97, 114, 100, 49], .str []],
  .agg [.str [117, 110, 103, 114, 97, 98, 45, 107, 101, 121], .str [105, 100, 52, 32, 107, 101, 121, 49, 32, 109, 111, 100, 115, 50], .str []],
  .agg [.str [97, 108, 108, 111, 119, 45, 101, 118, 101, 110, 116, 115], .str [109, 111, 100, 101, 49, 32, 116, 105, 109, 101, 52], .str []],
  .agg [.str [113, 117, 101, 114, 121, 45, 112, 111, 105, 110, 116, 101, 114], .str [105, 100, 52], .str [99, 104, 105, 108, 100, 52, 32, 114, 111, 111, 116, 120, 45, 50, 32, 114, 111, 111, 116, 121, 45, 50, 32, 120, 45, 50, 32, 121, 45, 50, 32, 115, 116, 97, 116, 101, 50]],
  .agg [.str [119, 97, 114, 112, 45, 112, 111, 105, 110, 116, 101, 114], .str [105, 100, 52, 32, 120, 45, 50, 32, 121, 45, 50], .str []],
  .agg [.str [115, 101, 116, 45, 115, 101, 108, 101, 99, 116, 105, 111, 110], .str [105, 100, 52, 32, 115, 101, 108, 101, 99, 116, 105, 111, 110, 52, 32, 116, 105, 109, 101, 52], .str []],
  .agg [.str [103, 101, 116, 45, 115, 101, 108, 101, 99, 116, 105, 111, 110], .str [115, 101, 108, 101, 99, 116, 105, 111, 110, 52], .str [105, 100, 52]],
  .agg [.str [99, 111, 110, 118, 101, 114, 116, 45, 115, 101, 108, 101, 99, 116, 105, 111, 110], .str [114, 101, 113, 117, 101, 115, 116, 111, 114, 52, 32, 115, 101, 108, 101, 99, 116, 105, 111, 110, 52, 32, 116, 97, 114, 103, 101, 116, 52, 32, 112, 114, 111, 112, 101, 114, 116, 121, 52, 32, 116, 105, 109, 101, 52], .str []],
  .agg [.str [115, 101, 110, 100, 45, 101, 118, 101, 110, 116], .str [105, 100, 52, 32, 112, 97, 115, 115, 49, 32, 101, 118, 101, 110, 116, 115, 52, 32, 99, 111, 100, 101, 49, 32, 76, 52], .str []],
  .agg [.str [115, 97, 118, 101, 45, 119, 105, 110, 100, 111, 119], .str [105, 100, 52, 32, 109, 111, 100, 101, 49], .str []],
  .agg [.str [107, 105, 108, 108, 45, 99, 108, 105, 101, 110, 116], .str [105, 100, 52], .str []],
  .agg [.str [103, 114, 97, 98, 45, 115, 101, 114, 118, 101, 114], .str [], .str []],
  .agg [.str [117, 110, 103, 114, 97, 98, 45, 115, 101, 114, 118, 101, 114], .str [], .str []],
  .agg [.str [110, 111, 45, 111, 112], .str [], .str []]]
theorem reqT_ok : (fnCl 81 (atInt reqT)).Ok Tryz.prog := atInt_ok mixed cl1_ok (wbf := fun f => Nat.beq f 100 || Nat.beq f 104) (n := 60) (d := 10) (by kernel_rfl)
def cl2 : Cl := orCl anyCl (orCl fldCl (fnCl 81 (atInt reqT)))
theorem cl2_ok : cl2.Ok Tryz.prog := orCl_ok anyCl_ok (orCl_ok fldCl_ok reqT_ok)
def formL : List Fm :=
 [⟨[4, 4, (-2), (-2), 2, 2, 1, 1, 1], false, 0⟩,
  ⟨[4], false, 0⟩,
  ⟨[4], false, 0⟩,
  ⟨[4], false, 0⟩,
  ⟨[4, 1, (-2), (-2), 2, 2, 4, 1], false, 0⟩,
  ⟨[4, 4, (-2), (-2)], false, 0⟩,
  ⟨[4, 2, 1, 1, 1, 1, 4, 4], false, 0⟩,
  ⟨[4, 1], false, (-2)⟩,
  ⟨[4], false, 0⟩,
  ⟨[4], false, 0⟩,
  ⟨[1], true, 0⟩,
  ⟨[4], false, 0⟩,
  ⟨[4, 4, 4, 1, 1], false, 4⟩,
  ⟨[4, 4], false, 0⟩,
  ⟨[4, 4, 4, 4, 4, 1], false, 0⟩,
  ⟨[4], false, 0⟩,
  ⟨[4, 2, 2, 1], false, 0⟩,
  ⟨[4], false, 0⟩,
  ⟨[4], false, 0⟩,
  ⟨[4, 1, 1, 1, 1, 1, 4], false, 0⟩,
  ⟨[4, (-2), (-2), 1], false, (-2)⟩,
  ⟨[4], false, 0⟩,
  ⟨[4], true, 0⟩,
  ⟨[4], false, 0⟩,
  ⟨[4], false, 0⟩,
  ⟨[4, (-2), (-2), 2, 2, 1], false, 0⟩,
  ⟨[4, 4, 4, (-2), (-2), (-2), (-2), 2, 2, 1], false, 0⟩,
  ⟨[4, 4], false, (-2)⟩,
  ⟨[4, 4], false, (-2)⟩,
  ⟨[4, 4], false, (-2)⟩,
  ⟨[4, 4, 1], false, (-2)⟩,
  ⟨[4, 4], false, (-2)⟩,
  ⟨[4, 4], false, (-2)⟩,
  ⟨[4, 4, (-2), (-2), 2, 2], true, 0⟩,
  ⟨[4, (-2), (-2), 2, 2], false, 0⟩,
  ⟨[4, 4, (-2), (-2), 1], true, 0⟩,
  ⟨[4, 1, 4], false, 0⟩,
  ⟨[], false, 0⟩,
  ⟨[4, 1, 4, 1, 1, 4], false, 0⟩,
  ⟨[4], false, 0⟩,
  ⟨[4, 1, 2, 1, 4, 1, 1], false, 0⟩,
  ⟨[4, 1, 2], false, 0⟩,
  ⟨[4, 1, 1, 1, 4], false, 0⟩,
  ⟨[4], false, 0⟩,
  ⟨[4, 1, 2, 1, 1, 1], false, 0⟩,
  ⟨[4, 1, 2], false, 0⟩,
  ⟨[1, 4], false, 0⟩,
  ⟨[4], false, 0⟩,
  ⟨[4, (-2), (-2)], false, 0⟩,
  ⟨[4, 4, 4], false, 0⟩,
  ⟨[4], false, 0⟩,
  ⟨[4, 4, 4, 4, 4], false, 0⟩,
  ⟨[4, 1, 4, 1], false, 4⟩,
  ⟨[4, 1], false, 0⟩,
  ⟨[4], false, 0⟩,
  ⟨[], false, 0⟩,
  ⟨[], false, 0⟩,
  ⟨[], false, 0⟩]
def form0 : PV := .tup [.agg [.sl 1 [], .bool false, .int .i64 0], .bool false]
def formT (f : Fm) : PV := .tup [f.pv, .bool true]
theorem formL_len : formL.length = 58 := by rfl
theorem formL_ran : ranAllF Tryz.prog cl2 (fun f => Nat.beq f 100 || Nat.beq f 104) 60 10 57 (form0 :: formL.map formT) 0 = true := by kernel_rfl
def formOf (n : Int) : Option Fm := if 1 ≤ n ∧ n ≤ 58 then formL[(n - 1).toNat]? else none
def formR (n : Int) : PV := match formOf n with | some f => formT f | none => form0
theorem ez_e : aggEq Tryz.prog 144 [.str [], .str [], .str []] [.str [], .str [], .str []] = some true := by kernel_rfl
theorem kt_e : Tryz.prog.keyTypeAt 12 144 = true := by kernel_rfl
theorem eg_e : Tryz.prog.eqGuardType Tryz.prog.depth 144 = false := by kernel_rfl
theorem request_out (n : Int) (h : ¬ (1 ≤ n ∧ n ≤ 58)) : Fsp Tryz.prog 81 [] 0 [.int .i64 n] [] 0 (.agg [.str [], .str [], .str []]) := by
 rcases Int.lt_or_le n 1 with h1 | h1
 ·have hd : decide (n < 1) = true := by simpa using h1
  (refine Fsp.ofs (nx := 0) mixed Tryz.func81 rfl (by simp [Tryz.f81]) ?_; simp -implicitDefEqProofs only [push_cast, Tryz.f81, hd, seval])
 ·have hd : decide (n < 1) = false := by simp; omega
  have hd2 : decide (58 < n) = true := by simp; omega
  (refine Fsp.ofs (nx := 0) mixed Tryz.func81 rfl (by simp [Tryz.f81]) ?_; simp -implicitDefEqProofs only [push_cast, Tryz.f81, hd, hd2, seval])
theorem request_fs (n : Int) : Fsp Tryz.prog 57 [] 0 [.int .i64 n] [] 0 (formR n) := by
 by_cases h : 1 ≤ n ∧ n ≤ 58
 ·obtain ⟨k, rfl⟩ : ∃ k : Nat, n = (k : Int) := ⟨n.toNat, by omega⟩
  have hlt : k - 1 < formL.length := by rw [formL_len]; omega
  have hk : (form0 :: formL.map formT)[k]? = some (formT formL[k - 1]) := by
   obtain ⟨j, rfl⟩ : ∃ j, k = j + 1 := ⟨k - 1, by omega⟩
   rw [List.getElem?_cons_succ, List.getElem?_map, List.getElem?_eq_getElem (by simpa using hlt)]
   rfl
  have := ranAllF_at mixed cl2_ok formL_ran hk
  rw [Nat.zero_add] at this
  have e : formR (k : Int) = formT formL[k - 1] := by
   have e2 : formOf (k : Int) = some formL[k - 1] := by
    rw [formOf, if_pos h, show ((k : Int) - 1).toNat = k - 1 by omega, List.getElem?_eq_getElem hlt]
   rw [formR, e2]
  rw [e]; exact this
 ·have e : formR n = form0 := by rw [formR, formOf, if_neg h]
  rw [e]
  have hq := request_out n h
  (refine Fsp.ofs (nx := 0) mixed Tryz.func57 rfl (by simp [Tryz.f57]) ?_; simp -implicitDefEqProofs only [push_cast, Tryz.f57, seval])
  refine callE_p hq ?_
  simp -implicitDefEqProofs only [push_cast, ez_e, kt_e, eg_e, seval]
  exact ⟨_, rfl, .inr ⟨_, rfl, .inr ⟨.inl rfl, rfl⟩, rfl, rfl, trivial⟩, rfl, trivial⟩
def fmOk (f : Fm) : Bool := decide (f.F.length ≤ 16) && (f.F.all fun s => s == 1 || s == 2 || s == 4 || s == -1 || s == -2 || s == -4) && (f.L == 0 || (f.L == 1 || f.L == 2 || f.L == 4 || f.L == -1 || f.L == -2 || f.L == -4))
theorem fmOk_ok {f : Fm} (h : fmOk f = true) : f.Ok := by
 simp only [fmOk, Bool.and_eq_true, decide_eq_true_eq, List.all_eq_true, Bool.or_eq_true, beq_iff_eq] at h
 obtain ⟨⟨h1, h2⟩, h3⟩ := h
 refine ⟨h1, fun x hx => ?_, ?_⟩
 ·have := h2 x hx; unfold isSize; omega
 ·unfold isSize; omega
theorem formL_all : formL.all fmOk = true := by decide +kernel
theorem formOf_some {n : Int} {f : Fm} (h : formOf n = some f) : f.Ok ∧ 1 ≤ n ∧ n ≤ 58 := by
 unfold formOf at h
 split at h
 ·rename_i hn
  exact ⟨fmOk_ok (List.all_eq_true.1 formL_all f (List.mem_of_getElem? h)), hn⟩
 ·cases h
end Go.Proofs.Sh
set_option maxRecDepth 100000
set_option linter.unusedSimpArgs false
set_option linter.unusedVariables false
namespace Go.Proofs.Sh
open Go.Pv
structure Rq where
 C : Int
 N : List Int
 B : List UInt8
 L : List Int
def Rq.fd (r : Rq) : Fd := ⟨r.N, r.B, r.L⟩
def Rq.pv (r : Rq) : PV := .agg [.int .i64 r.C, .sl 1 (ints r.N), .str r.B, .sl 1 (ints r.L)]
structure Rq.Few (r : Rq) : Prop where
 n : r.N.length ≤ 1000000000000000
 b : r.B.length ≤ 1000000000000000
 l : r.L.length ≤ 1000000000000000
def isOrd (o : Int) : Bool := o == 0 || o == 1
theorem isOrd_of {o : Int} (h : isOrd o = true) : isOrder o := by simpa [isOrd, isOrder] using h
def hd (o C : Int) (n : Nat) : List UInt8 := encB o 1 C ++ encB o 1 0 ++ encB o 2 (n : Int)
def packS (o : Int) (r : Rq) : List UInt8 × Int :=
 if isOrd o = true then
  match formOf r.C with
  | none => ([], 10)
  | some f =>
   if (fitsE f r.fd != 0) = true then ([], fitsE f r.fd)
   else if decide ((65536 : Int) < (fmt o f r.fd).length + 4) = true then ([], 4)
   else (hd o r.C ((fmt o f r.fd).length / 4 + 1) ++ fmt o f r.fd, 0)
 else ([], 8)
def packR (o : Int) (r : Rq) : PV := .tup [.str (packS o r).1, .int .i64 (packS o r).2]
theorem pknown_fs (o : Int) : Fsp Tryz.prog 56 [] 0 [.int .i64 o] [] 0 (.bool (isOrd o)) := by
 cases h0 : (o == 0)
 ·(refine Fsp.ofs (nx := 0) mixed Tryz.func56 rfl (by simp [Tryz.f56]) ?_; simp -implicitDefEqProofs only [push_cast, Tryz.f56, h0, seval])
  simp [isOrd, h0]
 ·(refine Fsp.ofs (nx := 0) mixed Tryz.func56 rfl (by simp [Tryz.f56]) ?_; simp -implicitDefEqProofs only [push_cast, Tryz.f56, h0, seval])
  simp [isOrd, h0]
theorem sum_fs (a b : List UInt8) (h : a.length + b.length ≤ 1000000000) : Fsp Tryz.prog 60 [] 0 [.sl 1 [.str a, .str b]] [] 0 (.int .i64 (a.length + b.length : Nat)) := by
 (refine Fsp.ofs (nx := 0) mixed Tryz.func60 rfl (by simp [Tryz.f60]) ?_; simp -implicitDefEqProofs only [push_cast, Tryz.f60, seval])
 refine loopC_un 3 ?_
 simp -implicitDefEqProofs only [push_cast, seval]
 rw [Int.zero_add, wrap_i64_id (n := (a.length : Int)) (by omega) (by omega), wrap_i64_id (by omega) (by omega)]
 try omega
theorem putS_2 {o : Int} {n : Nat} (h : n ≤ 65535) : putS o 2 (n : Int) = encB o 2 (n : Int) ∧ putE 2 (n : Int) = 0 := by
 have hf : fitsN 2 (n : Int) = true := by simp [fitsN, low, high]; omega
 rw [putS, putE, if_pos hf, if_pos hf]
 exact ⟨rfl, rfl⟩
theorem rowS_1 {o C : Int} (h0 : 1 ≤ C) (h1 : C ≤ 58) : rowS o C 0 = encB o 1 C ++ encB o 1 0 ∧ rowE C 0 = 0 := by
 have hf : (fitsN 1 C && fitsN 1 0) = true := by simp [fitsN, low, high]; omega
 rw [rowS, rowE, if_pos hf, if_pos hf]
 exact ⟨rfl, rfl⟩
theorem packS_some {o : Int} {r : Rq} {f : Fm} (ho : isOrd o = true) (hf : formOf r.C = some f) : packS o r =
 if (fitsE f r.fd != 0) = true then ([], fitsE f r.fd)
 else if decide ((65536 : Int) < (fmt o f r.fd).length + 4) = true then ([], 4)
 else (hd o r.C ((fmt o f r.fd).length / 4 + 1) ++ fmt o f r.fd, 0) := by
 rw [packS, if_pos ho]
 split
 ·rename_i h; rw [hf] at h; cases h
 ·rename_i f' h; rw [hf] at h; cases h; rfl
theorem packS_err {o : Int} {r : Rq} {f : Fm} (ho : isOrd o = true) (hf : formOf r.C = some f) (hE : (fitsE f r.fd != 0) = true) : packS o r = ([], fitsE f r.fd) := by rw [packS_some ho hf, if_pos hE]
theorem packS_big {o : Int} {r : Rq} {f : Fm} (ho : isOrd o = true) (hf : formOf r.C = some f) (hE : (fitsE f r.fd != 0) = false) (h : (65536 : Int) < (fmt o f r.fd).length + 4) : packS o r = ([], 4) := by
 rw [packS_some ho hf, if_neg (by rw [hE]; simp), if_pos (by simpa using h)]
theorem packS_ok {o : Int} {r : Rq} {f : Fm} (ho : isOrd o = true) (hf : formOf r.C = some f) (hE : (fitsE f r.fd != 0) = false) (h : (fmt o f r.fd).length + 4 ≤ 65536) :
 packS o r = (hd o r.C ((fmt o f r.fd).length / 4 + 1) ++ fmt o f r.fd, 0) := by
 rw [packS_some ho hf, if_neg (by rw [hE]; simp), if_neg (by simp; omega)]
set_option maxHeartbeats 2000000 in
theorem packPut_fs (o : Int) (r : Rq) (hr : r.Few) : Fsp Tryz.prog 32 [] 0 [.int .i64 o, r.pv] [] 0 (packR o r) := by
 have hk := pknown_fs o
 (refine Fsp.ofs (nx := 0) mixed Tryz.func32 rfl (by simp [Tryz.f32]) ?_; simp -implicitDefEqProofs only [push_cast, Tryz.f32, Rq.pv, seval])
 refine callE_p hk ?_
 cases ho : isOrd o
 ·simp -implicitDefEqProofs only [push_cast, ho, seval]
  simp [packR, packS, ho, wkL, res2, res1, PV.weak, PV.el]
 ·have hor := isOrd_of ho
  have hq := request_fs r.C
  simp -implicitDefEqProofs only [push_cast, ho, seval]
  cases hf : formOf r.C with
  | none =>
   rw [formR, hf] at hq
   simp only [form0] at hq
   refine callE_p hq ?_
   simp -implicitDefEqProofs only [push_cast, seval]
   simp [packR, packS, ho, hf, wkL, res2, res1, PV.weak, PV.el]
  | some f =>
   rw [formR, hf] at hq
   simp only [formT, Fm.pv] at hq
   obtain ⟨hok, hc1, hc2⟩ := formOf_some hf
   have hm := format_fs hor f hok r.fd hr.n hr.l hr.b
   simp only [Fm.pv, Fd.pv] at hm
   refine callE_p hq ?_
   simp -implicitDefEqProofs only [push_cast, seval]
   cases hE : (fitsE f r.fd != 0)
   ·cases hM : decide ((65536 : Int) < (fmt o f r.fd).length)
    ·rw [fmtR, if_neg (by rw [hE]; simp), if_neg (by rw [hM]; simp)] at hm
     have hfl : (fmt o f r.fd).length ≤ 65536 := by simp at hM; omega
     have hrw := row_fs hor r.C 0
     rw [(rowS_1 hc1 hc2).1, (rowS_1 (o := o) hc1 hc2).2] at hrw
     have hr2 : (encB o 1 r.C ++ encB o 1 0).length = 2 := by simp [encB_length]
     have hsm := sum_fs (encB o 1 r.C ++ encB o 1 0) (fmt o f r.fd) (by omega)
     have hpb := packS_big ho hf hE
     have hpo := packS_ok ho hf hE
     generalize hX : fmt o f r.fd = X at *
     generalize hH : encB o 1 r.C ++ encB o 1 0 = H at *
     refine callE_p hm ?_
     simp -implicitDefEqProofs only [push_cast, seval]
     refine callE_p hrw ?_
     simp -implicitDefEqProofs only [push_cast, seval]
     refine callE_p hsm ?_
     simp -implicitDefEqProofs only [push_cast, seval]
     rw [show IntKind.i64.wrap ((H.length : Int) + (X.length : Int) + 2) = (X.length : Int) + 4 by rw [wrap_i64_id (by omega) (by omega)]; omega]
     refine condC_split (fun h5 => ?_) (fun h5 => ?_)
     ·simp -implicitDefEqProofs only [push_cast, seval]
      rw [packR, hpb (by simpa using h5)]
      exact ⟨_, rfl, by simp [wkL, res2, res1, PV.weak, PV.el]⟩
     ·have h5' : X.length + 4 ≤ 65536 := by simp at h5; omega
      have hpt := put_fs hor (s := 2) (by unfold isSize; omega) ((X.length / 4 + 1 : Nat) : Int)
      rw [(putS_2 (o := o) (n := X.length / 4 + 1) (by omega)).1, (putS_2 (o := o) (n := X.length / 4 + 1) (by omega)).2] at hpt
      have hq4 : IntKind.i64.wrap (Int.tdiv ((X.length : Int) + 4) 4) = ((X.length / 4 + 1 : Nat) : Int) := by
       rw [Int.tdiv_eq_ediv_of_nonneg (by omega), wrap_i64_id (by omega) (by omega)]; omega
      simp -implicitDefEqProofs only [push_cast, hq4, seval]
      refine callE_p hpt ?_
      simp -implicitDefEqProofs only [push_cast, seval]
      rw [packR, hpo (by omega), hd, hH, show (((X.length / 4 + 1 : Nat)) : Int) = (X.length : Int) / 4 + 1 by omega]
      have he2 := encB_length o 2 ((X.length : Int) / 4 + 1)
      (repeat (refine ⟨by first | omega | (simp only [List.length_append]; omega), ?_⟩))
      exact ⟨_, rfl, by simp [wkL, res2, res1, PV.weak, PV.el]⟩
    ·rw [fmtR, if_neg (by rw [hE]; simp), if_pos hM] at hm
     have hps := packS_big ho hf hE (by simp at hM; omega)
     refine callE_p hm ?_
     simp -implicitDefEqProofs only [push_cast, seval]
     rw [packR, hps]
     exact ⟨_, rfl, by simp [wkL, res2, res1, PV.weak, PV.el]⟩
   ·rw [fmtR, if_pos hE] at hm
    have hps := packS_err ho hf hE
    refine callE_p hm ?_
    simp -implicitDefEqProofs only [push_cast, hE, seval]
    rw [packR, hps]
    exact ⟨_, rfl, by simp [wkL, res2, res1, PV.weak, PV.el]⟩
end Go.Proofs.Sh
set_option maxRecDepth 100000
set_option linter.unusedSimpArgs false
set_option linter.unusedVariables false
namespace Go.Proofs.Sh
open Go.Pv
def lenN (o : Int) (s : List UInt8) : Nat := decU o ((s.drop 2).take 2)
def lenR (o : Int) (s : List UInt8) : Int × Int :=
 if isOrd o = true then
  if s.length < 4 then (0, 3) else if lenN o s = 0 then (0, 13) else if 16384 < lenN o s then (0, 4) else (((4 * lenN o s : Nat) : Int), 0)
 else (0, 8)
theorem two_of {s : List UInt8} (h : 4 ≤ s.length) : (s.drop 2).take 2 = [s.getD 2 0, s.getD 3 0] := by
 match s, h with
 | _ :: _ :: x :: y :: r, _ => rfl
theorem lenN_0 {s : List UInt8} (h : 4 ≤ s.length) : lenN 0 s = (s.getD 2 0).toNat + 256 * (s.getD 3 0).toNat := by
 rw [lenN, two_of h]; simp [decU, little]
theorem lenN_1 {s : List UInt8} (h : 4 ≤ s.length) : lenN 1 s = (s.getD 3 0).toNat + 256 * (s.getD 2 0).toNat := by
 rw [lenN, two_of h]; simp [decU, little]
theorem lenN_lt {o : Int} {s : List UInt8} (h : 4 ≤ s.length) : lenN o s < 65536 := by
 have := decU_lt o ((s.drop 2).take 2)
 rw [two_of h] at this
 rw [lenN, two_of h]
 exact this
set_option maxHeartbeats 2000000 in
theorem packLen_fs (o : Int) (s : List UInt8) : Fsp Tryz.prog 33 [] 0 [.int .i64 o, .str s] [] 0 (.tup [.int .i64 (lenR o s).1, .int .i64 (lenR o s).2]) := by
 have hk := pknown_fs o
 cases ho : isOrd o
 ·rw [ho] at hk
  rw [show lenR o s = (0, 8) by rw [lenR, if_neg (by rw [ho]; simp)]]
  (refine Fsp.ofs (nx := 0) mixed Tryz.func33 rfl (by simp [Tryz.f33]) ?_; simp -implicitDefEqProofs only [push_cast, Tryz.f33, seval])
  refine callE_p hk ?_
  simp -implicitDefEqProofs only [push_cast, seval]
  all_goals simp [wkL, res2, res1, PV.weak, PV.el]
 ·rw [ho] at hk
  have hor := isOrd_of ho
  cases h1 : decide ((s.length : Int) < 4)
  ·have h1' : 4 ≤ s.length := by simp at h1; omega
   have hn := lenN_lt (o := o) h1'
   have hlen : ((s.drop 2).take 2).length = wid 2 := by rw [two_of h1']; rfl
   have hg := get_fs hor (s := 2) (by unfold isSize; omega) ((s.drop 2).take 2)
   rw [show getV o 2 ((s.drop 2).take 2) = (lenN o s : Int) by
    rw [getV, if_pos hlen, readV, if_neg (by simp only [decide_eq_true_eq]; rw [show high 2 = 65535 by decide]; show ¬ (65535 : Int) < ((lenN o s : Nat) : Int); omega)]; rfl, show getE 2 ((s.drop 2).take 2) = 0 by rw [getE, if_neg (by omega), if_neg (by omega)]] at hg
   have hL : lenR o s = if lenN o s = 0 then (0, 13) else if 16384 < lenN o s then (0, 4) else (((4 * lenN o s : Nat) : Int), 0) := by
    rw [lenR, if_pos ho, if_neg (by omega)]
   rw [hL]
   have hw : IntKind.i64.wrap (4 * (lenN o s : Int)) = 4 * (lenN o s : Int) := by rw [wrap_i64_id (by omega) (by omega)]
   generalize lenN o s = n at *
   cases h2 : ((n : Int) == 0)
   ·have h2' : ¬ n = 0 := by simp at h2; omega
    rw [if_neg h2']
    cases h3 : decide ((65536 : Int) < 4 * (n : Int))
    ·have h3' : ¬ 16384 < n := by simp at h3; omega
     rw [if_neg h3']
     (refine Fsp.ofs (nx := 0) mixed Tryz.func33 rfl (by simp [Tryz.f33]) ?_; simp -implicitDefEqProofs only [push_cast, Tryz.f33, seval])
     refine callE_p hk ?_
     simp -implicitDefEqProofs only [push_cast, h1, seval]
     (repeat (first | refine ⟨by omega, ?_⟩ | refine ⟨by (unfold drawOk; kernel_rfl), ?_⟩))
     refine callE_p hg ?_
     simp -implicitDefEqProofs only [push_cast, h2, h3, hw, seval]
     all_goals simp [wkL, res2, res1, PV.weak, PV.el]
    ·have h3' : 16384 < n := by simp at h3; omega
     rw [if_pos h3']
     (refine Fsp.ofs (nx := 0) mixed Tryz.func33 rfl (by simp [Tryz.f33]) ?_; simp -implicitDefEqProofs only [push_cast, Tryz.f33, seval])
     refine callE_p hk ?_
     simp -implicitDefEqProofs only [push_cast, h1, seval]
     (repeat (first | refine ⟨by omega, ?_⟩ | refine ⟨by (unfold drawOk; kernel_rfl), ?_⟩))
     refine callE_p hg ?_
     simp -implicitDefEqProofs only [push_cast, h2, h3, hw, seval]
     all_goals simp [wkL, res2, res1, PV.weak, PV.el]
   ·have h2' : n = 0 := by simp at h2; omega
    rw [if_pos h2']
    (refine Fsp.ofs (nx := 0) mixed Tryz.func33 rfl (by simp [Tryz.f33]) ?_; simp -implicitDefEqProofs only [push_cast, Tryz.f33, seval])
    refine callE_p hk ?_
    simp -implicitDefEqProofs only [push_cast, h1, seval]
    (repeat (first | refine ⟨by omega, ?_⟩ | refine ⟨by (unfold drawOk; kernel_rfl), ?_⟩))
    refine callE_p hg ?_
    simp -implicitDefEqProofs only [push_cast, h2, seval]
    all_goals simp [wkL, res2, res1, PV.weak, PV.el]
  ·have h1' : s.length < 4 := by simp at h1; omega
   rw [show lenR o s = (0, 3) by rw [lenR, if_pos ho, if_pos h1']]
   (refine Fsp.ofs (nx := 0) mixed Tryz.func33 rfl (by simp [Tryz.f33]) ?_; simp -implicitDefEqProofs only [push_cast, Tryz.f33, seval])
   refine callE_p hk ?_
   simp -implicitDefEqProofs only [push_cast, h1, seval]
   all_goals simp [wkL, res2, res1, PV.weak, PV.el]
theorem wb (x : UInt8) : IntKind.i64.wrap (x.toNat : Int) = (x.toNat : Int) := by
 have := x.toNat_lt
 rw [wrap_i64_id (by omega) (by omega)]
end Go.Proofs.Sh
