/- strings.Builder: Len, WriteByte, WriteString. -/
import Derived.Test.YtplaaagcbleflaaDoorShTypes
import Derived.Test.YtplaaagcbleflaaDoorPvYa
import Derived.Test.YtplaaagcbleflaaDoorPkPlain
set_option maxRecDepth 100000
set_option linter.unusedSimpArgs false
set_option linter.unusedVariables false
namespace Go.Proofs.Sh
open Go.Pv


theorem len_fs (l : List UInt8) : Fsp Tryd.prog 66 [[.nbp 116 0, .bsl 5 (bs l) 0]] 1 [.box 0 0] [[.nbp 116 0, .bsl 5 (bs l) 0]] 1 (.int .i64 l.length) := by
  (refine Fsp.of (nx := 1) mixed Tryd.func66 rfl (by decide) (by first | exact Nat.le_refl _ | simp) (by simp [Tryd.f66]) ⟨by simp, by simp⟩ ?_; simp -implicitDefEqProofs only [push_cast, Tryd.f66, seval])
  rw [bs_length]
  exact endK_box1 [0] rfl rfl (by simp [PS.lv, lkp_hit, lkp_miss, lkp_nil]) (by simp [PS.obj, lkp_hit, lkp_miss, lkp_nil]; rfl) (by simp [wkL, res1, PV.weak]) ⟨by simp [resOk, PS.get, lkp_hit, lkp_miss, PS.ev], by simp [resPV, PS.get, lkp_hit, lkp_miss, PS.ev], by simp [resOf, resPV, one', res3, res2, res1, PS.get, lkp_hit, lkp_miss, PS.ev, PV.weak, PV.el, wkL]⟩

theorem writeString_fs (l s : List UInt8) (h : l.length + s.length ≤ 140737488355328) : Fsp Tryd.prog 63 [[.nbp 116 0, .bsl 5 (bs l) 0]] 1 [.box 0 0, .str s] [[.nbp 116 0, .bsl 5 (bs (l ++ s)) 0]] 1 (.tup [.int .i64 s.length, .nilif]) := by
  have hc := check_fs (.bsl 5 (bs l) 0) 1
  have hb : (bs l).length + (List.map (fun b => PV.int .u8 (b.toNat : Int)) s).length ≤ 140737488355328 := by rw [bs_length, List.length_map]; exact h
  (refine Fsp.of (nx := 1) mixed Tryd.func63 rfl (by decide) (by first | exact Nat.le_refl _ | simp) (by simp [Tryd.f63]) ⟨by simp, by simp⟩ ?_; simp -implicitDefEqProofs only [push_cast, Tryd.f63, seval])
  refine callE_box hc [0] [0] (by rfl) (by rfl) (by rfl) (by rfl) (by rfl) (by rfl) (fun i j cs h1 h2 => by (rcases i with _ | _ | _ | i <;> simp at h1 h2 <;> (subst h1; subst h2; exact ⟨_, rfl, (by (repeat' (first | exact wkL_nil | refine wkL_cons ?_ ?_)); all_goals (first | exact .inl ⟨_, _, _, _, rfl, rfl, rfl⟩ | exact .inr (.inr (.inr (.inr (.inl ⟨_, _, _, rfl, rfl, rfl⟩)))) | exact .inr (.inr (.inr (.inr (.inr (.inl ⟨_, _, _, _, rfl, rfl, rfl⟩))))) | exact .inr (.inr (.inr (.inr (.inr (.inr ⟨_, _, rfl, rfl, rfl⟩))))) | exact .inr (.inl rfl) | exact .inr (.inr (.inl ⟨_, _, _, rfl, rfl, rfl⟩))))⟩))) (by simp [PS.lv, lkp_hit, lkp_miss, lkp_nil]) (by (repeat' (first | exact wkL_nil | refine wkL_cons ?_ ?_)); all_goals (first | exact .inl ⟨_, _, _, rfl, rfl, rfl⟩ | exact .inr (.inl rfl) | exact .inr (.inr (.inl ⟨_, _, _, _, rfl, rfl, rfl⟩)) | exact .inr (.inr (.inr (.inl ⟨_, _, _, rfl, rfl, rfl, (wkL_get (by (repeat' (first | exact wkL_nil | refine wkL_cons ?_ ?_)); all_goals (first | exact .inl ⟨_, _, _, rfl, rfl, rfl⟩ | exact .inr rfl))).2⟩))) | exact .inr (.inr (.inr (.inr (.inl ⟨_, _, rfl, rfl, rfl⟩)))) | exact .inr (.inr (.inr (.inr (.inr ⟨_, _, rfl, rfl, wkL_get (by (repeat' (first | exact wkL_nil | refine wkL_cons ?_ ?_)); all_goals (first | exact .inr rfl | exact .inl ⟨_, _, rfl, rfl, rfl⟩))⟩)))))) (by decide) (by simp) (by rfl) (by simp [tokLt1]) (fun _ => by rfl) (by first | rfl | simp [gdOk, newToks]) ?_
  simp -implicitDefEqProofs only [push_cast, seval]
  refine ⟨by omega, by omega, ?_⟩
  rw [show bs l ++ List.map (fun b => PV.int .u8 (b.toNat : Int)) s = bs (l ++ s) from (bs_append l s).symm]
  exact endK_box1 [41] rfl rfl (by simp [PS.lv, lkp_hit, lkp_miss, lkp_nil]) (by simp [PS.obj, lkp_hit, lkp_miss, lkp_nil]; rfl) (by simp [wkL, res1, PV.weak]) ⟨by simp [resOk, PS.get, lkp_hit, lkp_miss, PS.ev], by simp [resPV, PS.get, lkp_hit, lkp_miss, PS.ev], by simp [resOf, resPV, one', res3, res2, res1, PS.get, lkp_hit, lkp_miss, PS.ev, PV.weak, PV.el, wkL]⟩

theorem writeByte_fs (l : List UInt8) (h : l.length + 1 ≤ 140737488355328) : Fsp Tryd.prog 67 [[.nbp 116 0, .bsl 5 (bs l) 0]] 1 [.box 0 0, .int .u8 0] [[.nbp 116 0, .bsl 5 (bs (l ++ [0])) 0]] 1 .nilif := by
  have hc := check_fs (.bsl 5 (bs l) 0) 1
  have hb : (bs l).length + 1 ≤ 140737488355328 := by rw [bs_length]; exact h
  (refine Fsp.of (nx := 1) mixed Tryd.func67 rfl (by decide) (by first | exact Nat.le_refl _ | simp) (by simp [Tryd.f67]) ⟨by simp, by simp⟩ ?_; simp -implicitDefEqProofs only [push_cast, Tryd.f67, seval])
  refine callE_box hc [0] [0] (by rfl) (by rfl) (by rfl) (by rfl) (by rfl) (by rfl) (fun i j cs h1 h2 => by (rcases i with _ | _ | _ | i <;> simp at h1 h2 <;> (subst h1; subst h2; exact ⟨_, rfl, (by (repeat' (first | exact wkL_nil | refine wkL_cons ?_ ?_)); all_goals (first | exact .inl ⟨_, _, _, _, rfl, rfl, rfl⟩ | exact .inr (.inr (.inr (.inr (.inl ⟨_, _, _, rfl, rfl, rfl⟩)))) | exact .inr (.inr (.inr (.inr (.inr (.inl ⟨_, _, _, _, rfl, rfl, rfl⟩))))) | exact .inr (.inr (.inr (.inr (.inr (.inr ⟨_, _, rfl, rfl, rfl⟩))))) | exact .inr (.inl rfl) | exact .inr (.inr (.inl ⟨_, _, _, rfl, rfl, rfl⟩))))⟩))) (by simp [PS.lv, lkp_hit, lkp_miss, lkp_nil]) (by (repeat' (first | exact wkL_nil | refine wkL_cons ?_ ?_)); all_goals (first | exact .inl ⟨_, _, _, rfl, rfl, rfl⟩ | exact .inr (.inl rfl) | exact .inr (.inr (.inl ⟨_, _, _, _, rfl, rfl, rfl⟩)) | exact .inr (.inr (.inr (.inl ⟨_, _, _, rfl, rfl, rfl, (wkL_get (by (repeat' (first | exact wkL_nil | refine wkL_cons ?_ ?_)); all_goals (first | exact .inl ⟨_, _, _, rfl, rfl, rfl⟩ | exact .inr rfl))).2⟩))) | exact .inr (.inr (.inr (.inr (.inl ⟨_, _, rfl, rfl, rfl⟩)))) | exact .inr (.inr (.inr (.inr (.inr ⟨_, _, rfl, rfl, wkL_get (by (repeat' (first | exact wkL_nil | refine wkL_cons ?_ ?_)); all_goals (first | exact .inr rfl | exact .inl ⟨_, _, rfl, rfl, rfl⟩))⟩)))))) (by decide) (by simp) (by rfl) (by simp [tokLt1]) (fun _ => by rfl) (by first | rfl | simp [gdOk, newToks]) ?_
  simp -implicitDefEqProofs only [push_cast, seval]
  refine ⟨by omega, by omega, ?_⟩
  rw [show bs l ++ [PV.int .u8 0] = bs (l ++ [0]) from (bs_append l [0]).symm]
  exact endK_box1 [41] rfl rfl (by simp [PS.lv, lkp_hit, lkp_miss, lkp_nil]) (by simp [PS.obj, lkp_hit, lkp_miss, lkp_nil]; rfl) (by simp [wkL, res1, PV.weak]) ⟨by simp [resOk, PS.get, lkp_hit, lkp_miss, PS.ev], by simp [resPV, PS.get, lkp_hit, lkp_miss, PS.ev], by simp [resOf, resPV, one', res3, res2, res1, PS.get, lkp_hit, lkp_miss, PS.ev, PV.weak, PV.el, wkL]⟩

end Go.Proofs.Sh

/- Package order: Put, Row, Pad. -/
set_option maxRecDepth 100000
set_option linter.unusedSimpArgs false
set_option linter.unusedVariables false
namespace Go.Proofs.Sh
open Go.Pv


noncomputable def run0 (f : Nat) (args : List PV) := runI Tryd.prog noCl (fun _ => false) 30 4 f [] 0 args
theorem run0_fs {f : Nat} {args : List PV} {r : PV} (h : run0 f args = some ([], 0, r)) : Fsp Tryd.prog f [] 0 args [] 0 r := runI_ok mixed (noCl_ok _) _ _ _ _ _ _ _ h
def spanOf (s : Int) : PV := .agg [.int .i64 s, .int .i64 (low s), .int .i64 (high s)]
theorem known_fs {o s : Int} (ho : isOrder o) (hs : isSize s) : Fsp Tryd.prog 69 [] 0 [.int .i64 o, .int .i64 s] [] 0 (.tup [spanOf s, .int .i64 0]) := by
  rcases ho with rfl | rfl <;> rcases hs with rfl | rfl | rfl | rfl | rfl | rfl <;> exact run0_fs (by kernel_rfl)
theorem width_fs {s : Int} (hs : isSize s) : Fsp Tryd.prog 70 [] 0 [spanOf s] [] 0 (.int .i64 (wid s)) := by
  rcases hs with rfl | rfl | rfl | rfl | rfl | rfl <;> exact run0_fs (by kernel_rfl)
theorem has_fs (s v : Int) : Fsp Tryd.prog 71 [] 0 [spanOf s, .int .i64 v] [] 0 (.bool (fitsN s v)) := by
  (refine Fsp.ofs (nx := 0) mixed Tryd.func71 rfl (by simp [Tryd.f71]) ?_; simp -implicitDefEqProofs only [push_cast, Tryd.f71, spanOf, seval])
  rfl

theorem add_0_1 (v : Int) : Fsp Tryd.prog 72 [] 0 [spanOf (1), .nilsl, .int .i64 0, .int .i64 v] [] 1 (.slt 1 (bs (encB 0 (wid (1)) v)) 0) := by
  have hw := width_fs (s := 1) (by unfold isSize; omega)
  have hn : ((wid (1) : Nat) : Int) = 1 := rfl
  rw [hn] at hw
  simp only [spanOf] at hw
  (refine Fsp.ofs (nx := 0) mixed Tryd.func72 rfl (by simp [Tryd.f72]) ?_; simp -implicitDefEqProofs only [push_cast, Tryd.f72, spanOf, seval])
  refine callE_p hw ?_
  simp -implicitDefEqProofs only [push_cast, seval]
  refine loopC_un 2 ?_
  simp -implicitDefEqProofs only [push_cast, seval]
  simp only [byte0, byte1, byte2, byte3]
  exact endK_tok1 rfl rfl

theorem add_0_2 (v : Int) : Fsp Tryd.prog 72 [] 0 [spanOf (2), .nilsl, .int .i64 0, .int .i64 v] [] 1 (.slt 1 (bs (encB 0 (wid (2)) v)) 0) := by
  have hw := width_fs (s := 2) (by unfold isSize; omega)
  have hn : ((wid (2) : Nat) : Int) = 2 := rfl
  rw [hn] at hw
  simp only [spanOf] at hw
  (refine Fsp.ofs (nx := 0) mixed Tryd.func72 rfl (by simp [Tryd.f72]) ?_; simp -implicitDefEqProofs only [push_cast, Tryd.f72, spanOf, seval])
  refine callE_p hw ?_
  simp -implicitDefEqProofs only [push_cast, seval]
  refine loopC_un 3 ?_
  simp -implicitDefEqProofs only [push_cast, seval]
  simp only [byte0, byte1, byte2, byte3]
  exact endK_tok1 rfl rfl

theorem add_0_4 (v : Int) : Fsp Tryd.prog 72 [] 0 [spanOf (4), .nilsl, .int .i64 0, .int .i64 v] [] 1 (.slt 1 (bs (encB 0 (wid (4)) v)) 0) := by
  have hw := width_fs (s := 4) (by unfold isSize; omega)
  have hn : ((wid (4) : Nat) : Int) = 4 := rfl
  rw [hn] at hw
  simp only [spanOf] at hw
  (refine Fsp.ofs (nx := 0) mixed Tryd.func72 rfl (by simp [Tryd.f72]) ?_; simp -implicitDefEqProofs only [push_cast, Tryd.f72, spanOf, seval])
  refine callE_p hw ?_
  simp -implicitDefEqProofs only [push_cast, seval]
  refine loopC_un 5 ?_
  simp -implicitDefEqProofs only [push_cast, seval]
  simp only [byte0, byte1, byte2, byte3]
  exact endK_tok1 rfl rfl

theorem add_0_m1 (v : Int) : Fsp Tryd.prog 72 [] 0 [spanOf (-1), .nilsl, .int .i64 0, .int .i64 v] [] 1 (.slt 1 (bs (encB 0 (wid (-1)) v)) 0) := by
  have hw := width_fs (s := -1) (by unfold isSize; omega)
  have hn : ((wid (-1) : Nat) : Int) = 1 := rfl
  rw [hn] at hw
  simp only [spanOf] at hw
  (refine Fsp.ofs (nx := 0) mixed Tryd.func72 rfl (by simp [Tryd.f72]) ?_; simp -implicitDefEqProofs only [push_cast, Tryd.f72, spanOf, seval])
  refine callE_p hw ?_
  simp -implicitDefEqProofs only [push_cast, seval]
  refine loopC_un 2 ?_
  simp -implicitDefEqProofs only [push_cast, seval]
  simp only [byte0, byte1, byte2, byte3]
  exact endK_tok1 rfl rfl

theorem add_0_m2 (v : Int) : Fsp Tryd.prog 72 [] 0 [spanOf (-2), .nilsl, .int .i64 0, .int .i64 v] [] 1 (.slt 1 (bs (encB 0 (wid (-2)) v)) 0) := by
  have hw := width_fs (s := -2) (by unfold isSize; omega)
  have hn : ((wid (-2) : Nat) : Int) = 2 := rfl
  rw [hn] at hw
  simp only [spanOf] at hw
  (refine Fsp.ofs (nx := 0) mixed Tryd.func72 rfl (by simp [Tryd.f72]) ?_; simp -implicitDefEqProofs only [push_cast, Tryd.f72, spanOf, seval])
  refine callE_p hw ?_
  simp -implicitDefEqProofs only [push_cast, seval]
  refine loopC_un 3 ?_
  simp -implicitDefEqProofs only [push_cast, seval]
  simp only [byte0, byte1, byte2, byte3]
  exact endK_tok1 rfl rfl

theorem add_0_m4 (v : Int) : Fsp Tryd.prog 72 [] 0 [spanOf (-4), .nilsl, .int .i64 0, .int .i64 v] [] 1 (.slt 1 (bs (encB 0 (wid (-4)) v)) 0) := by
  have hw := width_fs (s := -4) (by unfold isSize; omega)
  have hn : ((wid (-4) : Nat) : Int) = 4 := rfl
  rw [hn] at hw
  simp only [spanOf] at hw
  (refine Fsp.ofs (nx := 0) mixed Tryd.func72 rfl (by simp [Tryd.f72]) ?_; simp -implicitDefEqProofs only [push_cast, Tryd.f72, spanOf, seval])
  refine callE_p hw ?_
  simp -implicitDefEqProofs only [push_cast, seval]
  refine loopC_un 5 ?_
  simp -implicitDefEqProofs only [push_cast, seval]
  simp only [byte0, byte1, byte2, byte3]
  exact endK_tok1 rfl rfl

theorem add_1_1 (v : Int) : Fsp Tryd.prog 72 [] 0 [spanOf (1), .nilsl, .int .i64 1, .int .i64 v] [] 1 (.slt 1 (bs (encB 1 (wid (1)) v)) 0) := by
  have hw := width_fs (s := 1) (by unfold isSize; omega)
  have hn : ((wid (1) : Nat) : Int) = 1 := rfl
  rw [hn] at hw
  simp only [spanOf] at hw
  (refine Fsp.ofs (nx := 0) mixed Tryd.func72 rfl (by simp [Tryd.f72]) ?_; simp -implicitDefEqProofs only [push_cast, Tryd.f72, spanOf, seval])
  refine callE_p hw ?_
  simp -implicitDefEqProofs only [push_cast, seval]
  refine loopC_un 2 ?_
  simp -implicitDefEqProofs only [push_cast, seval]
  simp only [byte0, byte1, byte2, byte3]
  exact endK_tok1 rfl rfl

theorem add_1_2 (v : Int) : Fsp Tryd.prog 72 [] 0 [spanOf (2), .nilsl, .int .i64 1, .int .i64 v] [] 1 (.slt 1 (bs (encB 1 (wid (2)) v)) 0) := by
  have hw := width_fs (s := 2) (by unfold isSize; omega)
  have hn : ((wid (2) : Nat) : Int) = 2 := rfl
  rw [hn] at hw
  simp only [spanOf] at hw
  (refine Fsp.ofs (nx := 0) mixed Tryd.func72 rfl (by simp [Tryd.f72]) ?_; simp -implicitDefEqProofs only [push_cast, Tryd.f72, spanOf, seval])
  refine callE_p hw ?_
  simp -implicitDefEqProofs only [push_cast, seval]
  refine loopC_un 3 ?_
  simp -implicitDefEqProofs only [push_cast, seval]
  simp only [byte0, byte1, byte2, byte3]
  exact endK_tok1 rfl rfl

theorem add_1_4 (v : Int) : Fsp Tryd.prog 72 [] 0 [spanOf (4), .nilsl, .int .i64 1, .int .i64 v] [] 1 (.slt 1 (bs (encB 1 (wid (4)) v)) 0) := by
  have hw := width_fs (s := 4) (by unfold isSize; omega)
  have hn : ((wid (4) : Nat) : Int) = 4 := rfl
  rw [hn] at hw
  simp only [spanOf] at hw
  (refine Fsp.ofs (nx := 0) mixed Tryd.func72 rfl (by simp [Tryd.f72]) ?_; simp -implicitDefEqProofs only [push_cast, Tryd.f72, spanOf, seval])
  refine callE_p hw ?_
  simp -implicitDefEqProofs only [push_cast, seval]
  refine loopC_un 5 ?_
  simp -implicitDefEqProofs only [push_cast, seval]
  simp only [byte0, byte1, byte2, byte3]
  exact endK_tok1 rfl rfl

theorem add_1_m1 (v : Int) : Fsp Tryd.prog 72 [] 0 [spanOf (-1), .nilsl, .int .i64 1, .int .i64 v] [] 1 (.slt 1 (bs (encB 1 (wid (-1)) v)) 0) := by
  have hw := width_fs (s := -1) (by unfold isSize; omega)
  have hn : ((wid (-1) : Nat) : Int) = 1 := rfl
  rw [hn] at hw
  simp only [spanOf] at hw
  (refine Fsp.ofs (nx := 0) mixed Tryd.func72 rfl (by simp [Tryd.f72]) ?_; simp -implicitDefEqProofs only [push_cast, Tryd.f72, spanOf, seval])
  refine callE_p hw ?_
  simp -implicitDefEqProofs only [push_cast, seval]
  refine loopC_un 2 ?_
  simp -implicitDefEqProofs only [push_cast, seval]
  simp only [byte0, byte1, byte2, byte3]
  exact endK_tok1 rfl rfl

theorem add_1_m2 (v : Int) : Fsp Tryd.prog 72 [] 0 [spanOf (-2), .nilsl, .int .i64 1, .int .i64 v] [] 1 (.slt 1 (bs (encB 1 (wid (-2)) v)) 0) := by
  have hw := width_fs (s := -2) (by unfold isSize; omega)
  have hn : ((wid (-2) : Nat) : Int) = 2 := rfl
  rw [hn] at hw
  simp only [spanOf] at hw
  (refine Fsp.ofs (nx := 0) mixed Tryd.func72 rfl (by simp [Tryd.f72]) ?_; simp -implicitDefEqProofs only [push_cast, Tryd.f72, spanOf, seval])
  refine callE_p hw ?_
  simp -implicitDefEqProofs only [push_cast, seval]
  refine loopC_un 3 ?_
  simp -implicitDefEqProofs only [push_cast, seval]
  simp only [byte0, byte1, byte2, byte3]
  exact endK_tok1 rfl rfl

theorem add_1_m4 (v : Int) : Fsp Tryd.prog 72 [] 0 [spanOf (-4), .nilsl, .int .i64 1, .int .i64 v] [] 1 (.slt 1 (bs (encB 1 (wid (-4)) v)) 0) := by
  have hw := width_fs (s := -4) (by unfold isSize; omega)
  have hn : ((wid (-4) : Nat) : Int) = 4 := rfl
  rw [hn] at hw
  simp only [spanOf] at hw
  (refine Fsp.ofs (nx := 0) mixed Tryd.func72 rfl (by simp [Tryd.f72]) ?_; simp -implicitDefEqProofs only [push_cast, Tryd.f72, spanOf, seval])
  refine callE_p hw ?_
  simp -implicitDefEqProofs only [push_cast, seval]
  refine loopC_un 5 ?_
  simp -implicitDefEqProofs only [push_cast, seval]
  simp only [byte0, byte1, byte2, byte3]
  exact endK_tok1 rfl rfl

theorem add_fs {o s : Int} (ho : isOrder o) (hs : isSize s) (v : Int) : Fsp Tryd.prog 72 [] 0 [spanOf s, .nilsl, .int .i64 o, .int .i64 v] [] 1 (.slt 1 (bs (encB o (wid s) v)) 0) := by
  rcases ho with rfl | rfl <;> rcases hs with rfl | rfl | rfl | rfl | rfl | rfl
  all_goals first | exact add_0_1 v | exact add_0_2 v | exact add_0_4 v | exact add_0_m1 v | exact add_0_m2 v | exact add_0_m4 v | exact add_1_1 v | exact add_1_2 v | exact add_1_4 v | exact add_1_m1 v | exact add_1_m2 v | exact add_1_m4 v
def putS (o s v : Int) : List UInt8 := if fitsN s v = true then encB o (wid s) v else []
def putE (s v : Int) : Int := if fitsN s v = true then 0 else 1
theorem put_fs {o s : Int} (ho : isOrder o) (hs : isSize s) (v : Int) : Fsp Tryd.prog 47 [] 0 [.int .i64 o, .int .i64 s, .int .i64 v] [] 0 (.tup [.str (putS o s v), .int .i64 (putE s v)]) := by
  have hk := known_fs ho hs
  have hh := has_fs s v
  have ha := add_fs ho hs v
  simp only [spanOf] at hk hh ha
  (refine Fsp.ofs (nx := 0) mixed Tryd.func47 rfl (by simp [Tryd.f47]) ?_; simp -implicitDefEqProofs only [push_cast, Tryd.f47, seval])
  refine callE_p hk ?_
  simp -implicitDefEqProofs only [push_cast, seval]
  refine callE_p hh ?_
  simp -implicitDefEqProofs only [push_cast, seval]
  generalize hf : fitsN s v = ff at *
  refine condC_split (fun h => ?_) (fun h => ?_)
  · have : ff = false := by simpa using h
    subst this
    simp -implicitDefEqProofs only [push_cast, seval]
    simp [putS, putE, hf, wkL, res2, res1, PV.weak, PV.el]
  · have : ff = true := by simpa using h
    subst this
    simp -implicitDefEqProofs only [push_cast, seval]
    refine callE_p ha ?_
    simp -implicitDefEqProofs only [push_cast, seval]
    refine ⟨bs_isByte _, _, rfl, ?_⟩
    rw [bs_byteOf]
    simp [wkL, res2, res1, PV.weak, PV.el, putS, putE, hf]

end Go.Proofs.Sh
