/- ProxyNew: a half that is new, and the zero one. -/
import Derived.Test.YtoemcdgebkkcoaaDoorPxBase
import Derived.Test.YtoemcdgebkkcoaaDoorShTypes
import Derived.Test.YtoemcdgebkkcoaaDoorPvYa
import Derived.Test.YtoemcdgebkkcoaaDoorPvXf
set_option maxRecDepth 100000
set_option linter.unusedSimpArgs false
set_option linter.unusedVariables false
namespace Go.Proofs.Sh
open Go.Pv
def halfPV (f : PV) (o : Int) (b : Bool) (k m : Int) : PV := .agg [f, .int .i64 o, .bool b, .int .i64 k, .nilsl, .int .i64 k, .nilsl, .int .i64 m, .nilsl, .int .i64 0, .str [], .int .i64 0, .str [], .str [], .str [], .str [], .str [], .str [], .str [], .str [], .str [], .str [], .str [], .str [], .str [], .str [], .str [], .str [], .str [], .bool false, .str [], .str [], .str [], .bool false]
def halfZ : PV := halfPV .nilfn 0 false 0 0
theorem near0 (b : List UInt8) : Fsp Tryd.prog 6 [] 0 [halfZ, .str b] [] 0 (.tup [halfZ, .int .i64 9]) := runJ_ok mixed orc_ok (wbf := pwb) (n := 20) (d := 10) (u := 0) _ _ _ _ _ _ _ (by kernel_rfl)
theorem got0 (b : List UInt8) : Fsp Tryd.prog 7 [] 0 [halfZ, .str b] [] 0 (.tup [halfZ, .int .i64 9]) := runJ_ok mixed orc_ok (wbf := pwb) (n := 20) (d := 10) (u := 0) _ _ _ _ _ _ _ (by kernel_rfl)
theorem tick0 : Fsp Tryd.prog 8 [] 0 [halfZ] [] 0 halfZ := runJ_ok mixed orc_ok (wbf := pwb) (n := 20) (d := 10) (u := 0) _ _ _ _ _ _ _ (by kernel_rfl)
theorem out0 : Fsp Tryd.prog 9 [] 0 [halfZ] [] 0 (.tup [halfZ, .str []]) := runJ_ok mixed orc_ok (wbf := pwb) (n := 20) (d := 10) (u := 0) _ _ _ _ _ _ _ (by kernel_rfl)
theorem due0 : Fsp Tryd.prog 10 [] 0 [halfZ] [] 0 (.tup [halfZ, .nilsl]) := runJ_ok mixed orc_ok (wbf := pwb) (n := 20) (d := 10) (u := 0) _ _ _ _ _ _ _ (by kernel_rfl)
theorem dead0 : Fsp Tryd.prog 11 [] 0 [halfZ] [] 0 (.bool false) := runJ_ok mixed orc_ok (wbf := pwb) (n := 20) (d := 10) (u := 0) _ _ _ _ _ _ _ (by kernel_rfl)
theorem quiet0 : Fsp Tryd.prog 12 [] 0 [halfZ] [] 0 (.bool true) := runJ_ok mixed orc_ok (wbf := pwb) (n := 20) (d := 10) (u := 0) _ _ _ _ _ _ _ (by kernel_rfl)
theorem near1a (k m : Int) : Fsp Tryd.prog 6 [] 0 [halfPV (.fn 16 []) 0 false k m, .str []] [] 0 (.tup [halfPV (.fn 16 []) 0 false k m, .int .i64 0]) := runJ_ok mixed orc_ok (wbf := pwb) (n := 20) (d := 10) (u := 0) _ _ _ _ _ _ _ (by kernel_rfl)
theorem dead1a (k m : Int) : Fsp Tryd.prog 11 [] 0 [halfPV (.fn 16 []) 0 false k m] [] 0 (.bool false) := runJ_ok mixed orc_ok (wbf := pwb) (n := 20) (d := 10) (u := 0) _ _ _ _ _ _ _ (by kernel_rfl)
theorem quiet1a (k m : Int) : Fsp Tryd.prog 12 [] 0 [halfPV (.fn 16 []) 0 false k m] [] 0 (.bool true) := runJ_ok mixed orc_ok (wbf := pwb) (n := 20) (d := 10) (u := 0) _ _ _ _ _ _ _ (by kernel_rfl)
theorem near1b (k m : Int) : Fsp Tryd.prog 6 [] 0 [halfPV (.fn 16 []) 1 false k m, .str []] [] 0 (.tup [halfPV (.fn 16 []) 1 false k m, .int .i64 0]) := runJ_ok mixed orc_ok (wbf := pwb) (n := 20) (d := 10) (u := 0) _ _ _ _ _ _ _ (by kernel_rfl)
theorem dead1b (k m : Int) : Fsp Tryd.prog 11 [] 0 [halfPV (.fn 16 []) 1 false k m] [] 0 (.bool false) := runJ_ok mixed orc_ok (wbf := pwb) (n := 20) (d := 10) (u := 0) _ _ _ _ _ _ _ (by kernel_rfl)
theorem quiet1b (k m : Int) : Fsp Tryd.prog 12 [] 0 [halfPV (.fn 16 []) 1 false k m] [] 0 (.bool true) := runJ_ok mixed orc_ok (wbf := pwb) (n := 20) (d := 10) (u := 0) _ _ _ _ _ _ _ (by kernel_rfl)
theorem near1c (k m : Int) : Fsp Tryd.prog 6 [] 0 [halfPV (.fn 17 []) 0 true k m, .str []] [] 0 (.tup [halfPV (.fn 17 []) 0 true k m, .int .i64 0]) := runJ_ok mixed orc_ok (wbf := pwb) (n := 20) (d := 10) (u := 0) _ _ _ _ _ _ _ (by kernel_rfl)
theorem dead1c (k m : Int) : Fsp Tryd.prog 11 [] 0 [halfPV (.fn 17 []) 0 true k m] [] 0 (.bool false) := runJ_ok mixed orc_ok (wbf := pwb) (n := 20) (d := 10) (u := 0) _ _ _ _ _ _ _ (by kernel_rfl)
theorem quiet1c (k m : Int) : Fsp Tryd.prog 12 [] 0 [halfPV (.fn 17 []) 0 true k m] [] 0 (.bool true) := runJ_ok mixed orc_ok (wbf := pwb) (n := 20) (d := 10) (u := 0) _ _ _ _ _ _ _ (by kernel_rfl)
theorem near1d (k m : Int) : Fsp Tryd.prog 6 [] 0 [halfPV (.fn 17 []) 1 true k m, .str []] [] 0 (.tup [halfPV (.fn 17 []) 1 true k m, .int .i64 0]) := runJ_ok mixed orc_ok (wbf := pwb) (n := 20) (d := 10) (u := 0) _ _ _ _ _ _ _ (by kernel_rfl)
theorem dead1d (k m : Int) : Fsp Tryd.prog 11 [] 0 [halfPV (.fn 17 []) 1 true k m] [] 0 (.bool false) := runJ_ok mixed orc_ok (wbf := pwb) (n := 20) (d := 10) (u := 0) _ _ _ _ _ _ _ (by kernel_rfl)
theorem quiet1d (k m : Int) : Fsp Tryd.prog 12 [] 0 [halfPV (.fn 17 []) 1 true k m] [] 0 (.bool true) := runJ_ok mixed orc_ok (wbf := pwb) (n := 20) (d := 10) (u := 0) _ _ _ _ _ _ _ (by kernel_rfl)
def cnB (k : Int) : Bool := decide (k < 1) || decide (64 < k)
def lnB (k : Int) : Bool := decide (k < 1) || decide (1024 < k)
theorem cnew_ok (k : Int) (h : cnB k = false) : Fsp Tryd.prog 13 [] 0 [.int .i64 k] [] 0 (.tup [.agg [.int .i64 k, .nilsl], .int .i64 0]) := by
  (refine Fsp.ofs (nx := 0) mixed Tryd.func13 rfl (by simp [Tryd.f13]) ?_; simp -implicitDefEqProofs only [push_cast, Tryd.f13, seval])
  refine condC_split (fun g1 => ?_) (fun g1 => ?_)
  · exact absurd g1 (by rw [show (decide (k < 1) || decide (64 < k)) = false from h]; exact Bool.false_ne_true)
  · simp -implicitDefEqProofs only [push_cast, seval]
    all_goals (first | done | rfl | exact ⟨_, rfl, by simp [wkL, res2, res1, PV.weak, PV.el]⟩ | (simp [wkL, res2, res1, PV.weak, PV.el]; done))
theorem cnew_no (k : Int) (h : cnB k = true) : Fsp Tryd.prog 13 [] 0 [.int .i64 k] [] 0 (.tup [.agg [.int .i64 0, .nilsl], .int .i64 1]) := by
  (refine Fsp.ofs (nx := 0) mixed Tryd.func13 rfl (by simp [Tryd.f13]) ?_; simp -implicitDefEqProofs only [push_cast, Tryd.f13, seval])
  refine condC_split (fun g1 => ?_) (fun g1 => ?_)
  · simp -implicitDefEqProofs only [push_cast, seval]
    all_goals (first | done | rfl | exact ⟨_, rfl, by simp [wkL, res2, res1, PV.weak, PV.el]⟩ | (simp [wkL, res2, res1, PV.weak, PV.el]; done))
  · exact absurd (h.symm.trans g1) (by decide)
def endPV (m : Int) : PV := .agg [.int .i64 m, .nilsl, .int .i64 0, .str [], .int .i64 0, .str [], .str [], .str [], .str [], .str [], .str [], .str [], .str [], .str [], .str [], .str [], .str [], .str [], .str [], .str [], .str [], .str [], .bool false]
theorem lnew_ok (k : Int) (h : lnB k = false) : Fsp Tryd.prog 14 [] 0 [.int .i64 k] [] 0 (.tup [endPV k, .int .i64 0]) := by
  (refine Fsp.ofs (nx := 0) mixed Tryd.func14 rfl (by simp [Tryd.f14]) ?_; simp -implicitDefEqProofs only [push_cast, Tryd.f14, seval])
  refine condC_split (fun g1 => ?_) (fun g1 => ?_)
  · exact absurd g1 (by rw [show (decide (k < 1) || decide (1024 < k)) = false from h]; exact Bool.false_ne_true)
  · simp -implicitDefEqProofs only [push_cast, seval]
    all_goals (first | done | rfl | exact ⟨_, rfl, by simp [wkL, res2, res1, PV.weak, PV.el, endPV]⟩ | (simp [wkL, res2, res1, PV.weak, PV.el, endPV]; done))
theorem lnew_no (k : Int) (h : lnB k = true) : Fsp Tryd.prog 14 [] 0 [.int .i64 k] [] 0 (.tup [endPV 0, .int .i64 17]) := by
  (refine Fsp.ofs (nx := 0) mixed Tryd.func14 rfl (by simp [Tryd.f14]) ?_; simp -implicitDefEqProofs only [push_cast, Tryd.f14, seval])
  refine condC_split (fun g1 => ?_) (fun g1 => ?_)
  · simp -implicitDefEqProofs only [push_cast, seval]
    all_goals (first | done | rfl | exact ⟨_, rfl, by simp [wkL, res2, res1, PV.weak, PV.el, endPV]⟩ | (simp [wkL, res2, res1, PV.weak, PV.el, endPV]; done))
  · exact absurd (h.symm.trans g1) (by decide)
end Go.Proofs.Sh
