/- ProxyNew: proxy.New. -/
import Derived.Test.YtoemcdgebkkcoaaDoorPxN
set_option maxRecDepth 100000
set_option linter.unusedSimpArgs false
set_option linter.unusedVariables false
namespace Go.Proofs.Sh
open Go.Pv
def oB (o : Int) : Bool := o != 0 && o != 1
theorem pnew_ord (s : Bool) (o k m : Int) (h : oB o = true) : Fsp Tryd.prog 5 [] 0 [.bool s, .int .i64 o, .int .i64 k, .int .i64 m] [] 0 (.tup [halfZ, .int .i64 8]) := by
  (refine Fsp.ofs (nx := 0) mixed Tryd.func5 rfl (by simp [Tryd.f5]) ?_; simp -implicitDefEqProofs only [push_cast, Tryd.f5, seval])
  refine condC_split (fun g1 => ?_) (fun g1 => ?_)
  · simp -implicitDefEqProofs only [push_cast, seval]
    all_goals (first | done | rfl | exact ⟨_, rfl, by simp [wkL, res2, res1, PV.weak, PV.el, halfZ, halfPV]⟩ | (simp [wkL, res2, res1, PV.weak, PV.el, halfZ, halfPV]; done))
  · exact absurd (h.symm.trans g1) (by decide)
theorem pnew_ka (s : Bool) (k m : Int) (h : cnB k = true) : Fsp Tryd.prog 5 [] 0 [.bool s, .int .i64 0, .int .i64 k, .int .i64 m] [] 0 (.tup [halfZ, .int .i64 1]) := by
  (refine Fsp.ofs (nx := 0) mixed Tryd.func5 rfl (by simp [Tryd.f5]) ?_; simp -implicitDefEqProofs only [push_cast, Tryd.f5, seval])
  refine callE_p (cnew_no k h) ?_
  simp -implicitDefEqProofs only [push_cast, seval]
  all_goals (first | done | rfl | exact ⟨_, rfl, by simp [wkL, res2, res1, PV.weak, PV.el, halfZ, halfPV]⟩ | (simp [wkL, res2, res1, PV.weak, PV.el, halfZ, halfPV]; done))
theorem pnew_ma (s : Bool) (k m : Int) (h : cnB k = false) (h2 : lnB m = true) : Fsp Tryd.prog 5 [] 0 [.bool s, .int .i64 0, .int .i64 k, .int .i64 m] [] 0 (.tup [halfZ, .int .i64 17]) := by
  (refine Fsp.ofs (nx := 0) mixed Tryd.func5 rfl (by simp [Tryd.f5]) ?_; simp -implicitDefEqProofs only [push_cast, Tryd.f5, seval])
  refine callE_p (cnew_ok k h) ?_
  simp -implicitDefEqProofs only [push_cast, seval]
  refine callE_p (lnew_no m h2) ?_
  simp -implicitDefEqProofs only [push_cast, endPV, seval]
  all_goals (first | done | rfl | exact ⟨_, rfl, by simp [wkL, res2, res1, PV.weak, PV.el, halfZ, halfPV]⟩ | (simp [wkL, res2, res1, PV.weak, PV.el, halfZ, halfPV]; done))
theorem pnew_kb (s : Bool) (k m : Int) (h : cnB k = true) : Fsp Tryd.prog 5 [] 0 [.bool s, .int .i64 1, .int .i64 k, .int .i64 m] [] 0 (.tup [halfZ, .int .i64 1]) := by
  (refine Fsp.ofs (nx := 0) mixed Tryd.func5 rfl (by simp [Tryd.f5]) ?_; simp -implicitDefEqProofs only [push_cast, Tryd.f5, seval])
  refine callE_p (cnew_no k h) ?_
  simp -implicitDefEqProofs only [push_cast, seval]
  all_goals (first | done | rfl | exact ⟨_, rfl, by simp [wkL, res2, res1, PV.weak, PV.el, halfZ, halfPV]⟩ | (simp [wkL, res2, res1, PV.weak, PV.el, halfZ, halfPV]; done))
theorem pnew_mb (s : Bool) (k m : Int) (h : cnB k = false) (h2 : lnB m = true) : Fsp Tryd.prog 5 [] 0 [.bool s, .int .i64 1, .int .i64 k, .int .i64 m] [] 0 (.tup [halfZ, .int .i64 17]) := by
  (refine Fsp.ofs (nx := 0) mixed Tryd.func5 rfl (by simp [Tryd.f5]) ?_; simp -implicitDefEqProofs only [push_cast, Tryd.f5, seval])
  refine callE_p (cnew_ok k h) ?_
  simp -implicitDefEqProofs only [push_cast, seval]
  refine callE_p (lnew_no m h2) ?_
  simp -implicitDefEqProofs only [push_cast, endPV, seval]
  all_goals (first | done | rfl | exact ⟨_, rfl, by simp [wkL, res2, res1, PV.weak, PV.el, halfZ, halfPV]⟩ | (simp [wkL, res2, res1, PV.weak, PV.el, halfZ, halfPV]; done))
theorem pnew_oka (k m : Int) (h : cnB k = false) (h2 : lnB m = false) : Fsp Tryd.prog 5 [] 0 [.bool false, .int .i64 0, .int .i64 k, .int .i64 m] [] 0 (.tup [halfPV (.fn 16 []) 0 false k m, .int .i64 0]) := by
  (refine Fsp.ofs (nx := 0) mixed Tryd.func5 rfl (by simp [Tryd.f5]) ?_; simp -implicitDefEqProofs only [push_cast, Tryd.f5, seval])
  refine callE_p (cnew_ok k h) ?_
  simp -implicitDefEqProofs only [push_cast, seval]
  refine callE_p (lnew_ok m h2) ?_
  simp -implicitDefEqProofs only [push_cast, endPV, seval]
  all_goals (first | done | rfl | exact ⟨_, rfl, by simp [wkL, res2, res1, PV.weak, PV.el, halfPV]⟩ | (simp [wkL, res2, res1, PV.weak, PV.el, halfPV]; done))
theorem pnew_okb (k m : Int) (h : cnB k = false) (h2 : lnB m = false) : Fsp Tryd.prog 5 [] 0 [.bool false, .int .i64 1, .int .i64 k, .int .i64 m] [] 0 (.tup [halfPV (.fn 16 []) 1 false k m, .int .i64 0]) := by
  (refine Fsp.ofs (nx := 0) mixed Tryd.func5 rfl (by simp [Tryd.f5]) ?_; simp -implicitDefEqProofs only [push_cast, Tryd.f5, seval])
  refine callE_p (cnew_ok k h) ?_
  simp -implicitDefEqProofs only [push_cast, seval]
  refine callE_p (lnew_ok m h2) ?_
  simp -implicitDefEqProofs only [push_cast, endPV, seval]
  all_goals (first | done | rfl | exact ⟨_, rfl, by simp [wkL, res2, res1, PV.weak, PV.el, halfPV]⟩ | (simp [wkL, res2, res1, PV.weak, PV.el, halfPV]; done))
theorem pnew_okc (k m : Int) (h : cnB k = false) (h2 : lnB m = false) : Fsp Tryd.prog 5 [] 0 [.bool true, .int .i64 0, .int .i64 k, .int .i64 m] [] 0 (.tup [halfPV (.fn 17 []) 0 true k m, .int .i64 0]) := by
  (refine Fsp.ofs (nx := 0) mixed Tryd.func5 rfl (by simp [Tryd.f5]) ?_; simp -implicitDefEqProofs only [push_cast, Tryd.f5, seval])
  refine callE_p (cnew_ok k h) ?_
  simp -implicitDefEqProofs only [push_cast, seval]
  refine callE_p (lnew_ok m h2) ?_
  simp -implicitDefEqProofs only [push_cast, endPV, seval]
  all_goals (first | done | rfl | exact ⟨_, rfl, by simp [wkL, res2, res1, PV.weak, PV.el, halfPV]⟩ | (simp [wkL, res2, res1, PV.weak, PV.el, halfPV]; done))
theorem pnew_okd (k m : Int) (h : cnB k = false) (h2 : lnB m = false) : Fsp Tryd.prog 5 [] 0 [.bool true, .int .i64 1, .int .i64 k, .int .i64 m] [] 0 (.tup [halfPV (.fn 17 []) 1 true k m, .int .i64 0]) := by
  (refine Fsp.ofs (nx := 0) mixed Tryd.func5 rfl (by simp [Tryd.f5]) ?_; simp -implicitDefEqProofs only [push_cast, Tryd.f5, seval])
  refine callE_p (cnew_ok k h) ?_
  simp -implicitDefEqProofs only [push_cast, seval]
  refine callE_p (lnew_ok m h2) ?_
  simp -implicitDefEqProofs only [push_cast, endPV, seval]
  all_goals (first | done | rfl | exact ⟨_, rfl, by simp [wkL, res2, res1, PV.weak, PV.el, halfPV]⟩ | (simp [wkL, res2, res1, PV.weak, PV.el, halfPV]; done))
end Go.Proofs.Sh
