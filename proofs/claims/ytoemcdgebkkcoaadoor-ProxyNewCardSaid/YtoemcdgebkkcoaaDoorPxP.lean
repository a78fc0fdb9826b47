/- ProxyNew: the law. -/
import Derived.Test.YtoemcdgebkkcoaaDoorPxO
set_option maxRecDepth 100000
set_option linter.unusedSimpArgs false
set_option linter.unusedVariables false
namespace Go.Proofs.Sh
open Go.Pv
theorem pn_big (s : Bool) (o k m : Int) (b : List UInt8) (h : (decide (1000 < k) || decide (100 < (b.length : Int))) = true) : Fsp Tryd.prog 3 [] 0 [.bool s, .int .i64 o, .int .i64 k, .int .i64 m, .str b] [] 0 (.bool true) := by
  (refine Fsp.ofs (nx := 0) mixed Tryd.func3 rfl (by simp [Tryd.f3]) ?_; simp -implicitDefEqProofs only [push_cast, Tryd.f3, seval])
  refine condC_split (fun g1 => ?_) (fun g1 => ?_)
  · simp -implicitDefEqProofs only [push_cast, seval]
    refine callE_p awake_fs ?_
    simp -implicitDefEqProofs only [push_cast, seval]
    all_goals (first | done | rfl | exact ⟨_, rfl, by simp [wkL, res2, res1, PV.weak, PV.el]⟩ | (simp [wkL, res2, res1, PV.weak, PV.el]; done))
  · exact absurd (h.symm.trans g1) (by decide)
theorem cnew_any (k : Int) : ∃ c e, Fsp Tryd.prog 13 [] 0 [.int .i64 k] [] 0 (.tup [.agg [.int .i64 c, .nilsl], .int .i64 e]) := by
  cases h : cnB k with
  | true => exact ⟨_, _, cnew_no k h⟩
  | false => exact ⟨_, _, cnew_ok k h⟩
theorem lnew_any (k : Int) : ∃ c e, Fsp Tryd.prog 14 [] 0 [.int .i64 k] [] 0 (.tup [endPV c, .int .i64 e]) := by
  cases h : lnB k with
  | true => exact ⟨_, _, lnew_no k h⟩
  | false => exact ⟨_, _, lnew_ok k h⟩
theorem pn_ord (s : Bool) (o k m : Int) (b : List UInt8) (h : (decide (1000 < k) || decide (100 < (b.length : Int))) = false) (ho : oB o = true) : Fsp Tryd.prog 3 [] 0 [.bool s, .int .i64 o, .int .i64 k, .int .i64 m, .str b] [] 0 (.bool true) := by
  obtain ⟨c1, e1, hc⟩ := cnew_any k
  obtain ⟨c2, e2, hl⟩ := lnew_any m
  have ho' : (o != 0 && o != 1) = true := ho
  (refine Fsp.ofs (nx := 0) mixed Tryd.func3 rfl (by simp [Tryd.f3]) ?_; simp -implicitDefEqProofs only [push_cast, Tryd.f3, seval])
  refine condC_split (fun g1 => ?_) (fun g1 => ?_)
  · exact absurd (g1.symm.trans h) (by decide)
  · skip
    simp -implicitDefEqProofs only [push_cast, seval]
    refine callE_p (pnew_ord s o k m ho) ?_
    simp -implicitDefEqProofs only [push_cast, halfZ, halfPV, bne_self_eq_false, seval]
    refine callE_p (near0 b) ?_
    simp -implicitDefEqProofs only [push_cast, halfZ, halfPV, bne_self_eq_false, seval]
    refine callE_p (got0 b) ?_
    simp -implicitDefEqProofs only [push_cast, halfZ, halfPV, bne_self_eq_false, seval]
    refine callE_p tick0 ?_
    simp -implicitDefEqProofs only [push_cast, halfZ, halfPV, bne_self_eq_false, seval]
    refine callE_p out0 ?_
    simp -implicitDefEqProofs only [push_cast, halfZ, halfPV, bne_self_eq_false, seval]
    refine callE_p due0 ?_
    simp -implicitDefEqProofs only [push_cast, halfZ, halfPV, bne_self_eq_false, seval]
    refine callE_p dead0 ?_
    simp -implicitDefEqProofs only [push_cast, halfZ, halfPV, bne_self_eq_false, seval]
    refine callE_p quiet0 ?_
    simp -implicitDefEqProofs only [push_cast, halfZ, halfPV, bne_self_eq_false, seval]
    refine callE_p hc ?_
    simp -implicitDefEqProofs only [push_cast, endPV, ho', seval]
    refine callE_p hl ?_
    simp -implicitDefEqProofs only [push_cast, endPV, ho', seval]
    refine callE_p awake_fs ?_
    simp -implicitDefEqProofs only [push_cast, seval]
    all_goals (first | done | rfl | exact ⟨_, rfl, by simp [wkL, res2, res1, PV.weak, PV.el]⟩ | (simp [wkL, res2, res1, PV.weak, PV.el]; done))
theorem pn_ka (s : Bool) (k m : Int) (b : List UInt8) (h : (decide (1000 < k) || decide (100 < (b.length : Int))) = false) (hk : cnB k = true) : Fsp Tryd.prog 3 [] 0 [.bool s, .int .i64 0, .int .i64 k, .int .i64 m, .str b] [] 0 (.bool true) := by
  obtain ⟨c2, e2, hl⟩ := lnew_any m
  (refine Fsp.ofs (nx := 0) mixed Tryd.func3 rfl (by simp [Tryd.f3]) ?_; simp -implicitDefEqProofs only [push_cast, Tryd.f3, seval])
  refine condC_split (fun g1 => ?_) (fun g1 => ?_)
  · exact absurd (g1.symm.trans h) (by decide)
  · skip
    simp -implicitDefEqProofs only [push_cast, seval]
    refine callE_p (pnew_ka s k m hk) ?_
    simp -implicitDefEqProofs only [push_cast, halfZ, halfPV, bne_self_eq_false, seval]
    refine callE_p (near0 b) ?_
    simp -implicitDefEqProofs only [push_cast, halfZ, halfPV, bne_self_eq_false, seval]
    refine callE_p (got0 b) ?_
    simp -implicitDefEqProofs only [push_cast, halfZ, halfPV, bne_self_eq_false, seval]
    refine callE_p tick0 ?_
    simp -implicitDefEqProofs only [push_cast, halfZ, halfPV, bne_self_eq_false, seval]
    refine callE_p out0 ?_
    simp -implicitDefEqProofs only [push_cast, halfZ, halfPV, bne_self_eq_false, seval]
    refine callE_p due0 ?_
    simp -implicitDefEqProofs only [push_cast, halfZ, halfPV, bne_self_eq_false, seval]
    refine callE_p dead0 ?_
    simp -implicitDefEqProofs only [push_cast, halfZ, halfPV, bne_self_eq_false, seval]
    refine callE_p quiet0 ?_
    simp -implicitDefEqProofs only [push_cast, halfZ, halfPV, bne_self_eq_false, seval]
    refine callE_p (cnew_no k hk) ?_
    simp -implicitDefEqProofs only [push_cast, endPV, seval]
    refine callE_p hl ?_
    simp -implicitDefEqProofs only [push_cast, endPV, seval]
    refine callE_p awake_fs ?_
    simp -implicitDefEqProofs only [push_cast, seval]
    all_goals (first | done | rfl | exact ⟨_, rfl, by simp [wkL, res2, res1, PV.weak, PV.el]⟩ | (simp [wkL, res2, res1, PV.weak, PV.el]; done))
theorem pn_ma (s : Bool) (k m : Int) (b : List UInt8) (h : (decide (1000 < k) || decide (100 < (b.length : Int))) = false) (hk : cnB k = false) (hm : lnB m = true) : Fsp Tryd.prog 3 [] 0 [.bool s, .int .i64 0, .int .i64 k, .int .i64 m, .str b] [] 0 (.bool true) := by
  (refine Fsp.ofs (nx := 0) mixed Tryd.func3 rfl (by simp [Tryd.f3]) ?_; simp -implicitDefEqProofs only [push_cast, Tryd.f3, seval])
  refine condC_split (fun g1 => ?_) (fun g1 => ?_)
  · exact absurd (g1.symm.trans h) (by decide)
  · skip
    simp -implicitDefEqProofs only [push_cast, seval]
    refine callE_p (pnew_ma s k m hk hm) ?_
    simp -implicitDefEqProofs only [push_cast, halfZ, halfPV, bne_self_eq_false, seval]
    refine callE_p (near0 b) ?_
    simp -implicitDefEqProofs only [push_cast, halfZ, halfPV, bne_self_eq_false, seval]
    refine callE_p (got0 b) ?_
    simp -implicitDefEqProofs only [push_cast, halfZ, halfPV, bne_self_eq_false, seval]
    refine callE_p tick0 ?_
    simp -implicitDefEqProofs only [push_cast, halfZ, halfPV, bne_self_eq_false, seval]
    refine callE_p out0 ?_
    simp -implicitDefEqProofs only [push_cast, halfZ, halfPV, bne_self_eq_false, seval]
    refine callE_p due0 ?_
    simp -implicitDefEqProofs only [push_cast, halfZ, halfPV, bne_self_eq_false, seval]
    refine callE_p dead0 ?_
    simp -implicitDefEqProofs only [push_cast, halfZ, halfPV, bne_self_eq_false, seval]
    refine callE_p quiet0 ?_
    simp -implicitDefEqProofs only [push_cast, halfZ, halfPV, bne_self_eq_false, seval]
    refine callE_p (cnew_ok k hk) ?_
    simp -implicitDefEqProofs only [push_cast, endPV, seval]
    refine callE_p (lnew_no m hm) ?_
    simp -implicitDefEqProofs only [push_cast, endPV, seval]
    refine callE_p awake_fs ?_
    simp -implicitDefEqProofs only [push_cast, seval]
    all_goals (first | done | rfl | exact ⟨_, rfl, by simp [wkL, res2, res1, PV.weak, PV.el]⟩ | (simp [wkL, res2, res1, PV.weak, PV.el]; done))
theorem pn_kb (s : Bool) (k m : Int) (b : List UInt8) (h : (decide (1000 < k) || decide (100 < (b.length : Int))) = false) (hk : cnB k = true) : Fsp Tryd.prog 3 [] 0 [.bool s, .int .i64 1, .int .i64 k, .int .i64 m, .str b] [] 0 (.bool true) := by
  obtain ⟨c2, e2, hl⟩ := lnew_any m
  (refine Fsp.ofs (nx := 0) mixed Tryd.func3 rfl (by simp [Tryd.f3]) ?_; simp -implicitDefEqProofs only [push_cast, Tryd.f3, seval])
  refine condC_split (fun g1 => ?_) (fun g1 => ?_)
  · exact absurd (g1.symm.trans h) (by decide)
  · skip
    simp -implicitDefEqProofs only [push_cast, seval]
    refine callE_p (pnew_kb s k m hk) ?_
    simp -implicitDefEqProofs only [push_cast, halfZ, halfPV, bne_self_eq_false, seval]
    refine callE_p (near0 b) ?_
    simp -implicitDefEqProofs only [push_cast, halfZ, halfPV, bne_self_eq_false, seval]
    refine callE_p (got0 b) ?_
    simp -implicitDefEqProofs only [push_cast, halfZ, halfPV, bne_self_eq_false, seval]
    refine callE_p tick0 ?_
    simp -implicitDefEqProofs only [push_cast, halfZ, halfPV, bne_self_eq_false, seval]
    refine callE_p out0 ?_
    simp -implicitDefEqProofs only [push_cast, halfZ, halfPV, bne_self_eq_false, seval]
    refine callE_p due0 ?_
    simp -implicitDefEqProofs only [push_cast, halfZ, halfPV, bne_self_eq_false, seval]
    refine callE_p dead0 ?_
    simp -implicitDefEqProofs only [push_cast, halfZ, halfPV, bne_self_eq_false, seval]
    refine callE_p quiet0 ?_
    simp -implicitDefEqProofs only [push_cast, halfZ, halfPV, bne_self_eq_false, seval]
    refine callE_p (cnew_no k hk) ?_
    simp -implicitDefEqProofs only [push_cast, endPV, seval]
    refine callE_p hl ?_
    simp -implicitDefEqProofs only [push_cast, endPV, seval]
    refine callE_p awake_fs ?_
    simp -implicitDefEqProofs only [push_cast, seval]
    all_goals (first | done | rfl | exact ⟨_, rfl, by simp [wkL, res2, res1, PV.weak, PV.el]⟩ | (simp [wkL, res2, res1, PV.weak, PV.el]; done))
theorem pn_mb (s : Bool) (k m : Int) (b : List UInt8) (h : (decide (1000 < k) || decide (100 < (b.length : Int))) = false) (hk : cnB k = false) (hm : lnB m = true) : Fsp Tryd.prog 3 [] 0 [.bool s, .int .i64 1, .int .i64 k, .int .i64 m, .str b] [] 0 (.bool true) := by
  (refine Fsp.ofs (nx := 0) mixed Tryd.func3 rfl (by simp [Tryd.f3]) ?_; simp -implicitDefEqProofs only [push_cast, Tryd.f3, seval])
  refine condC_split (fun g1 => ?_) (fun g1 => ?_)
  · exact absurd (g1.symm.trans h) (by decide)
  · skip
    simp -implicitDefEqProofs only [push_cast, seval]
    refine callE_p (pnew_mb s k m hk hm) ?_
    simp -implicitDefEqProofs only [push_cast, halfZ, halfPV, bne_self_eq_false, seval]
    refine callE_p (near0 b) ?_
    simp -implicitDefEqProofs only [push_cast, halfZ, halfPV, bne_self_eq_false, seval]
    refine callE_p (got0 b) ?_
    simp -implicitDefEqProofs only [push_cast, halfZ, halfPV, bne_self_eq_false, seval]
    refine callE_p tick0 ?_
    simp -implicitDefEqProofs only [push_cast, halfZ, halfPV, bne_self_eq_false, seval]
    refine callE_p out0 ?_
    simp -implicitDefEqProofs only [push_cast, halfZ, halfPV, bne_self_eq_false, seval]
    refine callE_p due0 ?_
    simp -implicitDefEqProofs only [push_cast, halfZ, halfPV, bne_self_eq_false, seval]
    refine callE_p dead0 ?_
    simp -implicitDefEqProofs only [push_cast, halfZ, halfPV, bne_self_eq_false, seval]
    refine callE_p quiet0 ?_
    simp -implicitDefEqProofs only [push_cast, halfZ, halfPV, bne_self_eq_false, seval]
    refine callE_p (cnew_ok k hk) ?_
    simp -implicitDefEqProofs only [push_cast, endPV, seval]
    refine callE_p (lnew_no m hm) ?_
    simp -implicitDefEqProofs only [push_cast, endPV, seval]
    refine callE_p awake_fs ?_
    simp -implicitDefEqProofs only [push_cast, seval]
    all_goals (first | done | rfl | exact ⟨_, rfl, by simp [wkL, res2, res1, PV.weak, PV.el]⟩ | (simp [wkL, res2, res1, PV.weak, PV.el]; done))
theorem pn_oka (k m : Int) (b : List UInt8) (h : (decide (1000 < k) || decide (100 < (b.length : Int))) = false) (hk : cnB k = false) (hm : lnB m = false) : Fsp Tryd.prog 3 [] 0 [.bool false, .int .i64 0, .int .i64 k, .int .i64 m, .str b] [] 0 (.bool true) := by
  (refine Fsp.ofs (nx := 0) mixed Tryd.func3 rfl (by simp [Tryd.f3]) ?_; simp -implicitDefEqProofs only [push_cast, Tryd.f3, seval])
  refine condC_split (fun g1 => ?_) (fun g1 => ?_)
  · exact absurd (g1.symm.trans h) (by decide)
  · skip
    simp -implicitDefEqProofs only [push_cast, seval]
    refine callE_p (pnew_oka k m hk hm) ?_
    simp -implicitDefEqProofs only [push_cast, halfZ, halfPV, bne_self_eq_false, seval]
    refine callE_p (near0 b) ?_
    simp -implicitDefEqProofs only [push_cast, halfZ, halfPV, bne_self_eq_false, seval]
    refine callE_p (got0 b) ?_
    simp -implicitDefEqProofs only [push_cast, halfZ, halfPV, bne_self_eq_false, seval]
    refine callE_p tick0 ?_
    simp -implicitDefEqProofs only [push_cast, halfZ, halfPV, bne_self_eq_false, seval]
    refine callE_p out0 ?_
    simp -implicitDefEqProofs only [push_cast, halfZ, halfPV, bne_self_eq_false, seval]
    refine callE_p due0 ?_
    simp -implicitDefEqProofs only [push_cast, halfZ, halfPV, bne_self_eq_false, seval]
    refine callE_p dead0 ?_
    simp -implicitDefEqProofs only [push_cast, halfZ, halfPV, bne_self_eq_false, seval]
    refine callE_p quiet0 ?_
    simp -implicitDefEqProofs only [push_cast, halfZ, halfPV, bne_self_eq_false, seval]
    refine callE_p (cnew_ok k hk) ?_
    simp -implicitDefEqProofs only [push_cast, endPV, halfPV, seval]
    refine callE_p (lnew_ok m hm) ?_
    simp -implicitDefEqProofs only [push_cast, endPV, halfPV, seval]
    refine callE_p (near1a k m) ?_
    simp -implicitDefEqProofs only [push_cast, endPV, halfPV, seval]
    refine callE_p (dead1a k m) ?_
    simp -implicitDefEqProofs only [push_cast, endPV, halfPV, seval]
    refine callE_p (quiet1a k m) ?_
    simp -implicitDefEqProofs only [push_cast, endPV, halfPV, seval]
    refine callE_p awake_fs ?_
    simp -implicitDefEqProofs only [push_cast, seval]
    all_goals (first | done | rfl | exact ⟨_, rfl, by simp [wkL, res2, res1, PV.weak, PV.el]⟩ | (simp [wkL, res2, res1, PV.weak, PV.el]; done))
theorem pn_okb (k m : Int) (b : List UInt8) (h : (decide (1000 < k) || decide (100 < (b.length : Int))) = false) (hk : cnB k = false) (hm : lnB m = false) : Fsp Tryd.prog 3 [] 0 [.bool false, .int .i64 1, .int .i64 k, .int .i64 m, .str b] [] 0 (.bool true) := by
  (refine Fsp.ofs (nx := 0) mixed Tryd.func3 rfl (by simp [Tryd.f3]) ?_; simp -implicitDefEqProofs only [push_cast, Tryd.f3, seval])
  refine condC_split (fun g1 => ?_) (fun g1 => ?_)
  · exact absurd (g1.symm.trans h) (by decide)
  · skip
    simp -implicitDefEqProofs only [push_cast, seval]
    refine callE_p (pnew_okb k m hk hm) ?_
    simp -implicitDefEqProofs only [push_cast, halfZ, halfPV, bne_self_eq_false, seval]
    refine callE_p (near0 b) ?_
    simp -implicitDefEqProofs only [push_cast, halfZ, halfPV, bne_self_eq_false, seval]
    refine callE_p (got0 b) ?_
    simp -implicitDefEqProofs only [push_cast, halfZ, halfPV, bne_self_eq_false, seval]
    refine callE_p tick0 ?_
    simp -implicitDefEqProofs only [push_cast, halfZ, halfPV, bne_self_eq_false, seval]
    refine callE_p out0 ?_
    simp -implicitDefEqProofs only [push_cast, halfZ, halfPV, bne_self_eq_false, seval]
    refine callE_p due0 ?_
    simp -implicitDefEqProofs only [push_cast, halfZ, halfPV, bne_self_eq_false, seval]
    refine callE_p dead0 ?_
    simp -implicitDefEqProofs only [push_cast, halfZ, halfPV, bne_self_eq_false, seval]
    refine callE_p quiet0 ?_
    simp -implicitDefEqProofs only [push_cast, halfZ, halfPV, bne_self_eq_false, seval]
    refine callE_p (cnew_ok k hk) ?_
    simp -implicitDefEqProofs only [push_cast, endPV, halfPV, seval]
    refine callE_p (lnew_ok m hm) ?_
    simp -implicitDefEqProofs only [push_cast, endPV, halfPV, seval]
    refine callE_p (near1b k m) ?_
    simp -implicitDefEqProofs only [push_cast, endPV, halfPV, seval]
    refine callE_p (dead1b k m) ?_
    simp -implicitDefEqProofs only [push_cast, endPV, halfPV, seval]
    refine callE_p (quiet1b k m) ?_
    simp -implicitDefEqProofs only [push_cast, endPV, halfPV, seval]
    refine callE_p awake_fs ?_
    simp -implicitDefEqProofs only [push_cast, seval]
    all_goals (first | done | rfl | exact ⟨_, rfl, by simp [wkL, res2, res1, PV.weak, PV.el]⟩ | (simp [wkL, res2, res1, PV.weak, PV.el]; done))
theorem pn_okc (k m : Int) (b : List UInt8) (h : (decide (1000 < k) || decide (100 < (b.length : Int))) = false) (hk : cnB k = false) (hm : lnB m = false) : Fsp Tryd.prog 3 [] 0 [.bool true, .int .i64 0, .int .i64 k, .int .i64 m, .str b] [] 0 (.bool true) := by
  (refine Fsp.ofs (nx := 0) mixed Tryd.func3 rfl (by simp [Tryd.f3]) ?_; simp -implicitDefEqProofs only [push_cast, Tryd.f3, seval])
  refine condC_split (fun g1 => ?_) (fun g1 => ?_)
  · exact absurd (g1.symm.trans h) (by decide)
  · skip
    simp -implicitDefEqProofs only [push_cast, seval]
    refine callE_p (pnew_okc k m hk hm) ?_
    simp -implicitDefEqProofs only [push_cast, halfZ, halfPV, bne_self_eq_false, seval]
    refine callE_p (near0 b) ?_
    simp -implicitDefEqProofs only [push_cast, halfZ, halfPV, bne_self_eq_false, seval]
    refine callE_p (got0 b) ?_
    simp -implicitDefEqProofs only [push_cast, halfZ, halfPV, bne_self_eq_false, seval]
    refine callE_p tick0 ?_
    simp -implicitDefEqProofs only [push_cast, halfZ, halfPV, bne_self_eq_false, seval]
    refine callE_p out0 ?_
    simp -implicitDefEqProofs only [push_cast, halfZ, halfPV, bne_self_eq_false, seval]
    refine callE_p due0 ?_
    simp -implicitDefEqProofs only [push_cast, halfZ, halfPV, bne_self_eq_false, seval]
    refine callE_p dead0 ?_
    simp -implicitDefEqProofs only [push_cast, halfZ, halfPV, bne_self_eq_false, seval]
    refine callE_p quiet0 ?_
    simp -implicitDefEqProofs only [push_cast, halfZ, halfPV, bne_self_eq_false, seval]
    refine callE_p (cnew_ok k hk) ?_
    simp -implicitDefEqProofs only [push_cast, endPV, halfPV, seval]
    refine callE_p (lnew_ok m hm) ?_
    simp -implicitDefEqProofs only [push_cast, endPV, halfPV, seval]
    refine callE_p (near1c k m) ?_
    simp -implicitDefEqProofs only [push_cast, endPV, halfPV, seval]
    refine callE_p (dead1c k m) ?_
    simp -implicitDefEqProofs only [push_cast, endPV, halfPV, seval]
    refine callE_p (quiet1c k m) ?_
    simp -implicitDefEqProofs only [push_cast, endPV, halfPV, seval]
    refine callE_p awake_fs ?_
    simp -implicitDefEqProofs only [push_cast, seval]
    all_goals (first | done | rfl | exact ⟨_, rfl, by simp [wkL, res2, res1, PV.weak, PV.el]⟩ | (simp [wkL, res2, res1, PV.weak, PV.el]; done))
theorem pn_okd (k m : Int) (b : List UInt8) (h : (decide (1000 < k) || decide (100 < (b.length : Int))) = false) (hk : cnB k = false) (hm : lnB m = false) : Fsp Tryd.prog 3 [] 0 [.bool true, .int .i64 1, .int .i64 k, .int .i64 m, .str b] [] 0 (.bool true) := by
  (refine Fsp.ofs (nx := 0) mixed Tryd.func3 rfl (by simp [Tryd.f3]) ?_; simp -implicitDefEqProofs only [push_cast, Tryd.f3, seval])
  refine condC_split (fun g1 => ?_) (fun g1 => ?_)
  · exact absurd (g1.symm.trans h) (by decide)
  · skip
    simp -implicitDefEqProofs only [push_cast, seval]
    refine callE_p (pnew_okd k m hk hm) ?_
    simp -implicitDefEqProofs only [push_cast, halfZ, halfPV, bne_self_eq_false, seval]
    refine callE_p (near0 b) ?_
    simp -implicitDefEqProofs only [push_cast, halfZ, halfPV, bne_self_eq_false, seval]
    refine callE_p (got0 b) ?_
    simp -implicitDefEqProofs only [push_cast, halfZ, halfPV, bne_self_eq_false, seval]
    refine callE_p tick0 ?_
    simp -implicitDefEqProofs only [push_cast, halfZ, halfPV, bne_self_eq_false, seval]
    refine callE_p out0 ?_
    simp -implicitDefEqProofs only [push_cast, halfZ, halfPV, bne_self_eq_false, seval]
    refine callE_p due0 ?_
    simp -implicitDefEqProofs only [push_cast, halfZ, halfPV, bne_self_eq_false, seval]
    refine callE_p dead0 ?_
    simp -implicitDefEqProofs only [push_cast, halfZ, halfPV, bne_self_eq_false, seval]
    refine callE_p quiet0 ?_
    simp -implicitDefEqProofs only [push_cast, halfZ, halfPV, bne_self_eq_false, seval]
    refine callE_p (cnew_ok k hk) ?_
    simp -implicitDefEqProofs only [push_cast, endPV, halfPV, seval]
    refine callE_p (lnew_ok m hm) ?_
    simp -implicitDefEqProofs only [push_cast, endPV, halfPV, seval]
    refine callE_p (near1d k m) ?_
    simp -implicitDefEqProofs only [push_cast, endPV, halfPV, seval]
    refine callE_p (dead1d k m) ?_
    simp -implicitDefEqProofs only [push_cast, endPV, halfPV, seval]
    refine callE_p (quiet1d k m) ?_
    simp -implicitDefEqProofs only [push_cast, endPV, halfPV, seval]
    refine callE_p awake_fs ?_
    simp -implicitDefEqProofs only [push_cast, seval]
    all_goals (first | done | rfl | exact ⟨_, rfl, by simp [wkL, res2, res1, PV.weak, PV.el]⟩ | (simp [wkL, res2, res1, PV.weak, PV.el]; done))
theorem proxyNew_fs (s : Bool) (o k m : Int) (b : List UInt8) : Fsp Tryd.prog 3 [] 0 [.bool s, .int .i64 o, .int .i64 k, .int .i64 m, .str b] [] 0 (.bool true) := by
  cases h : (decide (1000 < k) || decide (100 < (b.length : Int))) with
  | true => exact pn_big s o k m b h
  | false =>
    cases ho : oB o with
    | true => exact pn_ord s o k m b h ho
    | false =>
      have hoo : o = 0 ∨ o = 1 := by
        by_cases h0 : o = 0
        · exact .inl h0
        · refine .inr ?_
          simp [oB, h0] at ho
          exact ho
      cases hk : cnB k with
      | true => rcases hoo with rfl | rfl; exact pn_ka s k m b h hk; exact pn_kb s k m b h hk
      | false =>
        cases hm : lnB m with
        | true => rcases hoo with rfl | rfl; exact pn_ma s k m b h hk hm; exact pn_mb s k m b h hk hm
        | false =>
          cases s with
          | false => rcases hoo with rfl | rfl; exact pn_oka k m b h hk hm; exact pn_okb k m b h hk hm
          | true => rcases hoo with rfl | rfl; exact pn_okc k m b h hk hm; exact pn_okd k m b h hk hm
end Go.Proofs.Sh
