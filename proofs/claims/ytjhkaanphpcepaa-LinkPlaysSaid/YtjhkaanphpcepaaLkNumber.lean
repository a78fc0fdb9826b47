/- number: pieces are numbered, as far as there is room. -/
import Derived.Test.YtjhkaanphpcepaaLkClone
set_option maxRecDepth 100000
set_option linter.unusedSimpArgs false
set_option linter.unusedVariables false
namespace Go.Proofs.Lk
open Go.Pv


/-- An end whose pieces under way are its own. -/
def En.own (e : En) (k : Nat) : List PV := e.cs (.slt 3 (e.way.map Pc.pv) k)
structure NuS (e : En) where
  c : En
  h : numL 17 c = numL 17 e
  hw : c.way.length ≤ 16
  hn : c.next - c.way.length = e.next - e.way.length
  hr : c.rest.length ≤ e.rest.length
  hm : c.most = e.most
def NuS.st {e : En} (a : NuS e) : PS := { n := 62, env := [(0, .box 0 0)], objs := [(0, some (a.c.own 50))], live := [(50, true)], nxt := 60 }
theorem number_fs (e : En) (h1 : 0 ≤ e.most) (h2 : e.most ≤ 1000000) (h3 : e.rest.length ≤ 1000000) (h4 : e.way.length ≤ 16) (h5 : 0 ≤ e.next) (h6 : e.next ≤ 1000000000) :
    Fsp Try.prog 34 [e.own 0] 1 [.box 0 0] [e.number.own 0] 1 (.tup []) := by
  (refine Fsp.of (nx := 1) mixed Try.func34 rfl (by decide) (Nat.le_refl _) (by simp [Try.f34]) ⟨by simp, by simp⟩ ?_; simp -implicitDefEqProofs only [push_cast, Try.f34, En.own, En.cs, Int.reduceBEq, Int.reduceBNe, Int.reduceEq, Int.reduceNe, Int.reducePow, Nat.reduceAdd, Nat.reduceMul, Nat.reduceSub, Nat.reduceLT, Nat.reduceLeDiff, Nat.reduceEqDiff, Nat.reduceBEq, Int.reduceLT, Int.reduceLE, Int.reduceAdd, Int.reduceSub, Int.reduceMul, Int.reduceToNat, Int.reduceNeg, reduceIte, reduceCtorEq, reduceBEq])
  refine loopC_of (α := NuS e) NuS.st (fun a => 16 - a.c.way.length) ⟨e, rfl, h4, rfl, Nat.le_refl _, rfl⟩ ?_ ?_
  · (simp only [NuS.st, En.own, En.cs]; exact Wk.by _ _ _ [(0, 0)] [(50, 0)] [] (by simp) (by simp [wkV, PV.el, PV.weak, PS.get, PS.obj, PS.lv, lkp_hit, lkp_miss, lkp_nil, lko]) (by simp [PS.get, PS.obj, PS.lv, lkp_hit, lkp_miss, lkp_nil, lko, wkL, wkC, PV.weak]) (by simp [PS.get, PS.obj, PS.lv, lkp_hit, lkp_miss, lkp_nil, lko]) (by rfl) (by rfl) (by simp [lko]) (by simp) (by simp) (by simp) (fun i hi => by cases Nat.lt_one_iff.1 hi; rfl))
  · rintro ⟨c, hc, hw, hn, hr, hm⟩
    simp -implicitDefEqProofs only [push_cast, NuS.st, En.own, En.cs, Int.reduceBEq, Int.reduceBNe, Int.reduceEq, Int.reduceNe, Int.reducePow, Nat.reduceAdd, Nat.reduceMul, Nat.reduceSub, Nat.reduceLT, Nat.reduceLeDiff, Nat.reduceEqDiff, Nat.reduceBEq, Int.reduceLT, Int.reduceLE, Int.reduceAdd, Int.reduceSub, Int.reduceMul, Int.reduceToNat, Int.reduceNeg, reduceIte, reduceCtorEq, reduceBEq]
    refine condC_split (fun h => ?_) (fun h => ?_)
    · simp -implicitDefEqProofs only [push_cast, Int.reduceBEq, Int.reduceBNe, Int.reduceEq, Int.reduceNe, Int.reducePow, Nat.reduceAdd, Nat.reduceMul, Nat.reduceSub, Nat.reduceLT, Nat.reduceLeDiff, Nat.reduceEqDiff, Nat.reduceBEq, Int.reduceLT, Int.reduceLE, Int.reduceAdd, Int.reduceSub, Int.reduceMul, Int.reduceToNat, Int.reduceNeg, reduceIte, reduceCtorEq, reduceBEq]
      rw [List.length_map] at h
      have hl : c.way.length < 16 := by simp at h; omega
      refine ⟨by unfold drawOk; kernel_rfl, by split <;> omega, by split <;> omega, by simp; omega, by simp; omega, by unfold drawOk; kernel_rfl, by split <;> omega, by split <;> omega, Nat.le_refl _, ?_⟩
      rw [wrap_i64_id (n := c.next + 1) (by omega) (by omega)]
      have hmn : c.mn.toNat ≤ c.rest.length := by unfold En.mn; split <;> omega
      refine ⟨⟨c.num1, ?_, ?_, ?_, ?_, hm⟩, ?_, ?_⟩
      · rw [← hc, numL_stable 16 c.num1 (by simp [En.num1])]
        show _ = (if (c.rest != [] && decide ((c.way.length : Int) < 16)) = true then numL 16 c.num1 else c)
        rw [if_pos h]
      · simp [En.num1]; omega
      · simp [En.num1]; omega
      · simp only [En.num1, List.length_drop]; omega
      · simp [En.num1]; omega
      · rw [List.take_of_length_le (show (List.drop _ c.rest).length ≤ c.rest.length - _ by rw [List.length_drop]; exact Nat.le_refl _)]
        (simp only [NuS.st, En.own, En.cs, En.num1]; exact Wk.by _ _ _ [(0, 0)] [(50, 224)] [] (by simp) (by simp [wkV, PV.el, PV.weak, PS.get, PS.obj, PS.lv, lkp_hit, lkp_miss, lkp_nil, lko, En.mn, Pc.pv]) (by simp [PS.get, PS.obj, PS.lv, lkp_hit, lkp_miss, lkp_nil, lko, wkL, wkC, PV.weak, En.mn, Pc.pv]) (by simp [PS.get, PS.obj, PS.lv, lkp_hit, lkp_miss, lkp_nil, lko]) (by rfl) (by rfl) (by simp [lko]) (by simp) (by simp) (by simp) (fun i hi => by cases Nat.lt_one_iff.1 hi; rfl))
    · simp -implicitDefEqProofs only [push_cast, Int.reduceBEq, Int.reduceBNe, Int.reduceEq, Int.reduceNe, Int.reducePow, Nat.reduceAdd, Nat.reduceMul, Nat.reduceSub, Nat.reduceLT, Nat.reduceLeDiff, Nat.reduceEqDiff, Nat.reduceBEq, Int.reduceLT, Int.reduceLE, Int.reduceAdd, Int.reduceSub, Int.reduceMul, Int.reduceToNat, Int.reduceNeg, reduceIte, reduceCtorEq, reduceBEq]
      rw [List.length_map] at h
      rw [show e.number = c by rw [En.number, ← hc, numL, if_neg (by rw [h]; exact Bool.false_ne_true)]]
      refine endK_box1 [50] rfl rfl (by simp [PS.lv, lkp_hit]) (by simp [PS.obj, lkp_hit]; rfl) (by simp [wkL, res1, PV.weak]) ⟨by simp [resOk], by simp [resPV], by simp [resOf, resPV, one', res3, wkL]⟩
end Go.Proofs.Lk
