/- acknowledge: pieces that came are taken away. -/
import Derived.Test.YtjhkaanphpcepaaLkNumber
set_option maxRecDepth 100000
set_option linter.unusedSimpArgs false
set_option linter.unusedVariables false
namespace Go.Proofs.Lk
open Go.Pv


def En.ackn (e : En) (told : Int) : En := { e with way := e.way.dropWhile fun p => decide (p.n < told) }
structure AkS (e : En) (told : Int) where
  i : Nat
  hi : i ≤ e.way.length
  h : e.way.dropWhile (fun p => decide (p.n < told)) = (e.way.drop i).dropWhile (fun p => decide (p.n < told))
def AkS.st {e : En} {told : Int} (a : AkS e told) : PS := { n := 32, env := [(12, .int .i64 a.i), (11, .int .i64 e.way.length), (10, .sl 3 (e.way.map Pc.pv)), (4, .int .i64 a.i), (1, .int .i64 told), (0, .box 0 0)], objs := [(0, some (e.own 50))], live := [(50, true)], nxt := 60 }
def pc0 : Pc := ⟨0, [], false⟩
theorem pcs_at {l : List Pc} {i : Nat} (h : i < l.length) : (l.map Pc.pv).getD i .any = (l.getD i pc0).pv := by
  simp [List.getD_eq_getElem?_getD, List.getElem?_map, List.getElem?_eq_getElem h]
theorem pcs_drop {l : List Pc} {i : Nat} (h : i < l.length) : l.drop i = l.getD i pc0 :: l.drop (i + 1) := by
  rw [List.drop_eq_getElem_cons h, List.getD_eq_getElem?_getD, List.getElem?_eq_getElem h]; rfl
theorem ackn_fs (e : En) (told : Int) (hl : e.way.length ≤ 1000) : Fsp Try.prog 38 [e.own 0] 1 [.box 0 0, .int .i64 told] [(e.ackn told).own 0] 1 (.tup []) := by
  (refine Fsp.of (nx := 1) mixed Try.func38 rfl (by decide) (Nat.le_refl _) (by simp [Try.f38]) ⟨by simp, by simp⟩ ?_; simp -implicitDefEqProofs only [push_cast, Try.f38, En.own, En.cs, Int.reduceBEq, Int.reduceBNe, Int.reduceEq, Int.reduceNe, Int.reducePow, Nat.reduceAdd, Nat.reduceMul, Nat.reduceSub, Nat.reduceLT, Nat.reduceLeDiff, Nat.reduceEqDiff, Nat.reduceBEq, Int.reduceLT, Int.reduceLE, Int.reduceAdd, Int.reduceSub, Int.reduceMul, Int.reduceToNat, Int.reduceNeg, reduceIte, reduceCtorEq, reduceBEq])
  refine loopC_of (α := AkS e told) AkS.st (fun a => e.way.length - a.i) ⟨0, by omega, rfl⟩ ?_ ?_
  · (simp only [AkS.st, En.own, En.cs]; exact Wk.by _ _ _ [(0, 0)] [(50, 0)] [] (by simp) (by simp [wkV, PV.el, PV.weak, PS.get, PS.obj, PS.lv, lkp_hit, lkp_miss, lkp_nil, lko]) (by simp [PS.get, PS.obj, PS.lv, lkp_hit, lkp_miss, lkp_nil, lko, wkL, wkC, PV.weak]) (by simp [PS.get, PS.obj, PS.lv, lkp_hit, lkp_miss, lkp_nil, lko]) (by rfl) (by rfl) (by simp [lko]) (by simp) (by simp) (by simp) (fun i hi => by cases Nat.lt_one_iff.1 hi; rfl))
  · rintro ⟨i, hi, hd⟩
    simp -implicitDefEqProofs only [push_cast, AkS.st, En.own, En.cs, Int.reduceBEq, Int.reduceBNe, Int.reduceEq, Int.reduceNe, Int.reducePow, Nat.reduceAdd, Nat.reduceMul, Nat.reduceSub, Nat.reduceLT, Nat.reduceLeDiff, Nat.reduceEqDiff, Nat.reduceBEq, Int.reduceLT, Int.reduceLE, Int.reduceAdd, Int.reduceSub, Int.reduceMul, Int.reduceToNat, Int.reduceNeg, reduceIte, reduceCtorEq, reduceBEq]
    refine condC_split (fun h => ?_) (fun h => ?_)
    · have hlt : i < e.way.length := by simpa using h
      have hg := pcs_at hlt
      simp -implicitDefEqProofs only [push_cast, hg, Pc.pv, Int.reduceBEq, Int.reduceBNe, Int.reduceEq, Int.reduceNe, Int.reducePow, Nat.reduceAdd, Nat.reduceMul, Nat.reduceSub, Nat.reduceLT, Nat.reduceLeDiff, Nat.reduceEqDiff, Nat.reduceBEq, Int.reduceLT, Int.reduceLE, Int.reduceAdd, Int.reduceSub, Int.reduceMul, Int.reduceToNat, Int.reduceNeg, reduceIte, reduceCtorEq, reduceBEq]
      refine ⟨by simpa using hlt, ?_⟩
      refine condC_split (fun h2 => ?_) (fun h2 => ?_)
      · have hq : (e.way.drop i).dropWhile (fun p => decide (p.n < told)) = e.way.drop i := by
          rw [pcs_drop hlt, List.dropWhile_cons_of_neg (by simp at h2 ⊢; omega)]
        simp -implicitDefEqProofs only [push_cast, Int.reduceBEq, Int.reduceBNe, Int.reduceEq, Int.reduceNe, Int.reducePow, Nat.reduceAdd, Nat.reduceMul, Nat.reduceSub, Nat.reduceLT, Nat.reduceLeDiff, Nat.reduceEqDiff, Nat.reduceBEq, Int.reduceLT, Int.reduceLE, Int.reduceAdd, Int.reduceSub, Int.reduceMul, Int.reduceToNat, Int.reduceNeg, reduceIte, reduceCtorEq, reduceBEq]
        refine ⟨by simp; omega, ?_⟩
        refine endK_box1 [50] rfl rfl (by simp [PS.lv, lkp_hit]) (by simp [PS.obj, lkp_hit]; rfl) (by simp [wkL, res1, PV.weak, En.ackn, hd, hq, List.map_drop]) ⟨by simp [resOk], by simp [resPV], by simp [resOf, resPV, one', res3, wkL]⟩
      · simp -implicitDefEqProofs only [push_cast, Int.reduceBEq, Int.reduceBNe, Int.reduceEq, Int.reduceNe, Int.reducePow, Nat.reduceAdd, Nat.reduceMul, Nat.reduceSub, Nat.reduceLT, Nat.reduceLeDiff, Nat.reduceEqDiff, Nat.reduceBEq, Int.reduceLT, Int.reduceLE, Int.reduceAdd, Int.reduceSub, Int.reduceMul, Int.reduceToNat, Int.reduceNeg, reduceIte, reduceCtorEq, reduceBEq]
        rw [show IntKind.i64.wrap ((i : Int) + 1) = ((i + 1 : Nat) : Int) by rw [wrap_i64_id (by omega) (by omega)]; rfl]
        refine ⟨⟨i + 1, by omega, ?_⟩, by simp only; omega, ?_⟩
        · rw [hd, pcs_drop hlt, List.dropWhile_cons_of_pos (by simp at h2 ⊢; omega)]
        · (simp only [AkS.st, En.own, En.cs]; exact Wk.by _ _ _ [(0, 0)] [(50, 50)] [] (by simp) (by simp [wkV, PV.el, PV.weak, PS.get, PS.obj, PS.lv, lkp_hit, lkp_miss, lkp_nil, lko]) (by simp [PS.get, PS.obj, PS.lv, lkp_hit, lkp_miss, lkp_nil, lko, wkL, wkC, PV.weak]) (by simp [PS.get, PS.obj, PS.lv, lkp_hit, lkp_miss, lkp_nil, lko]) (by rfl) (by rfl) (by simp [lko]) (by simp) (by simp) (by simp) (fun i hi => by cases Nat.lt_one_iff.1 hi; rfl))
    · have he : i = e.way.length := by simp at h; omega
      simp -implicitDefEqProofs only [push_cast, Int.reduceBEq, Int.reduceBNe, Int.reduceEq, Int.reduceNe, Int.reducePow, Nat.reduceAdd, Nat.reduceMul, Nat.reduceSub, Nat.reduceLT, Nat.reduceLeDiff, Nat.reduceEqDiff, Nat.reduceBEq, Int.reduceLT, Int.reduceLE, Int.reduceAdd, Int.reduceSub, Int.reduceMul, Int.reduceToNat, Int.reduceNeg, reduceIte, reduceCtorEq, reduceBEq]
      refine ⟨by simp; omega, ?_⟩
      refine endK_box1 [50] rfl rfl (by simp [PS.lv, lkp_hit]) (by simp [PS.obj, lkp_hit]; rfl) (by subst he; simp [wkL, res1, PV.weak, En.ackn, hd]) ⟨by simp [resOk], by simp [resPV], by simp [resOf, resPV, one', res3, wkL]⟩
end Go.Proofs.Lk
