/- texts. -/
import Derived.Test.YtjhkaanphpcepaaLkActs
set_option maxRecDepth 100000
set_option linter.unusedSimpArgs false
set_option linter.unusedVariables false
namespace Go.Proofs.Lk
open Go.Pv


theorem strs_at {l : List (List UInt8)} {i : Nat} (h : i < l.length) : (l.map PV.str).getD i .any = .str (l.getD i []) := by
  simp [List.getD_eq_getElem?_getD, h]
structure TxS (a b : List (List UInt8)) where
  i : Nat
  hi : i ≤ a.length
  hn : a.take i = b.take i
def TxS.st {a b : List (List UInt8)} (x : TxS a b) : PS := { n := 26, env := [(5, .int .i64 x.i), (4, .bool false), (1, .sl 1 (b.map .str)), (0, .sl 1 (a.map .str))], objs := [], live := [], nxt := 60 }
theorem texts_fs (a b : List (List UInt8)) (ha : a.length ≤ 1000000) : Fsp Try.prog 21 [] 0 [.sl 1 (a.map .str), .sl 1 (b.map .str)] [] 0 (.bool (decide (a = b))) := by
  (refine Fsp.of (nx := 0) mixed Try.func21 rfl (by decide) (by first | exact Nat.le_refl _ | simp) (by simp [Try.f21]) ⟨by decide, by decide⟩ ?_; simp -implicitDefEqProofs only [push_cast, Try.f21, Int.reduceBEq, Int.reduceBNe, Int.reduceEq, Int.reduceNe, Int.reducePow, Nat.reduceAdd, Nat.reduceMul, Nat.reduceSub, Nat.reduceLT, Nat.reduceLeDiff, Nat.reduceEqDiff, Nat.reduceBEq, Int.reduceLT, Int.reduceLE, Int.reduceAdd, Int.reduceSub, Int.reduceMul, Int.reduceToNat, Int.reduceNeg, reduceIte, reduceCtorEq, reduceBEq])
  refine condC_split (fun h => ?_) (fun h => ?_)
  · have hne : a ≠ b := by
      rintro rfl
      simp at h
    rw [decide_eq_false hne]
    simp -implicitDefEqProofs only [push_cast, Int.reduceBEq, Int.reduceBNe, Int.reduceEq, Int.reduceNe, Int.reducePow, Nat.reduceAdd, Nat.reduceMul, Nat.reduceSub, Nat.reduceLT, Nat.reduceLeDiff, Nat.reduceEqDiff, Nat.reduceBEq, Int.reduceLT, Int.reduceLE, Int.reduceAdd, Int.reduceSub, Int.reduceMul, Int.reduceToNat, Int.reduceNeg, reduceIte, reduceCtorEq, reduceBEq]
  · have hl : a.length = b.length := by simp at h; omega
    simp -implicitDefEqProofs only [push_cast, Int.reduceBEq, Int.reduceBNe, Int.reduceEq, Int.reduceNe, Int.reducePow, Nat.reduceAdd, Nat.reduceMul, Nat.reduceSub, Nat.reduceLT, Nat.reduceLeDiff, Nat.reduceEqDiff, Nat.reduceBEq, Int.reduceLT, Int.reduceLE, Int.reduceAdd, Int.reduceSub, Int.reduceMul, Int.reduceToNat, Int.reduceNeg, reduceIte, reduceCtorEq, reduceBEq]
    refine loopC_of (α := TxS a b) TxS.st (fun x => a.length - x.i) ⟨0, by omega, by simp⟩ ?_ ?_
    · (simp only [TxS.st]; exact Wk.by _ _ _ [] [] [] (by simp) (by simp [wkV, PV.el, PV.weak, PS.get, PS.obj, PS.lv, lkp_hit, lkp_miss, lkp_nil, lko]) (by simp [PS.get, PS.obj, PS.lv, lkp_hit, lkp_miss, lkp_nil, lko, wkL, wkC, PV.weak]) (by simp [PS.get, PS.obj, PS.lv, lkp_hit, lkp_miss, lkp_nil, lko]) (by rfl) (by rfl) (by simp [lko]) (by simp) (by simp) (by simp) (fun i hi => absurd hi (Nat.not_lt_zero i)))
    · rintro ⟨i, hi, hn⟩
      simp -implicitDefEqProofs only [push_cast, TxS.st, Int.reduceBEq, Int.reduceBNe, Int.reduceEq, Int.reduceNe, Int.reducePow, Nat.reduceAdd, Nat.reduceMul, Nat.reduceSub, Nat.reduceLT, Nat.reduceLeDiff, Nat.reduceEqDiff, Nat.reduceBEq, Int.reduceLT, Int.reduceLE, Int.reduceAdd, Int.reduceSub, Int.reduceMul, Int.reduceToNat, Int.reduceNeg, reduceIte, reduceCtorEq, reduceBEq]
      refine condC_split (fun h2 => ?_) (fun h2 => ?_)
      · have hlt : i < a.length := by simp at h2; omega
        have hg := strs_at hlt
        have hg2 := strs_at (l := b) (i := i) (by omega)
        simp -implicitDefEqProofs only [push_cast, hg, hg2, Int.reduceBEq, Int.reduceBNe, Int.reduceEq, Int.reduceNe, Int.reducePow, Nat.reduceAdd, Nat.reduceMul, Nat.reduceSub, Nat.reduceLT, Nat.reduceLeDiff, Nat.reduceEqDiff, Nat.reduceBEq, Int.reduceLT, Int.reduceLE, Int.reduceAdd, Int.reduceSub, Int.reduceMul, Int.reduceToNat, Int.reduceNeg, reduceIte, reduceCtorEq, reduceBEq]
        refine ⟨by simpa using hlt, by rw [List.length_map]; omega, by (unfold drawOk; kernel_rfl), ?_⟩
        refine condC_split (fun h3 => ?_) (fun h3 => ?_)
        · have hne : a ≠ b := by
            rintro rfl
            simp at h3
          rw [decide_eq_false hne]
          simp -implicitDefEqProofs only [push_cast, Int.reduceBEq, Int.reduceBNe, Int.reduceEq, Int.reduceNe, Int.reducePow, Nat.reduceAdd, Nat.reduceMul, Nat.reduceSub, Nat.reduceLT, Nat.reduceLeDiff, Nat.reduceEqDiff, Nat.reduceBEq, Int.reduceLT, Int.reduceLE, Int.reduceAdd, Int.reduceSub, Int.reduceMul, Int.reduceToNat, Int.reduceNeg, reduceIte, reduceCtorEq, reduceBEq]
        · have hwr : IntKind.i64.wrap ((i : Int) + 1) = ((i + 1 : Nat) : Int) := by (rw [wrap_i64_id (by omega) (by omega)]; rfl)
          have he : a.getD i [] = b.getD i [] := by simpa only [bne_eq_false_iff_eq] using h3
          have hlb : i < b.length := by omega
          simp -implicitDefEqProofs only [push_cast, Int.reduceBEq, Int.reduceBNe, Int.reduceEq, Int.reduceNe, Int.reducePow, Nat.reduceAdd, Nat.reduceMul, Nat.reduceSub, Nat.reduceLT, Nat.reduceLeDiff, Nat.reduceEqDiff, Nat.reduceBEq, Int.reduceLT, Int.reduceLE, Int.reduceAdd, Int.reduceSub, Int.reduceMul, Int.reduceToNat, Int.reduceNeg, reduceIte, reduceCtorEq, reduceBEq]
          rw [hwr]
          refine ⟨⟨i + 1, by omega, ?_⟩, by simp only; omega, ?_⟩
          · rw [List.take_succ_eq_append_getElem hlt, List.take_succ_eq_append_getElem hlb, hn]
            rw [List.getD_eq_getElem?_getD, List.getElem?_eq_getElem hlt, Option.getD_some, List.getD_eq_getElem?_getD, List.getElem?_eq_getElem hlb, Option.getD_some] at he
            rw [he]
          · (simp only [TxS.st]; exact Wk.by _ _ _ [] [] [] (by simp) (by simp [wkV, PV.el, PV.weak, PS.get, PS.obj, PS.lv, lkp_hit, lkp_miss, lkp_nil, lko]) (by simp [PS.get, PS.obj, PS.lv, lkp_hit, lkp_miss, lkp_nil, lko, wkL, wkC, PV.weak]) (by simp [PS.get, PS.obj, PS.lv, lkp_hit, lkp_miss, lkp_nil, lko]) (by rfl) (by rfl) (by simp [lko]) (by simp) (by simp) (by simp) (fun i hi => absurd hi (Nat.not_lt_zero i)))
      · simp -implicitDefEqProofs only [push_cast, Int.reduceBEq, Int.reduceBNe, Int.reduceEq, Int.reduceNe, Int.reducePow, Nat.reduceAdd, Nat.reduceMul, Nat.reduceSub, Nat.reduceLT, Nat.reduceLeDiff, Nat.reduceEqDiff, Nat.reduceBEq, Int.reduceLT, Int.reduceLE, Int.reduceAdd, Int.reduceSub, Int.reduceMul, Int.reduceToNat, Int.reduceNeg, reduceIte, reduceCtorEq, reduceBEq]
        have hie : i = a.length := by simp at h2; omega
        subst hie
        have : a = b := by
          rw [List.take_length, hl, List.take_length] at hn
          exact hn
        rw [decide_eq_true this]
end Go.Proofs.Lk
