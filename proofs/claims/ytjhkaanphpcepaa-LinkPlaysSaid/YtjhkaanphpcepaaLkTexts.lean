/- great and texts. -/
import Derived.Test.YtjhkaanphpcepaaLkInv
set_option maxRecDepth 100000
set_option linter.unusedSimpArgs false
set_option linter.unusedVariables false
namespace Go.Proofs.Lk
open Go.Pv


structure Ac where
  k : Int
  b : List UInt8
def Ac.pv (a : Ac) : PV := .agg [.int .i64 a.k, .str a.b]
def ac0 : Ac := ⟨0, []⟩
theorem acs_at {l : List Ac} {i : Nat} (h : i < l.length) : (l.map Ac.pv).getD i .any = (l.getD i ac0).pv := by
  simp [List.getD_eq_getElem?_getD, h]
def greatB (l : List Ac) : Bool := (l.take 60).any (fun a => decide ((3000 : Int) < a.b.length)) || decide ((60 : Int) < l.length)
structure GrS (l : List Ac) where
  i : Nat
  hi : i ≤ l.length
  h60 : i ≤ 60
  hn : ∀ a ∈ l.take i, a.b.length ≤ 3000
def GrS.st {l : List Ac} (a : GrS l) : PS := { n := 24, env := [(3, .int .i64 a.i), (2, .bool false), (0, .sl 2 (l.map Ac.pv))], objs := [], live := [], nxt := 60 }
theorem great_fs (l : List Ac) : Fsp Try.prog 18 [] 0 [.sl 2 (l.map Ac.pv)] [] 0 (.bool (greatB l)) := by
  (refine Fsp.of (nx := 0) mixed Try.func18 rfl (by decide) (by first | exact Nat.le_refl _ | simp) (by simp [Try.f18]) ⟨by decide, by decide⟩ ?_; simp -implicitDefEqProofs only [push_cast, Try.f18, Int.reduceBEq, Int.reduceBNe, Int.reduceEq, Int.reduceNe, Int.reducePow, Nat.reduceAdd, Nat.reduceMul, Nat.reduceSub, Nat.reduceLT, Nat.reduceLeDiff, Nat.reduceEqDiff, Nat.reduceBEq, Int.reduceLT, Int.reduceLE, Int.reduceAdd, Int.reduceSub, Int.reduceMul, Int.reduceToNat, Int.reduceNeg, reduceIte, reduceCtorEq, reduceBEq])
  refine loopC_of (α := GrS l) GrS.st (fun a => l.length - a.i) ⟨0, by omega, by omega, by simp⟩ ?_ ?_
  · (simp only [GrS.st]; exact Wk.by _ _ _ [] [] [] (by simp) (by simp [wkV, PV.el, PV.weak, PS.get, PS.obj, PS.lv, lkp_hit, lkp_miss, lkp_nil, lko]) (by simp [PS.get, PS.obj, PS.lv, lkp_hit, lkp_miss, lkp_nil, lko, wkL, wkC, PV.weak]) (by simp [PS.get, PS.obj, PS.lv, lkp_hit, lkp_miss, lkp_nil, lko]) (by rfl) (by rfl) (by simp [lko]) (by simp) (by simp) (by simp) (fun i hi => absurd hi (Nat.not_lt_zero i)))
  · rintro ⟨i, hi, h60, hn⟩
    simp -implicitDefEqProofs only [push_cast, GrS.st, Int.reduceBEq, Int.reduceBNe, Int.reduceEq, Int.reduceNe, Int.reducePow, Nat.reduceAdd, Nat.reduceMul, Nat.reduceSub, Nat.reduceLT, Nat.reduceLeDiff, Nat.reduceEqDiff, Nat.reduceBEq, Int.reduceLT, Int.reduceLE, Int.reduceAdd, Int.reduceSub, Int.reduceMul, Int.reduceToNat, Int.reduceNeg, reduceIte, reduceCtorEq, reduceBEq]
    refine condC_split (fun h2 => ?_) (fun h2 => ?_)
    · have hlt : i < l.length := by simp at h2; omega
      have hlt60 : i < 60 := by simp at h2; omega
      have hg := acs_at hlt
      simp -implicitDefEqProofs only [push_cast, hg, Ac.pv, Int.reduceBEq, Int.reduceBNe, Int.reduceEq, Int.reduceNe, Int.reducePow, Nat.reduceAdd, Nat.reduceMul, Nat.reduceSub, Nat.reduceLT, Nat.reduceLeDiff, Nat.reduceEqDiff, Nat.reduceBEq, Int.reduceLT, Int.reduceLE, Int.reduceAdd, Int.reduceSub, Int.reduceMul, Int.reduceToNat, Int.reduceNeg, reduceIte, reduceCtorEq, reduceBEq]
      refine ⟨by simpa using hlt, ?_⟩
      have hq : l.getD i ac0 = l[i] := by rw [List.getD_eq_getElem?_getD, List.getElem?_eq_getElem hlt, Option.getD_some]
      refine condC_split (fun h3 => ?_) (fun h3 => ?_)
      · have hb : greatB l = true := by
          rw [greatB, Bool.or_eq_true]
          refine .inl (List.any_eq_true.2 ⟨l[i], ?_, by rw [← hq]; exact h3⟩)
          rw [List.mem_take_iff_getElem]
          exact ⟨i, by omega, rfl⟩
        rw [hb]
        simp -implicitDefEqProofs only [push_cast, Int.reduceBEq, Int.reduceBNe, Int.reduceEq, Int.reduceNe, Int.reducePow, Nat.reduceAdd, Nat.reduceMul, Nat.reduceSub, Nat.reduceLT, Nat.reduceLeDiff, Nat.reduceEqDiff, Nat.reduceBEq, Int.reduceLT, Int.reduceLE, Int.reduceAdd, Int.reduceSub, Int.reduceMul, Int.reduceToNat, Int.reduceNeg, reduceIte, reduceCtorEq, reduceBEq]
      · have hwr : IntKind.i64.wrap ((i : Int) + 1) = ((i + 1 : Nat) : Int) := by (rw [wrap_i64_id (by omega) (by omega)]; rfl)
        simp -implicitDefEqProofs only [push_cast, Int.reduceBEq, Int.reduceBNe, Int.reduceEq, Int.reduceNe, Int.reducePow, Nat.reduceAdd, Nat.reduceMul, Nat.reduceSub, Nat.reduceLT, Nat.reduceLeDiff, Nat.reduceEqDiff, Nat.reduceBEq, Int.reduceLT, Int.reduceLE, Int.reduceAdd, Int.reduceSub, Int.reduceMul, Int.reduceToNat, Int.reduceNeg, reduceIte, reduceCtorEq, reduceBEq]
        rw [hwr]
        refine ⟨⟨i + 1, by omega, by omega, ?_⟩, by simp only; omega, ?_⟩
        · intro a ha
          rw [List.take_succ_eq_append_getElem hlt] at ha
          rcases List.mem_append.1 ha with ha | ha
          · exact hn a ha
          · rw [List.mem_singleton] at ha
            subst ha
            rw [← hq]
            have h4 := of_decide_eq_false h3
            omega
        · (simp only [GrS.st]; exact Wk.by _ _ _ [] [] [] (by simp) (by simp [wkV, PV.el, PV.weak, PS.get, PS.obj, PS.lv, lkp_hit, lkp_miss, lkp_nil, lko]) (by simp [PS.get, PS.obj, PS.lv, lkp_hit, lkp_miss, lkp_nil, lko, wkL, wkC, PV.weak]) (by simp [PS.get, PS.obj, PS.lv, lkp_hit, lkp_miss, lkp_nil, lko]) (by rfl) (by rfl) (by simp [lko]) (by simp) (by simp) (by simp) (fun i hi => absurd hi (Nat.not_lt_zero i)))
    · simp -implicitDefEqProofs only [push_cast, Int.reduceBEq, Int.reduceBNe, Int.reduceEq, Int.reduceNe, Int.reducePow, Nat.reduceAdd, Nat.reduceMul, Nat.reduceSub, Nat.reduceLT, Nat.reduceLeDiff, Nat.reduceEqDiff, Nat.reduceBEq, Int.reduceLT, Int.reduceLE, Int.reduceAdd, Int.reduceSub, Int.reduceMul, Int.reduceToNat, Int.reduceNeg, reduceIte, reduceCtorEq, reduceBEq]
      have hany : (l.take 60).any (fun a => decide ((3000 : Int) < a.b.length)) = false := by
        rw [List.any_eq_false]
        intro a ha
        have : a ∈ l.take i := by
          have hi2 : i = l.length ∨ i = 60 := by simp at h2; omega
          rcases hi2 with e | e
          · rw [e, List.take_length]; exact List.mem_of_mem_take ha
          · rw [e]; exact ha
        have := hn a this
        simp; omega
      rw [greatB, hany, Bool.false_or, List.length_map]
end Go.Proofs.Lk

/- texts. -/
set_option maxRecDepth 100000
set_option linter.unusedSimpArgs false
set_option linter.unusedVariables false
namespace Go.Proofs.Lk
open Go.Pv


theorem strs_at {l : List (List UInt8)} {i : Nat} (h : i < l.length) : (l.map PV.str).getD i .any = .str (l.getD i []) := by
  simp [List.getD_eq_getElem?_getD, h]
structure TxS (a b : List (List UInt8)) where
  i : Nat
  hi : i ≤ a.length
  hn : a.take i = b.take i
def TxS.st {a b : List (List UInt8)} (x : TxS a b) : PS := { n := 26, env := [(5, .int .i64 x.i), (4, .bool false), (1, .sl 1 (b.map .str)), (0, .sl 1 (a.map .str))], objs := [], live := [], nxt := 60 }
theorem texts_fs (a b : List (List UInt8)) (ha : a.length ≤ 1000000) : Fsp Try.prog 21 [] 0 [.sl 1 (a.map .str), .sl 1 (b.map .str)] [] 0 (.bool (decide (a = b))) := by
  (refine Fsp.of (nx := 0) mixed Try.func21 rfl (by decide) (by first | exact Nat.le_refl _ | simp) (by simp [Try.f21]) ⟨by decide, by decide⟩ ?_; simp -implicitDefEqProofs only [push_cast, Try.f21, Int.reduceBEq, Int.reduceBNe, Int.reduceEq, Int.reduceNe, Int.reducePow, Nat.reduceAdd, Nat.reduceMul, Nat.reduceSub, Nat.reduceLT, Nat.reduceLeDiff, Nat.reduceEqDiff, Nat.reduceBEq, Int.reduceLT, Int.reduceLE, Int.reduceAdd, Int.reduceSub, Int.reduceMul, Int.reduceToNat, Int.reduceNeg, reduceIte, reduceCtorEq, reduceBEq])
  refine condC_split (fun h => ?_) (fun h => ?_)
  · have hne : a ≠ b := by
      rintro rfl
      simp at h
    rw [decide_eq_false hne]
    simp -implicitDefEqProofs only [push_cast, Int.reduceBEq, Int.reduceBNe, Int.reduceEq, Int.reduceNe, Int.reducePow, Nat.reduceAdd, Nat.reduceMul, Nat.reduceSub, Nat.reduceLT, Nat.reduceLeDiff, Nat.reduceEqDiff, Nat.reduceBEq, Int.reduceLT, Int.reduceLE, Int.reduceAdd, Int.reduceSub, Int.reduceMul, Int.reduceToNat, Int.reduceNeg, reduceIte, reduceCtorEq, reduceBEq]
  · have hl : a.length = b.length := by simp at h; omega
    simp -implicitDefEqProofs only [push_cast, Int.reduceBEq, Int.reduceBNe, Int.reduceEq, Int.reduceNe, Int.reducePow, Nat.reduceAdd, Nat.reduceMul, Nat.reduceSub, Nat.reduceLT, Nat.reduceLeDiff, Nat.reduceEqDiff, Nat.reduceBEq, Int.reduceLT, Int.reduceLE, Int.reduceAdd, Int.reduceSub, Int.reduceMul, Int.reduceToNat, Int.reduceNeg, reduceIte, reduceCtorEq, reduceBEq]
    refine loopC_of (α := TxS a b) TxS.st (fun x => a.length - x.i) ⟨0, by omega, by simp⟩ ?_ ?_
    · (simp only [TxS.st]; exact Wk.by _ _ _ [] [] [] (by simp) (by simp [wkV, PV.el, PV.weak, PS.get, PS.obj, PS.lv, lkp_hit, lkp_miss, lkp_nil, lko]) (by simp [PS.get, PS.obj, PS.lv, lkp_hit, lkp_miss, lkp_nil, lko, wkL, wkC, PV.weak]) (by simp [PS.get, PS.obj, PS.lv, lkp_hit, lkp_miss, lkp_nil, lko]) (by rfl) (by rfl) (by simp [lko]) (by simp) (by simp) (by simp) (fun i hi => absurd hi (Nat.not_lt_zero i)))
    · rintro ⟨i, hi, hn⟩
      simp -implicitDefEqProofs only [push_cast, TxS.st, Int.reduceBEq, Int.reduceBNe, Int.reduceEq, Int.reduceNe, Int.reducePow, Nat.reduceAdd, Nat.reduceMul, Nat.reduceSub, Nat.reduceLT, Nat.reduceLeDiff, Nat.reduceEqDiff, Nat.reduceBEq, Int.reduceLT, Int.reduceLE, Int.reduceAdd, Int.reduceSub, Int.reduceMul, Int.reduceToNat, Int.reduceNeg, reduceIte, reduceCtorEq, reduceBEq]
      refine condC_split (fun h2 => ?_) (fun h2 => ?_)
      · have hlt : i < a.length := by simp at h2; omega
        have hg := strs_at hlt
        have hg2 := strs_at (l := b) (i := i) (by omega)
        simp -implicitDefEqProofs only [push_cast, hg, hg2, Int.reduceBEq, Int.reduceBNe, Int.reduceEq, Int.reduceNe, Int.reducePow, Nat.reduceAdd, Nat.reduceMul, Nat.reduceSub, Nat.reduceLT, Nat.reduceLeDiff, Nat.reduceEqDiff, Nat.reduceBEq, Int.reduceLT, Int.reduceLE, Int.reduceAdd, Int.reduceSub, Int.reduceMul, Int.reduceToNat, Int.reduceNeg, reduceIte, reduceCtorEq, reduceBEq]
        refine ⟨by simpa using hlt, by rw [List.length_map]; omega, by (unfold drawOk; kernel_rfl), ?_⟩
        refine condC_split (fun h3 => ?_) (fun h3 => ?_)
        · have hne : a ≠ b := by
            rintro rfl
            simp at h3
          rw [decide_eq_false hne]
          simp -implicitDefEqProofs only [push_cast, Int.reduceBEq, Int.reduceBNe, Int.reduceEq, Int.reduceNe, Int.reducePow, Nat.reduceAdd, Nat.reduceMul, Nat.reduceSub, Nat.reduceLT, Nat.reduceLeDiff, Nat.reduceEqDiff, Nat.reduceBEq, Int.reduceLT, Int.reduceLE, Int.reduceAdd, Int.reduceSub, Int.reduceMul, Int.reduceToNat, Int.reduceNeg, reduceIte, reduceCtorEq, reduceBEq]
        · have hwr : IntKind.i64.wrap ((i : Int) + 1) = ((i + 1 : Nat) : Int) := by (rw [wrap_i64_id (by omega) (by omega)]; rfl)
          have he : a.getD i [] = b.getD i [] := by simpa only [bne_eq_false_iff_eq] using h3
          have hlb : i < b.length := by omega
          simp -implicitDefEqProofs only [push_cast, Int.reduceBEq, Int.reduceBNe, Int.reduceEq, Int.reduceNe, Int.reducePow, Nat.reduceAdd, Nat.reduceMul, Nat.reduceSub, Nat.reduceLT, Nat.reduceLeDiff, Nat.reduceEqDiff, Nat.reduceBEq, Int.reduceLT, Int.reduceLE, Int.reduceAdd, Int.reduceSub, Int.reduceMul, Int.reduceToNat, Int.reduceNeg, reduceIte, reduceCtorEq, reduceBEq]
          rw [hwr]
          refine ⟨⟨i + 1, by omega, ?_⟩, by simp only; omega, ?_⟩
          · rw [List.take_succ_eq_append_getElem hlt, List.take_succ_eq_append_getElem hlb, hn]
            rw [List.getD_eq_getElem?_getD, List.getElem?_eq_getElem hlt, Option.getD_some, List.getD_eq_getElem?_getD, List.getElem?_eq_getElem hlb, Option.getD_some] at he
            rw [he]
          · (simp only [TxS.st]; exact Wk.by _ _ _ [] [] [] (by simp) (by simp [wkV, PV.el, PV.weak, PS.get, PS.obj, PS.lv, lkp_hit, lkp_miss, lkp_nil, lko]) (by simp [PS.get, PS.obj, PS.lv, lkp_hit, lkp_miss, lkp_nil, lko, wkL, wkC, PV.weak]) (by simp [PS.get, PS.obj, PS.lv, lkp_hit, lkp_miss, lkp_nil, lko]) (by rfl) (by rfl) (by simp [lko]) (by simp) (by simp) (by simp) (fun i hi => absurd hi (Nat.not_lt_zero i)))
      · simp -implicitDefEqProofs only [push_cast, Int.reduceBEq, Int.reduceBNe, Int.reduceEq, Int.reduceNe, Int.reducePow, Nat.reduceAdd, Nat.reduceMul, Nat.reduceSub, Nat.reduceLT, Nat.reduceLeDiff, Nat.reduceEqDiff, Nat.reduceBEq, Int.reduceLT, Int.reduceLE, Int.reduceAdd, Int.reduceSub, Int.reduceMul, Int.reduceToNat, Int.reduceNeg, reduceIte, reduceCtorEq, reduceBEq]
        have hie : i = a.length := by simp at h2; omega
        subst hie
        have : a = b := by
          rw [List.take_length, hl, List.take_length] at hn
          exact hn
        rw [decide_eq_true this]
end Go.Proofs.Lk
