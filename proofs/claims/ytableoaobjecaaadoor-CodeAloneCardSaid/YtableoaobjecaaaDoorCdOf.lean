/- The code of a name. -/
import Derived.Test.YtableoaobjecaaaDoorCdNames
set_option maxRecDepth 100000
set_option linter.unusedSimpArgs false
set_option linter.unusedVariables false
namespace Go.Proofs.Cd
open Go.Pv


theorem nm_nat {k : Nat} (h1 : 1 ≤ k) (h2 : k < 59) : nm (k : Int) = nmK k := by
  have : inB (k : Int) = true := by simp [inB]; omega
  unfold nm
  rw [if_pos this]
  rfl
theorem ofS_nil : ofS [] 58 1 = 0 := by kernel_rfl
theorem ofS_le (s : List UInt8) : ∀ (m i : Nat), ofS s m i = 0 ∨ (i ≤ ofS s m i ∧ ofS s m i < i + m)
  | 0, i => .inl rfl
  | m + 1, i => by
    unfold ofS
    split
    · right; omega
    · rcases ofS_le s m (i + 1) with h | h
      · exact .inl h
      · right; omega
structure OfS (s : List UInt8) where
  i : Nat
  h1 : 1 ≤ i
  h2 : i ≤ 59
  he : ofS s (59 - i) i = ofS s 58 1
def OfS.st {s : List UInt8} (a : OfS s) : PS := { n := 17, env := [(4, .int .i64 a.i), (0, .str s)], objs := [], live := [], nxt := 60 }
def ofT (s : List UInt8) : PV := .tup [.int .i64 (ofS s 58 1 : Nat), .bool (ofS s 58 1 != 0)]
theorem of_fs (s : List UInt8) : Fsp Tryd.prog 21 [] 0 [.str s] [] 0 (ofT s) := by
  (refine Fsp.of (nx := 0) mixed Tryd.func21 rfl (by decide) (Nat.le_refl _) (by simp [Tryd.f21]) ⟨by decide, by decide⟩ ?_; simp -implicitDefEqProofs only [push_cast, Tryd.f21, ofT, Int.reduceBEq, Int.reduceBNe, Int.reduceEq, Int.reduceNe, Int.reducePow, Nat.reduceAdd, Nat.reduceMul, Nat.reduceSub, Nat.reduceLT, Nat.reduceLeDiff, Nat.reduceEqDiff, Nat.reduceBEq, Int.reduceLT, Int.reduceLE, Int.reduceAdd, Int.reduceSub, Int.reduceMul, Int.reduceToNat, Int.reduceNeg, reduceIte, reduceCtorEq, reduceBEq])
  refine condC_split (fun hc => ?_) (fun hc => ?_)
  · have : s = [] := by simpa using hc
    subst this
    simp -implicitDefEqProofs only [push_cast, ofT, Int.reduceBEq, Int.reduceBNe, Int.reduceEq, Int.reduceNe, Int.reducePow, Nat.reduceAdd, Nat.reduceMul, Nat.reduceSub, Nat.reduceLT, Nat.reduceLeDiff, Nat.reduceEqDiff, Nat.reduceBEq, Int.reduceLT, Int.reduceLE, Int.reduceAdd, Int.reduceSub, Int.reduceMul, Int.reduceToNat, Int.reduceNeg, reduceIte, reduceCtorEq, reduceBEq]
    exact ⟨_, rfl, by simp [wkL, res2, res1, PV.weak, ofS_nil]⟩
  · simp -implicitDefEqProofs only [push_cast, ofT, Int.reduceBEq, Int.reduceBNe, Int.reduceEq, Int.reduceNe, Int.reducePow, Nat.reduceAdd, Nat.reduceMul, Nat.reduceSub, Nat.reduceLT, Nat.reduceLeDiff, Nat.reduceEqDiff, Nat.reduceBEq, Int.reduceLT, Int.reduceLE, Int.reduceAdd, Int.reduceSub, Int.reduceMul, Int.reduceToNat, Int.reduceNeg, reduceIte, reduceCtorEq, reduceBEq]
    refine loopC_of (α := OfS s) OfS.st (fun a => 60 - a.i) ⟨1, by omega, by omega, rfl⟩ ?_ ?_
    · (simp only [OfS.st]; exact WkOf.wk (β := []) (τ := []) (em := []) ⟨by simp, by simp [wkV, PV.el, PV.weak, PS.get, lkp_hit, lkp_miss, lkp_nil, lko], by simp, by simp, by simp [PS.lv, lko, lkp_hit, lkp_miss, lkp_nil], by rfl, by rfl, by simp [lko], by simp, by simp, by simp, fun i hi => absurd hi (Nat.not_lt_zero i)⟩)
    · rintro ⟨i, h1, h2, he⟩
      simp -implicitDefEqProofs only [push_cast, OfS.st, ofT, Int.reduceBEq, Int.reduceBNe, Int.reduceEq, Int.reduceNe, Int.reducePow, Nat.reduceAdd, Nat.reduceMul, Nat.reduceSub, Nat.reduceLT, Nat.reduceLeDiff, Nat.reduceEqDiff, Nat.reduceBEq, Int.reduceLT, Int.reduceLE, Int.reduceAdd, Int.reduceSub, Int.reduceMul, Int.reduceToNat, Int.reduceNeg, reduceIte, reduceCtorEq, reduceBEq]
      refine condC_split (fun hc2 => ?_) (fun hc2 => ?_)
      · have hi : i < 59 := by simp at hc2; omega
        obtain ⟨m, hm⟩ : ∃ m, 59 - i = m + 1 := ⟨58 - i, by omega⟩
        rw [hm, ofS] at he
        obtain ⟨a, b, hr⟩ := request_in hi
        simp -implicitDefEqProofs only [push_cast, Int.reduceBEq, Int.reduceBNe, Int.reduceEq, Int.reduceNe, Int.reducePow, Nat.reduceAdd, Nat.reduceMul, Nat.reduceSub, Nat.reduceLT, Nat.reduceLeDiff, Nat.reduceEqDiff, Nat.reduceBEq, Int.reduceLT, Int.reduceLE, Int.reduceAdd, Int.reduceSub, Int.reduceMul, Int.reduceToNat, Int.reduceNeg, reduceIte, reduceCtorEq, reduceBEq]
        refine callE_pure hr (by rfl) (by rfl) (by rfl) (by decide) (by rfl) (fun _ => by rfl) (by rfl) ?_
        simp -implicitDefEqProofs only [push_cast, Int.reduceBEq, Int.reduceBNe, Int.reduceEq, Int.reduceNe, Int.reducePow, Nat.reduceAdd, Nat.reduceMul, Nat.reduceSub, Nat.reduceLT, Nat.reduceLeDiff, Nat.reduceEqDiff, Nat.reduceBEq, Int.reduceLT, Int.reduceLE, Int.reduceAdd, Int.reduceSub, Int.reduceMul, Int.reduceToNat, Int.reduceNeg, reduceIte, reduceCtorEq, reduceBEq]
        refine condC_split (fun hc3 => ?_) (fun hc3 => ?_)
        · rw [if_pos hc3] at he
          simp -implicitDefEqProofs only [push_cast, ofT, Int.reduceBEq, Int.reduceBNe, Int.reduceEq, Int.reduceNe, Int.reducePow, Nat.reduceAdd, Nat.reduceMul, Nat.reduceSub, Nat.reduceLT, Nat.reduceLeDiff, Nat.reduceEqDiff, Nat.reduceBEq, Int.reduceLT, Int.reduceLE, Int.reduceAdd, Int.reduceSub, Int.reduceMul, Int.reduceToNat, Int.reduceNeg, reduceIte, reduceCtorEq, reduceBEq]
          exact ⟨_, rfl, by simp [wkL, res2, res1, PV.weak, ← he]; omega⟩
        · rw [if_neg (by rw [hc3]; exact Bool.false_ne_true)] at he
          simp -implicitDefEqProofs only [push_cast, Int.reduceBEq, Int.reduceBNe, Int.reduceEq, Int.reduceNe, Int.reducePow, Nat.reduceAdd, Nat.reduceMul, Nat.reduceSub, Nat.reduceLT, Nat.reduceLeDiff, Nat.reduceEqDiff, Nat.reduceBEq, Int.reduceLT, Int.reduceLE, Int.reduceAdd, Int.reduceSub, Int.reduceMul, Int.reduceToNat, Int.reduceNeg, reduceIte, reduceCtorEq, reduceBEq]
          rw [show IntKind.i64.wrap ((i : Int) + 1) = ((i + 1 : Nat) : Int) by rw [wrap_i64_id (by omega) (by omega)]; rfl]
          refine ⟨⟨i + 1, by omega, by omega, ?_⟩, by simp only; omega, ?_⟩
          · rw [← he, show 59 - (i + 1) = m by omega]
          · (simp only [OfS.st]; exact WkOf.wk (β := []) (τ := []) (em := []) ⟨by simp, by simp [wkV, PV.el, PV.weak, PS.get, lkp_hit, lkp_miss, lkp_nil, lko], by simp, by simp, by simp [PS.lv, lko, lkp_hit, lkp_miss, lkp_nil], by rfl, by rfl, by simp [lko], by simp, by simp, by simp, fun i hi => absurd hi (Nat.not_lt_zero i)⟩)
      · have hi : i = 59 := by simp at hc2; omega
        subst hi
        have h0 : ofS s 58 1 = 0 := by rw [← he]; rfl
        simp -implicitDefEqProofs only [push_cast, ofT, Int.reduceBEq, Int.reduceBNe, Int.reduceEq, Int.reduceNe, Int.reducePow, Nat.reduceAdd, Nat.reduceMul, Nat.reduceSub, Nat.reduceLT, Nat.reduceLeDiff, Nat.reduceEqDiff, Nat.reduceBEq, Int.reduceLT, Int.reduceLE, Int.reduceAdd, Int.reduceSub, Int.reduceMul, Int.reduceToNat, Int.reduceNeg, reduceIte, reduceCtorEq, reduceBEq]
        exact ⟨_, rfl, by simp [wkL, res2, res1, PV.weak, h0]⟩


def OfS.st2 {s : List UInt8} (a : OfS s) : PS := { n := 15, env := [(3, .int .i64 a.i), (0, .str s)], objs := [], live := [], nxt := 60 }
theorem rof_fs (s : List UInt8) : Fsp Tryd.prog 25 [] 0 [.str s] [] 0 (.int .i64 (ofS s 58 1 : Nat)) := by
  (refine Fsp.of (nx := 0) mixed Tryd.func25 rfl (by decide) (Nat.le_refl _) (by simp [Tryd.f25]) ⟨by decide, by decide⟩ ?_; simp -implicitDefEqProofs only [push_cast, Tryd.f25, Int.reduceBEq, Int.reduceBNe, Int.reduceEq, Int.reduceNe, Int.reducePow, Nat.reduceAdd, Nat.reduceMul, Nat.reduceSub, Nat.reduceLT, Nat.reduceLeDiff, Nat.reduceEqDiff, Nat.reduceBEq, Int.reduceLT, Int.reduceLE, Int.reduceAdd, Int.reduceSub, Int.reduceMul, Int.reduceToNat, Int.reduceNeg, reduceIte, reduceCtorEq, reduceBEq])
  refine loopC_of (α := OfS s) OfS.st2 (fun a => 60 - a.i) ⟨1, by omega, by omega, rfl⟩ ?_ ?_
  · (simp only [OfS.st2]; exact WkOf.wk (β := []) (τ := []) (em := []) ⟨by simp, by simp [wkV, PV.el, PV.weak, PS.get, lkp_hit, lkp_miss, lkp_nil, lko], by simp, by simp, by simp [PS.lv, lko, lkp_hit, lkp_miss, lkp_nil], by rfl, by rfl, by simp [lko], by simp, by simp, by simp, fun i hi => absurd hi (Nat.not_lt_zero i)⟩)
  · rintro ⟨i, h1, h2, he⟩
    simp -implicitDefEqProofs only [push_cast, OfS.st2, Int.reduceBEq, Int.reduceBNe, Int.reduceEq, Int.reduceNe, Int.reducePow, Nat.reduceAdd, Nat.reduceMul, Nat.reduceSub, Nat.reduceLT, Nat.reduceLeDiff, Nat.reduceEqDiff, Nat.reduceBEq, Int.reduceLT, Int.reduceLE, Int.reduceAdd, Int.reduceSub, Int.reduceMul, Int.reduceToNat, Int.reduceNeg, reduceIte, reduceCtorEq, reduceBEq]
    refine callE_pure rreqs_fs (by rfl) (by rfl) (by rfl) (by decide) (by rfl) (fun _ => by rfl) (by rfl) ?_
    simp -implicitDefEqProofs only [push_cast, Int.reduceBEq, Int.reduceBNe, Int.reduceEq, Int.reduceNe, Int.reducePow, Nat.reduceAdd, Nat.reduceMul, Nat.reduceSub, Nat.reduceLT, Nat.reduceLeDiff, Nat.reduceEqDiff, Nat.reduceBEq, Int.reduceLT, Int.reduceLE, Int.reduceAdd, Int.reduceSub, Int.reduceMul, Int.reduceToNat, Int.reduceNeg, reduceIte, reduceCtorEq, reduceBEq]
    refine condC_split (fun hc2 => ?_) (fun hc2 => ?_)
    · have hi : i < 59 := by simp at hc2; omega
      obtain ⟨m, hm⟩ : ∃ m, 59 - i = m + 1 := ⟨58 - i, by omega⟩
      rw [hm, ofS] at he
      have hr := rname_fs (i : Int)
      rw [nm_nat h1 hi] at hr
      simp -implicitDefEqProofs only [push_cast, Int.reduceBEq, Int.reduceBNe, Int.reduceEq, Int.reduceNe, Int.reducePow, Nat.reduceAdd, Nat.reduceMul, Nat.reduceSub, Nat.reduceLT, Nat.reduceLeDiff, Nat.reduceEqDiff, Nat.reduceBEq, Int.reduceLT, Int.reduceLE, Int.reduceAdd, Int.reduceSub, Int.reduceMul, Int.reduceToNat, Int.reduceNeg, reduceIte, reduceCtorEq, reduceBEq]
      refine callE_pure hr (by rfl) (by rfl) (by rfl) (by decide) (by rfl) (fun _ => by rfl) (by rfl) ?_
      simp -implicitDefEqProofs only [push_cast, Int.reduceBEq, Int.reduceBNe, Int.reduceEq, Int.reduceNe, Int.reducePow, Nat.reduceAdd, Nat.reduceMul, Nat.reduceSub, Nat.reduceLT, Nat.reduceLeDiff, Nat.reduceEqDiff, Nat.reduceBEq, Int.reduceLT, Int.reduceLE, Int.reduceAdd, Int.reduceSub, Int.reduceMul, Int.reduceToNat, Int.reduceNeg, reduceIte, reduceCtorEq, reduceBEq]
      refine condC_split (fun hc3 => ?_) (fun hc3 => ?_)
      · rw [if_pos hc3] at he
        rw [← he]
        simp -implicitDefEqProofs only [push_cast, Int.reduceBEq, Int.reduceBNe, Int.reduceEq, Int.reduceNe, Int.reducePow, Nat.reduceAdd, Nat.reduceMul, Nat.reduceSub, Nat.reduceLT, Nat.reduceLeDiff, Nat.reduceEqDiff, Nat.reduceBEq, Int.reduceLT, Int.reduceLE, Int.reduceAdd, Int.reduceSub, Int.reduceMul, Int.reduceToNat, Int.reduceNeg, reduceIte, reduceCtorEq, reduceBEq]
      · rw [if_neg (by rw [hc3]; exact Bool.false_ne_true)] at he
        simp -implicitDefEqProofs only [push_cast, Int.reduceBEq, Int.reduceBNe, Int.reduceEq, Int.reduceNe, Int.reducePow, Nat.reduceAdd, Nat.reduceMul, Nat.reduceSub, Nat.reduceLT, Nat.reduceLeDiff, Nat.reduceEqDiff, Nat.reduceBEq, Int.reduceLT, Int.reduceLE, Int.reduceAdd, Int.reduceSub, Int.reduceMul, Int.reduceToNat, Int.reduceNeg, reduceIte, reduceCtorEq, reduceBEq]
        rw [show IntKind.i64.wrap ((i : Int) + 1) = ((i + 1 : Nat) : Int) by rw [wrap_i64_id (by omega) (by omega)]; rfl]
        refine ⟨⟨i + 1, by omega, by omega, ?_⟩, by simp only; omega, ?_⟩
        · rw [← he, show 59 - (i + 1) = m by omega]
        · (simp only [OfS.st2]; exact WkOf.wk (β := []) (τ := []) (em := []) ⟨by simp, by simp [wkV, PV.el, PV.weak, PS.get, lkp_hit, lkp_miss, lkp_nil, lko], by simp, by simp, by simp [PS.lv, lko, lkp_hit, lkp_miss, lkp_nil], by rfl, by rfl, by simp [lko], by simp, by simp, by simp, fun i hi => absurd hi (Nat.not_lt_zero i)⟩)
    · have hi : i = 59 := by simp at hc2; omega
      subst hi
      have h0 : ofS s 58 1 = 0 := by rw [← he]; rfl
      rw [h0]
      simp -implicitDefEqProofs only [push_cast, Int.reduceBEq, Int.reduceBNe, Int.reduceEq, Int.reduceNe, Int.reducePow, Nat.reduceAdd, Nat.reduceMul, Nat.reduceSub, Nat.reduceLT, Nat.reduceLeDiff, Nat.reduceEqDiff, Nat.reduceBEq, Int.reduceLT, Int.reduceLE, Int.reduceAdd, Int.reduceSub, Int.reduceMul, Int.reduceToNat, Int.reduceNeg, reduceIte, reduceCtorEq, reduceBEq]
end Go.Proofs.Cd
