/- CodeNames and CodeAlone: what they tell. -/
import Derived.Test.YtableoaobjecaaaDoorCdOf
set_option maxRecDepth 100000
set_option linter.unusedSimpArgs false
set_option linter.unnecessarySimpa false
set_option linter.unusedVariables false
namespace Go.Proofs.Cd
open Go.Pv


theorem nm_alone : (List.range 59).all (fun a => (List.range 59).all fun b => Nat.beq a b || (u8sEq (nmK a) [] || !u8sEq (nmK a) (nmK b))) = true := by kernel_rfl
theorem ev_alone : (List.range 59).all (fun a => (List.range 59).all fun b => Nat.beq a b || (u8sEq (evK a) [] || !u8sEq (evK a) (evK b))) = true := by kernel_rfl
theorem alone_of {K : Nat → List UInt8} {N : Int → List UInt8} (h : (List.range 59).all (fun a => (List.range 59).all fun b => Nat.beq a b || (u8sEq (K a) [] || !u8sEq (K a) (K b))) = true)
    (hN : ∀ n, N n = if inB n = true then K n.toNat else []) {n m : Int} (h1 : (n == m) = false) (h2 : (N n == []) = false) : (N n == N m) = false := by
  rcases inB_cases n with ⟨a1, a, rfl, _, a2⟩ | ⟨a1, _⟩
  · rcases inB_cases m with ⟨b1, b, rfl, _, b2⟩ | ⟨b1, _⟩
    · have h3 := List.all_eq_true.1 (List.all_eq_true.1 h a (List.mem_range.2 a2)) b (List.mem_range.2 b2)
      rw [hN, if_pos a1] at h2 ⊢
      rw [hN, if_pos b1]
      have e1 : Nat.beq a b = false := by
        cases hb : Nat.beq a b with
        | false => rfl
        | true =>
          have := Nat.eq_of_beq_eq_true hb
          subst this
          simp at h1
      rw [e1, Bool.false_or, Bool.or_eq_true] at h3
      rcases h3 with h3 | h3
      · have := u8sEq_eq h3
        exfalso
        have h2' : (K a == []) = false := h2
        rw [this] at h2'
        cases h2'
      · have : ¬ K a = K b := by
          intro e
          rw [e] at h3
          have : ∀ l : List UInt8, u8sEq l l = true := by
            intro l
            induction l with
            | nil => rfl
            | cons x l ih => simp [u8sEq, ih]
          rw [this] at h3
          cases h3
        show (K a == K b) = false
        simpa using this
    · have e : N m = [] := by rw [hN, b1]; rfl
      rw [e]; exact h2
  · have e : N n = [] := by rw [hN, a1]; rfl
    rw [e] at h2
    cases h2
theorem codeNames_fs (n : Int) (s : List UInt8) : Fsp Tryd.prog 5 [] 0 [.int .i64 n, .str s] [] 0 (.bool true) := by
  (refine Fsp.of (nx := 0) mixed Tryd.func5 rfl (by decide) (Nat.le_refl _) (by simp [Tryd.f5]) ⟨by decide, by decide⟩ ?_; simp -implicitDefEqProofs only [push_cast, Tryd.f5, ofT, Int.reduceBEq, Int.reduceBNe, Int.reduceEq, Int.reduceNe, Int.reducePow, Nat.reduceAdd, Nat.reduceMul, Nat.reduceSub, Nat.reduceLT, Nat.reduceLeDiff, Nat.reduceEqDiff, Nat.reduceBEq, Int.reduceLT, Int.reduceLE, Int.reduceAdd, Int.reduceSub, Int.reduceMul, Int.reduceToNat, Int.reduceNeg, reduceIte, reduceCtorEq, reduceBEq])
  refine condC_split (fun hc => ?_) (fun hc => ?_)
  · repeat' (first | refine callE_no ?_ | (refine callE_pure awake_fs (by rfl) (by rfl) (by rfl) (by decide) (by rfl) (fun _ => by rfl) (by rfl) ?_) | (refine callE_pure (name_fs n) (by rfl) (by rfl) (by rfl) (by decide) (by rfl) (fun _ => by rfl) (by rfl) ?_) | (refine callE_pure (rname_fs n) (by rfl) (by rfl) (by rfl) (by decide) (by rfl) (fun _ => by rfl) (by rfl) ?_) | (refine callE_pure (evname_fs n) (by rfl) (by rfl) (by rfl) (by decide) (by rfl) (fun _ => by rfl) (by rfl) ?_) | (refine callE_pure (revname_fs n) (by rfl) (by rfl) (by rfl) (by decide) (by rfl) (fun _ => by rfl) (by rfl) ?_) | (refine callE_pure (of_fs s) (by rfl) (by rfl) (by rfl) (by decide) (by rfl) (fun _ => by rfl) (by rfl) ?_) | (refine callE_pure (rof_fs s) (by rfl) (by rfl) (by rfl) (by decide) (by rfl) (fun _ => by rfl) (by rfl) ?_) | (simp -implicitDefEqProofs only [push_cast, ofT, Int.reduceBEq, Int.reduceBNe, Int.reduceEq, Int.reduceNe, Int.reducePow, Nat.reduceAdd, Nat.reduceMul, Nat.reduceSub, Nat.reduceLT, Nat.reduceLeDiff, Nat.reduceEqDiff, Nat.reduceBEq, Int.reduceLT, Int.reduceLE, Int.reduceAdd, Int.reduceSub, Int.reduceMul, Int.reduceToNat, Int.reduceNeg, reduceIte, reduceCtorEq, reduceBEq]))
  · repeat' (first | refine callE_no ?_ | (refine callE_pure awake_fs (by rfl) (by rfl) (by rfl) (by decide) (by rfl) (fun _ => by rfl) (by rfl) ?_) | (refine callE_pure (name_fs n) (by rfl) (by rfl) (by rfl) (by decide) (by rfl) (fun _ => by rfl) (by rfl) ?_) | (refine callE_pure (rname_fs n) (by rfl) (by rfl) (by rfl) (by decide) (by rfl) (fun _ => by rfl) (by rfl) ?_) | (refine callE_pure (evname_fs n) (by rfl) (by rfl) (by rfl) (by decide) (by rfl) (fun _ => by rfl) (by rfl) ?_) | (refine callE_pure (revname_fs n) (by rfl) (by rfl) (by rfl) (by decide) (by rfl) (fun _ => by rfl) (by rfl) ?_) | (refine callE_pure (of_fs s) (by rfl) (by rfl) (by rfl) (by decide) (by rfl) (fun _ => by rfl) (by rfl) ?_) | (refine callE_pure (rof_fs s) (by rfl) (by rfl) (by rfl) (by decide) (by rfl) (fun _ => by rfl) (by rfl) ?_) | (simp -implicitDefEqProofs only [push_cast, ofT, Int.reduceBEq, Int.reduceBNe, Int.reduceEq, Int.reduceNe, Int.reducePow, Nat.reduceAdd, Nat.reduceMul, Nat.reduceSub, Nat.reduceLT, Nat.reduceLeDiff, Nat.reduceEqDiff, Nat.reduceBEq, Int.reduceLT, Int.reduceLE, Int.reduceAdd, Int.reduceSub, Int.reduceMul, Int.reduceToNat, Int.reduceNeg, reduceIte, reduceCtorEq, reduceBEq]))
    cases ofS s 58 1 <;> simp
theorem codeAlone_fs (n m : Int) : Fsp Tryd.prog 6 [] 0 [.int .i64 n, .int .i64 m] [] 0 (.bool true) := by
  rcases Bool.eq_false_or_eq_true (n == m) with h1 | h1
  · (refine Fsp.of (nx := 0) mixed Tryd.func6 rfl (by decide) (Nat.le_refl _) (by simp [Tryd.f6]) ⟨by decide, by decide⟩ ?_; simp -implicitDefEqProofs only [push_cast, Tryd.f6, h1, Int.reduceBEq, Int.reduceBNe, Int.reduceEq, Int.reduceNe, Int.reducePow, Nat.reduceAdd, Nat.reduceMul, Nat.reduceSub, Nat.reduceLT, Nat.reduceLeDiff, Nat.reduceEqDiff, Nat.reduceBEq, Int.reduceLT, Int.reduceLE, Int.reduceAdd, Int.reduceSub, Int.reduceMul, Int.reduceToNat, Int.reduceNeg, reduceIte, reduceCtorEq, reduceBEq])
    repeat' (first | refine callE_no ?_ | (refine callE_pure awake_fs (by rfl) (by rfl) (by rfl) (by decide) (by rfl) (fun h => by simpa [cndAll, PS.ev, PS.get, lkp_hit, lkp_miss, lkp_nil, PV.cnd] using h) (by rfl) ?_) | (refine callE_pure (name_fs n) (by rfl) (by rfl) (by rfl) (by decide) (by rfl) (fun h => by simpa [cndAll, PS.ev, PS.get, lkp_hit, lkp_miss, lkp_nil, PV.cnd] using h) (by rfl) ?_) | (refine callE_pure (name_fs m) (by rfl) (by rfl) (by rfl) (by decide) (by rfl) (fun h => by simpa [cndAll, PS.ev, PS.get, lkp_hit, lkp_miss, lkp_nil, PV.cnd] using h) (by rfl) ?_) | (refine callE_pure (evname_fs n) (by rfl) (by rfl) (by rfl) (by decide) (by rfl) (fun h => by simpa [cndAll, PS.ev, PS.get, lkp_hit, lkp_miss, lkp_nil, PV.cnd] using h) (by rfl) ?_) | (refine callE_pure (evname_fs m) (by rfl) (by rfl) (by rfl) (by decide) (by rfl) (fun h => by simpa [cndAll, PS.ev, PS.get, lkp_hit, lkp_miss, lkp_nil, PV.cnd] using h) (by rfl) ?_) | (simp -implicitDefEqProofs only [push_cast, h1, Int.reduceBEq, Int.reduceBNe, Int.reduceEq, Int.reduceNe, Int.reducePow, Nat.reduceAdd, Nat.reduceMul, Nat.reduceSub, Nat.reduceLT, Nat.reduceLeDiff, Nat.reduceEqDiff, Nat.reduceBEq, Int.reduceLT, Int.reduceLE, Int.reduceAdd, Int.reduceSub, Int.reduceMul, Int.reduceToNat, Int.reduceNeg, reduceIte, reduceCtorEq, reduceBEq]))
  have h4 : (nm n == []) = false → (nm n != nm m) = true := fun e => by rw [bne, alone_of (N := nm) nm_alone (fun _ => rfl) h1 e]; rfl
  have h5 : (ev n == []) = false → (ev n != ev m) = true := fun e => by rw [bne, alone_of (N := ev) ev_alone (fun _ => rfl) h1 e]; rfl
  rcases Bool.eq_false_or_eq_true (nm n == []) with h2 | h2 <;> rcases Bool.eq_false_or_eq_true (ev n == []) with h3 | h3 <;> (try replace h4 := h4 h2) <;> (try replace h5 := h5 h3)
  all_goals (refine Fsp.of (nx := 0) mixed Tryd.func6 rfl (by decide) (Nat.le_refl _) (by simp [Tryd.f6]) ⟨by decide, by decide⟩ ?_; simp -implicitDefEqProofs only [push_cast, Tryd.f6, h1, h2, h3, h4, h5, Int.reduceBEq, Int.reduceBNe, Int.reduceEq, Int.reduceNe, Int.reducePow, Nat.reduceAdd, Nat.reduceMul, Nat.reduceSub, Nat.reduceLT, Nat.reduceLeDiff, Nat.reduceEqDiff, Nat.reduceBEq, Int.reduceLT, Int.reduceLE, Int.reduceAdd, Int.reduceSub, Int.reduceMul, Int.reduceToNat, Int.reduceNeg, reduceIte, reduceCtorEq, reduceBEq])
  all_goals repeat' (first | refine callE_no ?_ | (refine callE_pure awake_fs (by rfl) (by rfl) (by rfl) (by decide) (by rfl) (fun h => by simpa [cndAll, PS.ev, PS.get, lkp_hit, lkp_miss, lkp_nil, PV.cnd] using h) (by rfl) ?_) | (refine callE_pure (name_fs n) (by rfl) (by rfl) (by rfl) (by decide) (by rfl) (fun h => by simpa [cndAll, PS.ev, PS.get, lkp_hit, lkp_miss, lkp_nil, PV.cnd] using h) (by rfl) ?_) | (refine callE_pure (name_fs m) (by rfl) (by rfl) (by rfl) (by decide) (by rfl) (fun h => by simpa [cndAll, PS.ev, PS.get, lkp_hit, lkp_miss, lkp_nil, PV.cnd] using h) (by rfl) ?_) | (refine callE_pure (evname_fs n) (by rfl) (by rfl) (by rfl) (by decide) (by rfl) (fun h => by simpa [cndAll, PS.ev, PS.get, lkp_hit, lkp_miss, lkp_nil, PV.cnd] using h) (by rfl) ?_) | (refine callE_pure (evname_fs m) (by rfl) (by rfl) (by rfl) (by decide) (by rfl) (fun h => by simpa [cndAll, PS.ev, PS.get, lkp_hit, lkp_miss, lkp_nil, PV.cnd] using h) (by rfl) ?_) | (simp -implicitDefEqProofs only [push_cast, h1, h2, h3, h4, h5, Int.reduceBEq, Int.reduceBNe, Int.reduceEq, Int.reduceNe, Int.reducePow, Nat.reduceAdd, Nat.reduceMul, Nat.reduceSub, Nat.reduceLT, Nat.reduceLeDiff, Nat.reduceEqDiff, Nat.reduceBEq, Int.reduceLT, Int.reduceLE, Int.reduceAdd, Int.reduceSub, Int.reduceMul, Int.reduceToNat, Int.reduceNeg, reduceIte, reduceCtorEq, reduceBEq]))
end Go.Proofs.Cd
