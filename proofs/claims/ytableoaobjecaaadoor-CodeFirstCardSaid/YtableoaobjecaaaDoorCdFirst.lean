/- CodeFirst: it reads one package-level variable more. -/
import Derived.Test.YtableoaobjecaaaDoorCdLawOut
import Derived.Test.YtableoaobjecaaaDoorPvZb
set_option maxRecDepth 100000
set_option linter.unusedSimpArgs false
set_option linter.unusedVariables false
namespace Go.Proofs.Cd
open Go.Pv


local instance gtab2 : GTab := ⟨[(0, (gat Tryd.gtab.tab 0).getD []), (1, [.int .i64 1, .int .i64 2, .int .i64 4, .int .i64 (-1), .int .i64 (-2), .int .i64 (-4)])]⟩
theorem up12 : ∀ k ps, gat Tryd.gtab.tab k = some ps → gat gtab2.tab k = some ps := by
  intro k ps h
  have e : Tryd.gtab.tab = [(0, (gat Tryd.gtab.tab 0).getD [])] := by kernel_rfl
  rw [e] at h
  unfold gat at h
  split at h
  · rename_i hb
    have := Nat.eq_of_beq_eq_true hb
    subst this
    exact h
  · cases h
theorem cl3_ok2 : @Cl.Ok gtab2 Tryd.prog cl3 := Cl.Ok.up up12 cl3_ok

theorem check_fs : Fsp Tryd.prog 31 [] 0 [.agg [.nilsl, .bool false, .int .i64 0]] [] 0 (.int .i64 0) := ranIsU mixed cl3_ok2 (wbf := fun f => Nat.beq f 43 || Nat.beq f 63) (n := 60) (d := 10) (by kernel_rfl)

theorem lawFirst_out (n : Int) (h : Out n) : Fsp Tryd.prog 8 [] 0 [.int .i64 n] [] 0 (.bool true) := by
  rcases h with h1 | ⟨h1, h2⟩
  · (refine Fsp.of (nx := 0) mixed Tryd.func8 rfl (by decide) (Nat.le_refl _) (by simp [Tryd.f8]) ⟨by decide, by decide⟩ ?_; simp -implicitDefEqProofs only [push_cast, Tryd.f8, h1, Int.reduceBEq, Int.reduceBNe, Int.reduceEq, Int.reduceNe, Int.reducePow, Nat.reduceAdd, Nat.reduceMul, Nat.reduceSub, Nat.reduceLT, Nat.reduceLeDiff, Nat.reduceEqDiff, Nat.reduceBEq, Int.reduceLT, Int.reduceLE, Int.reduceAdd, Int.reduceSub, Int.reduceMul, Int.reduceToNat, Int.reduceNeg, reduceIte, reduceCtorEq, reduceBEq])
    repeat' (first | refine callE_no ?_ | refine loopC_un 1 ?_ | (refine callE_pure ((req_out n (by first | exact .inl h1 | exact .inr ⟨h1, h2⟩)).up up12) (by rfl) (by rfl) (by rfl) (by decide) (by rfl) (fun _ => by rfl) (by rfl) ?_) | (refine callE_pure ((reply_out n (by first | exact .inl h1 | exact .inr ⟨h1, h2⟩)).up up12) (by rfl) (by rfl) (by rfl) (by decide) (by rfl) (fun _ => by rfl) (by rfl) ?_) | (refine callE_pure ((ev_out n (by first | exact .inl h1 | exact .inr ⟨h1, h2⟩)).up up12) (by rfl) (by rfl) (by rfl) (by decide) (by rfl) (fun _ => by rfl) (by rfl) ?_) | (refine callE_pure check_fs (by rfl) (by rfl) (by rfl) (by decide) (by rfl) (fun _ => by rfl) (by rfl) ?_) | (refine callE_pure (awake_fs.up up12) (by rfl) (by rfl) (by rfl) (by decide) (by rfl) (fun _ => by rfl) (by rfl) ?_) | (simp -implicitDefEqProofs only [push_cast, h1, Int.reduceBEq, Int.reduceBNe, Int.reduceEq, Int.reduceNe, Int.reducePow, Nat.reduceAdd, Nat.reduceMul, Nat.reduceSub, Nat.reduceLT, Nat.reduceLeDiff, Nat.reduceEqDiff, Nat.reduceBEq, Int.reduceLT, Int.reduceLE, Int.reduceAdd, Int.reduceSub, Int.reduceMul, Int.reduceToNat, Int.reduceNeg, reduceIte, reduceCtorEq, reduceBEq]) | (first | exact Or.inl trivial | trivial | exact ⟨_, rfl, by simp [wkL, res2, res1, PV.weak]⟩ | exact ⟨rfl, _, rfl, by simp [wkL, res2, res1, PV.weak]⟩))
  · have h3 : decide (25 < n) = true := by simp at h2 ⊢; omega
    (refine Fsp.of (nx := 0) mixed Tryd.func8 rfl (by decide) (Nat.le_refl _) (by simp [Tryd.f8]) ⟨by decide, by decide⟩ ?_; simp -implicitDefEqProofs only [push_cast, Tryd.f8, h1, h2, h3, Int.reduceBEq, Int.reduceBNe, Int.reduceEq, Int.reduceNe, Int.reducePow, Nat.reduceAdd, Nat.reduceMul, Nat.reduceSub, Nat.reduceLT, Nat.reduceLeDiff, Nat.reduceEqDiff, Nat.reduceBEq, Int.reduceLT, Int.reduceLE, Int.reduceAdd, Int.reduceSub, Int.reduceMul, Int.reduceToNat, Int.reduceNeg, reduceIte, reduceCtorEq, reduceBEq])
    repeat' (first | refine callE_no ?_ | refine loopC_un 1 ?_ | (refine callE_pure ((req_out n (by first | exact .inl h1 | exact .inr ⟨h1, h2⟩)).up up12) (by rfl) (by rfl) (by rfl) (by decide) (by rfl) (fun _ => by rfl) (by rfl) ?_) | (refine callE_pure ((reply_out n (by first | exact .inl h1 | exact .inr ⟨h1, h2⟩)).up up12) (by rfl) (by rfl) (by rfl) (by decide) (by rfl) (fun _ => by rfl) (by rfl) ?_) | (refine callE_pure ((ev_out n (by first | exact .inl h1 | exact .inr ⟨h1, h2⟩)).up up12) (by rfl) (by rfl) (by rfl) (by decide) (by rfl) (fun _ => by rfl) (by rfl) ?_) | (refine callE_pure check_fs (by rfl) (by rfl) (by rfl) (by decide) (by rfl) (fun _ => by rfl) (by rfl) ?_) | (refine callE_pure (awake_fs.up up12) (by rfl) (by rfl) (by rfl) (by decide) (by rfl) (fun _ => by rfl) (by rfl) ?_) | (simp -implicitDefEqProofs only [push_cast, h1, h2, h3, Int.reduceBEq, Int.reduceBNe, Int.reduceEq, Int.reduceNe, Int.reducePow, Nat.reduceAdd, Nat.reduceMul, Nat.reduceSub, Nat.reduceLT, Nat.reduceLeDiff, Nat.reduceEqDiff, Nat.reduceBEq, Int.reduceLT, Int.reduceLE, Int.reduceAdd, Int.reduceSub, Int.reduceMul, Int.reduceToNat, Int.reduceNeg, reduceIte, reduceCtorEq, reduceBEq]) | (first | exact Or.inl trivial | trivial | exact ⟨_, rfl, by simp [wkL, res2, res1, PV.weak]⟩ | exact ⟨rfl, _, rfl, by simp [wkL, res2, res1, PV.weak]⟩))

theorem runFirst_1 : lawAll Tryd.prog cl3 (fun f => Nat.beq f 43 || Nat.beq f 63) 60 10 8 6 1 = true := by kernel_rfl
theorem runFirst_7 : lawAll Tryd.prog cl3 (fun f => Nat.beq f 43 || Nat.beq f 63) 60 10 8 6 7 = true := by kernel_rfl
theorem runFirst_13 : lawAll Tryd.prog cl3 (fun f => Nat.beq f 43 || Nat.beq f 63) 60 10 8 6 13 = true := by kernel_rfl
theorem runFirst_19 : lawAll Tryd.prog cl3 (fun f => Nat.beq f 43 || Nat.beq f 63) 60 10 8 6 19 = true := by kernel_rfl
theorem runFirst_25 : lawAll Tryd.prog cl3 (fun f => Nat.beq f 43 || Nat.beq f 63) 60 10 8 6 25 = true := by kernel_rfl
theorem runFirst_31 : lawAll Tryd.prog cl3 (fun f => Nat.beq f 43 || Nat.beq f 63) 60 10 8 6 31 = true := by kernel_rfl
theorem runFirst_37 : lawAll Tryd.prog cl3 (fun f => Nat.beq f 43 || Nat.beq f 63) 60 10 8 6 37 = true := by kernel_rfl
theorem runFirst_43 : lawAll Tryd.prog cl3 (fun f => Nat.beq f 43 || Nat.beq f 63) 60 10 8 6 43 = true := by kernel_rfl
theorem runFirst_49 : lawAll Tryd.prog cl3 (fun f => Nat.beq f 43 || Nat.beq f 63) 60 10 8 6 49 = true := by kernel_rfl
theorem runFirst_55 : lawAll Tryd.prog cl3 (fun f => Nat.beq f 43 || Nat.beq f 63) 60 10 8 4 55 = true := by kernel_rfl
theorem runFirst (k : Nat) (h1 : 1 ≤ k) (h2 : k ≤ 58) : Fsp Tryd.prog 8 [] 0 [.int .i64 (.ofNat k)] [] 0 (.bool true) := by
  by_cases h11 : k < 7
  · exact lawAll_at mixed cl3_ok2 runFirst_1 (by omega) (by omega)
  by_cases h17 : k < 13
  · exact lawAll_at mixed cl3_ok2 runFirst_7 (by omega) (by omega)
  by_cases h23 : k < 19
  · exact lawAll_at mixed cl3_ok2 runFirst_13 (by omega) (by omega)
  by_cases h29 : k < 25
  · exact lawAll_at mixed cl3_ok2 runFirst_19 (by omega) (by omega)
  by_cases h35 : k < 31
  · exact lawAll_at mixed cl3_ok2 runFirst_25 (by omega) (by omega)
  by_cases h41 : k < 37
  · exact lawAll_at mixed cl3_ok2 runFirst_31 (by omega) (by omega)
  by_cases h47 : k < 43
  · exact lawAll_at mixed cl3_ok2 runFirst_37 (by omega) (by omega)
  by_cases h53 : k < 49
  · exact lawAll_at mixed cl3_ok2 runFirst_43 (by omega) (by omega)
  by_cases h59 : k < 55
  · exact lawAll_at mixed cl3_ok2 runFirst_49 (by omega) (by omega)
  by_cases h65 : k < 59
  · exact lawAll_at mixed cl3_ok2 runFirst_55 (by omega) (by omega)
  omega
theorem codeFirst_fs (n : Int) : Fsp Tryd.prog 8 [] 0 [.int .i64 n] [] 0 (.bool true) := by
  by_cases h1 : n < 1
  · exact lawFirst_out n (.inl (by simpa using h1))
  by_cases h2 : 58 < n
  · exact lawFirst_out n (.inr ⟨by simpa using h1, by simpa using h2⟩)
  · obtain ⟨k, rfl⟩ := Int.eq_ofNat_of_zero_le (show 0 ≤ n by omega)
    exact runFirst k (by omega) (by omega)
end Go.Proofs.Cd
