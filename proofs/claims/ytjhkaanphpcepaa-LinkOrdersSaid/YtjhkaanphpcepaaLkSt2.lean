/- A line's step. -/
import Derived.Test.YtjhkaanphpcepaaLkLine
set_option maxRecDepth 100000
set_option linter.unusedSimpArgs false
set_option linter.unusedVariables false
namespace Go.Proofs.Lk
open Go.Pv

set_option maxHeartbeats 8000000 in
theorem step2_fs (l : Ln) {i : Nat} (p : Nat) (hp : p < 256) (hm : p % 8 = 2) (h : LnOk i l) (hi : i ≤ 300) (ha : l.A.read = []) (hb : l.B.read = []) : Fsp Try.prog 16 [] 0 [l.pv, .int .u8 (p : Int)] [] 0 (.tup [(l.step p).pv, .bool true]) := by
  obtain ⟨c1, c2, c3, c4, c5, c6, c7⟩ := core_ok h hi p ha hb
  have okA := h.a.ok hi
  have okB := h.b.ok hi
  have hs := h.s
  have hr := h.r
  have hc := h.c
  have hd := h.dd
  have htl := h.t
  have hkl := h.k
  have hwA := h.a.w
  have hwB := h.b.w
  obtain ⟨n, hn⟩ : ∃ n, n = p / 8 := ⟨_, rfl⟩
  have w1 : Int.tdiv (p : Int) 8 = (n : Int) := by rw [Int.tdiv_eq_ediv_of_nonneg (by omega)]; omega
  have w1' : IntKind.u8.wrap (n : Int) = (n : Int) := by
    simp only [IntKind.wrap, IntKind.signed, IntKind.bits, Bool.false_and]
    show (n : Int) % 256 = _
    omega
  have w2 : IntKind.i64.wrap (n : Int) = (n : Int) := by rw [wrap_i64_id (by omega) (by omega)]
  have hn32 : n < 32 := by omega
  have w3 : Int.tmod (p : Int) 8 = 2 := by rw [Int.tmod_eq_emod_of_nonneg (by omega)]; omega
  have hd1 := due_fs l.B (by omega) (fun q hq => by have := h.b.wb q hq; omega)
  have hrA := read_fs l.A
  have hrB := read_fs l.B.due
  simp only [En.pv, En.cs, pcs] at hd1 hrA hrB
  have hcore : core l p = core2 l := by rw [core, if_neg (by omega), if_neg (by omega), if_pos hm]
  rw [hcore] at c2 c3
  rw [Ln.step, hcore]
  simp only [core2] at c2 c3
  simp only [core2, Ln.rd, Ln.pv, strs, pcs]
  have hdl := dueP_len l.B hwB
  have hX := h.b.due
  have hXr : l.B.due.read = l.B.read := rfl
  generalize l.B.due = X at *
  generalize l.B.dueP = Q at *
  (refine Fsp.of (nx := 0) mixed Try.func16 rfl (by decide) (by first | exact Nat.le_refl _ | simp) (by simp [Try.f16]) ⟨by decide, by decide⟩ ?_; simp -implicitDefEqProofs only [push_cast, Try.f16, Ln.pv, strs, pcs, w1, w1', w2, w3, Int.reduceBEq, Int.reduceBNe, Int.reduceEq, Int.reduceNe, Int.reducePow, Nat.reduceAdd, Nat.reduceMul, Nat.reduceSub, Nat.reduceLT, Nat.reduceLeDiff, Nat.reduceEqDiff, Nat.reduceBEq, Int.reduceLT, Int.reduceLE, Int.reduceAdd, Int.reduceSub, Int.reduceMul, Int.reduceToNat, Int.reduceNeg, reduceIte, reduceCtorEq, reduceBEq])
  refine callE_pure hd1 (by rfl) (by rfl) (by rfl) (by decide) (by rfl) (fun _ => by rfl) (by first | rfl | simp [gdOk, newToks]) ?_
  simp -implicitDefEqProofs only [push_cast, Int.reduceBEq, Int.reduceBNe, Int.reduceEq, Int.reduceNe, Int.reducePow, Nat.reduceAdd, Nat.reduceMul, Nat.reduceSub, Nat.reduceLT, Nat.reduceLeDiff, Nat.reduceEqDiff, Nat.reduceBEq, Int.reduceLT, Int.reduceLE, Int.reduceAdd, Int.reduceSub, Int.reduceMul, Int.reduceToNat, Int.reduceNeg, reduceIte, reduceCtorEq, reduceBEq]
  refine callE_bs ?_
  simp -implicitDefEqProofs only [push_cast, Int.reduceBEq, Int.reduceBNe, Int.reduceEq, Int.reduceNe, Int.reducePow, Nat.reduceAdd, Nat.reduceMul, Nat.reduceSub, Nat.reduceLT, Nat.reduceLeDiff, Nat.reduceEqDiff, Nat.reduceBEq, Int.reduceLT, Int.reduceLE, Int.reduceAdd, Int.reduceSub, Int.reduceMul, Int.reduceToNat, Int.reduceNeg, reduceIte, reduceCtorEq, reduceBEq]
  (repeat (first | refine ⟨by omega, ?_⟩ | refine ⟨by (unfold drawOk; kernel_rfl), ?_⟩ | refine ⟨by simp only [List.length_map, List.length_append, List.length_take, List.length_drop]; omega, ?_⟩))
  refine callE_pure hrB (by rfl) (by rfl) (by rfl) (by decide) (by rfl) (fun _ => by rfl) (by first | rfl | simp [gdOk, newToks]) ?_
  simp -implicitDefEqProofs only [push_cast, Int.reduceBEq, Int.reduceBNe, Int.reduceEq, Int.reduceNe, Int.reducePow, Nat.reduceAdd, Nat.reduceMul, Nat.reduceSub, Nat.reduceLT, Nat.reduceLeDiff, Nat.reduceEqDiff, Nat.reduceBEq, Int.reduceLT, Int.reduceLE, Int.reduceAdd, Int.reduceSub, Int.reduceMul, Int.reduceToNat, Int.reduceNeg, reduceIte, reduceCtorEq, reduceBEq]
  refine callE_pure hrA (by rfl) (by rfl) (by rfl) (by decide) (by rfl) (fun _ => by rfl) (by first | rfl | simp [gdOk, newToks]) ?_
  simp -implicitDefEqProofs only [push_cast, Int.reduceBEq, Int.reduceBNe, Int.reduceEq, Int.reduceNe, Int.reducePow, Nat.reduceAdd, Nat.reduceMul, Nat.reduceSub, Nat.reduceLT, Nat.reduceLeDiff, Nat.reduceEqDiff, Nat.reduceBEq, Int.reduceLT, Int.reduceLE, Int.reduceAdd, Int.reduceSub, Int.reduceMul, Int.reduceToNat, Int.reduceNeg, reduceIte, reduceCtorEq, reduceBEq]
  (repeat (first | refine ⟨by omega, ?_⟩ | refine ⟨by (unfold drawOk; kernel_rfl), ?_⟩ | refine ⟨by simp only [List.length_map, List.length_append, List.length_take, List.length_drop]; omega, ?_⟩))
  all_goals exact ⟨_, rfl, by simp [wkL, res2, res1, PV.weak, PV.el, pcs, strs]⟩

end Go.Proofs.Lk
