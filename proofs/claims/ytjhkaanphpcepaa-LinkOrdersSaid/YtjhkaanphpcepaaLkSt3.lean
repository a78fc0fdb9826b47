/- A line's step. -/
import Derived.Test.YtjhkaanphpcepaaLkLine
set_option maxRecDepth 100000
set_option linter.unusedSimpArgs false
set_option linter.unusedVariables false
namespace Go.Proofs.Lk
open Go.Pv

set_option maxHeartbeats 8000000 in
theorem step3_fs (l : Ln) {i : Nat} (p : Nat) (hp : p < 256) (hm : p % 8 = 3) (h : LnOk i l) (hi : i ≤ 300) (ha : l.A.read = []) (hb : l.B.read = []) : Fsp Try.prog 16 [] 0 [l.pv, .int .u8 (p : Int)] [] 0 (.tup [(l.step p).pv, .bool true]) := by
  obtain ⟨c1, c2, c3, c4, c5, c6, c7⟩ := core_ok h hi p ha hb
  have okA := h.a.ok hi
  have okB := h.b.ok hi
  have hs := h.s
  have hr := h.r
  have hc := h.c
  have hd := h.dd
  have htl := h.t
  have hkl := h.k
  have hwA := h.a.w
  have hwB := h.b.w
  obtain ⟨n, hn⟩ : ∃ n, n = p / 8 := ⟨_, rfl⟩
  have w1 : Int.tdiv (p : Int) 8 = (n : Int) := by rw [Int.tdiv_eq_ediv_of_nonneg (by omega)]; omega
  have w1' : IntKind.u8.wrap (n : Int) = (n : Int) := by
    simp only [IntKind.wrap, IntKind.signed, IntKind.bits, Bool.false_and]
    show (n : Int) % 256 = _
    omega
  have w2 : IntKind.i64.wrap (n : Int) = (n : Int) := by rw [wrap_i64_id (by omega) (by omega)]
  have hn32 : n < 32 := by omega
  have w3 : Int.tmod (p : Int) 8 = 3 := by rw [Int.tmod_eq_emod_of_nonneg (by omega)]; omega
  have hrA := read_fs l.A
  simp only [En.pv, En.cs, pcs] at hrA
  have rA : l.A.read.length ≤ 60000 := by rw [ha]; simp
  have rB : l.B.read.length ≤ 60000 := by rw [hb]; simp
  by_cases hT : l.T = []
  · have hcore : core l p = l := by rw [core, if_neg (by omega), if_neg (by omega), if_neg (by omega), if_pos hm, if_pos hT]
    have hrB := read_fs l.B
    simp only [En.pv, En.cs, pcs] at hrB
    rw [Ln.step, hcore]
    simp only [Ln.rd, Ln.pv, strs, pcs]
    (refine Fsp.of (nx := 0) mixed Try.func16 rfl (by decide) (by first | exact Nat.le_refl _ | simp) (by simp [Try.f16]) ⟨by decide, by decide⟩ ?_; simp -implicitDefEqProofs only [push_cast, Try.f16, Ln.pv, strs, pcs, w1, w1', w2, w3, hT, List.map_nil, Int.reduceBEq, Int.reduceBNe, Int.reduceEq, Int.reduceNe, Int.reducePow, Nat.reduceAdd, Nat.reduceMul, Nat.reduceSub, Nat.reduceLT, Nat.reduceLeDiff, Nat.reduceEqDiff, Nat.reduceBEq, Int.reduceLT, Int.reduceLE, Int.reduceAdd, Int.reduceSub, Int.reduceMul, Int.reduceToNat, Int.reduceNeg, reduceIte, reduceCtorEq, reduceBEq])
    (repeat (first | refine ⟨by omega, ?_⟩ | refine ⟨by (unfold drawOk; kernel_rfl), ?_⟩ | refine ⟨by simp only [List.length_map, List.length_append, List.length_take, List.length_drop]; omega, ?_⟩))
    refine callE_pure hrB (by rfl) (by rfl) (by rfl) (by decide) (by rfl) (fun _ => by rfl) (by first | rfl | simp [gdOk, newToks]) ?_
    simp -implicitDefEqProofs only [push_cast, Int.reduceBEq, Int.reduceBNe, Int.reduceEq, Int.reduceNe, Int.reducePow, Nat.reduceAdd, Nat.reduceMul, Nat.reduceSub, Nat.reduceLT, Nat.reduceLeDiff, Nat.reduceEqDiff, Nat.reduceBEq, Int.reduceLT, Int.reduceLE, Int.reduceAdd, Int.reduceSub, Int.reduceMul, Int.reduceToNat, Int.reduceNeg, reduceIte, reduceCtorEq, reduceBEq]
    refine callE_pure hrA (by rfl) (by rfl) (by rfl) (by decide) (by rfl) (fun _ => by rfl) (by first | rfl | simp [gdOk, newToks]) ?_
    simp -implicitDefEqProofs only [push_cast, Int.reduceBEq, Int.reduceBNe, Int.reduceEq, Int.reduceNe, Int.reducePow, Nat.reduceAdd, Nat.reduceMul, Nat.reduceSub, Nat.reduceLT, Nat.reduceLeDiff, Nat.reduceEqDiff, Nat.reduceBEq, Int.reduceLT, Int.reduceLE, Int.reduceAdd, Int.reduceSub, Int.reduceMul, Int.reduceToNat, Int.reduceNeg, reduceIte, reduceCtorEq, reduceBEq]
    (repeat (first | refine ⟨by omega, ?_⟩ | refine ⟨by (unfold drawOk; kernel_rfl), ?_⟩ | refine ⟨by simp only [List.length_map, List.length_append, List.length_take, List.length_drop]; omega, ?_⟩))
    all_goals exact ⟨_, rfl, by simp [wkL, res2, res1, PV.weak, PV.el, pcs, strs]⟩
  · have hcore : core l p = core3 l n := by rw [core, if_neg (by omega), if_neg (by omega), if_neg (by omega), if_pos hm, if_neg hT, hn]
    have hlen : 0 < l.T.length := List.length_pos_iff.2 hT
    obtain ⟨k, hk⟩ : ∃ k, k = n % l.T.length := ⟨_, rfl⟩
    have hkl2 : k < l.T.length := by rw [hk]; exact Nat.mod_lt _ hlen
    have w4 : Int.tmod (n : Int) (l.T.length : Int) = (k : Int) := by rw [Int.tmod_eq_emod_of_nonneg (by omega), hk]; exact (Int.natCast_emod _ _).symm
    have w5 : IntKind.i64.wrap (k : Int) = (k : Int) := by rw [wrap_i64_id (by omega) (by omega)]
    have w6 : IntKind.i64.wrap ((k : Int) + 1) = ((k + 1 : Nat) : Int) := by rw [wrap_i64_id (by omega) (by omega)]; rfl
    obtain ⟨t, ht⟩ : ∃ t, t = pick l.T n := ⟨_, rfl⟩
    have htm : t ∈ l.T := by rw [ht]; exact pick_mem hT
    have htl3 := h.tl t htm
    have hg : (List.map PV.str l.T)[k]? = some (.str t) := by
      rw [ht, pick, ← hk, List.getElem?_map, List.getElem?_eq_getElem hkl2, List.getD_eq_getElem?_getD, List.getElem?_eq_getElem hkl2]; rfl
    have hgd : (List.map PV.str l.T).getD k PV.any = .str t := by rw [List.getD_eq_getElem?_getD, hg]; rfl
    have hz := c6 hm hT
    rw [← hn, ← ht] at hz
    have hgot := got_fs l.B t okB (by omega)
    rw [gotR, hz] at hgot
    rw [if_pos (show ((0 : Int) == 0) = true from rfl)] at hgot
    have hrB := read_fs (l.B.gotE t)
    simp only [En.pv, En.cs, pcs] at hgot hrB
    rw [hcore] at c2 c3
    rw [Ln.step, hcore]
    simp only [core3] at c2 c3
    simp only [core3, Ln.rd, Ln.pv, strs, pcs]
    rw [← ht] at c3 ⊢
    generalize l.B.gotE t = X at *
    have hlm : ((List.map PV.str l.T).length : Int) = (l.T.length : Int) := by rw [List.length_map]
    by_cases h2 : 0 < n % 3
    · obtain ⟨j, hj⟩ : ∃ j, j = n % 3 := ⟨_, rfl⟩
      have v4 : Int.tmod (n : Int) 3 = (j : Int) := by rw [Int.tmod_eq_emod_of_nonneg (by omega)]; omega
      have v5 : decide ((0 : Int) < (j : Int)) = true := by simp; omega
      have hl : left l.T n = l.T.take k ++ l.T.drop (k + 1) := by rw [left, if_pos h2, hk]
      rw [hl]
      (refine Fsp.of (nx := 0) mixed Try.func16 rfl (by decide) (by first | exact Nat.le_refl _ | simp) (by simp [Try.f16]) ⟨by decide, by decide⟩ ?_; simp -implicitDefEqProofs only [push_cast, Try.f16, Ln.pv, strs, pcs, w1, w1', w2, w3, w4, w5, w6, v4, v5, hlm, Int.reduceBEq, Int.reduceBNe, Int.reduceEq, Int.reduceNe, Int.reducePow, Nat.reduceAdd, Nat.reduceMul, Nat.reduceSub, Nat.reduceLT, Nat.reduceLeDiff, Nat.reduceEqDiff, Nat.reduceBEq, Int.reduceLT, Int.reduceLE, Int.reduceAdd, Int.reduceSub, Int.reduceMul, Int.reduceToNat, Int.reduceNeg, reduceIte, reduceCtorEq, reduceBEq])
      refine condC_split (fun h3 => ?_) (fun h3 => by simp at h3; exact absurd h3 hT)
      simp -implicitDefEqProofs only [push_cast, w4, w5, hlm, hg, hgd, Int.reduceBEq, Int.reduceBNe, Int.reduceEq, Int.reduceNe, Int.reducePow, Nat.reduceAdd, Nat.reduceMul, Nat.reduceSub, Nat.reduceLT, Nat.reduceLeDiff, Nat.reduceEqDiff, Nat.reduceBEq, Int.reduceLT, Int.reduceLE, Int.reduceAdd, Int.reduceSub, Int.reduceMul, Int.reduceToNat, Int.reduceNeg, reduceIte, reduceCtorEq, reduceBEq]
      (repeat (first | refine ⟨by omega, ?_⟩ | refine ⟨by (unfold drawOk; kernel_rfl), ?_⟩ | refine ⟨by simp only [List.length_map, List.length_append, List.length_take, List.length_drop]; omega, ?_⟩))
      refine callE_pure hgot (by rfl) (by rfl) (by rfl) (by decide) (by rfl) (fun _ => by rfl) (by first | rfl | simp [gdOk, newToks]) ?_
      simp -implicitDefEqProofs only [push_cast, v4, v5, w6, hlm, Int.reduceBEq, Int.reduceBNe, Int.reduceEq, Int.reduceNe, Int.reducePow, Nat.reduceAdd, Nat.reduceMul, Nat.reduceSub, Nat.reduceLT, Nat.reduceLeDiff, Nat.reduceEqDiff, Nat.reduceBEq, Int.reduceLT, Int.reduceLE, Int.reduceAdd, Int.reduceSub, Int.reduceMul, Int.reduceToNat, Int.reduceNeg, reduceIte, reduceCtorEq, reduceBEq]
      (repeat (first | refine ⟨by omega, ?_⟩ | refine ⟨by (unfold drawOk; kernel_rfl), ?_⟩ | refine ⟨by simp only [List.length_map, List.length_append, List.length_take, List.length_drop]; omega, ?_⟩))
      refine callE_bs ?_
      have t1 : List.take k (List.map PV.str l.T) = List.map PV.str (l.T.take k) := List.map_take.symm
      have t2 : List.take ((List.map PV.str l.T).length - (k + 1)) (List.drop (k + 1) (List.map PV.str l.T)) = List.map PV.str (l.T.drop (k + 1)) := by
        rw [← List.map_drop]
        apply List.take_of_length_le
        simp
      have t3 : List.take (l.T.length - (k + 1)) (List.drop (k + 1) (List.map PV.str l.T)) = List.map PV.str (l.T.drop (k + 1)) := by
        rw [← List.map_drop]
        apply List.take_of_length_le
        simp
      simp -implicitDefEqProofs only [push_cast, v4, v5, w6, hlm, t1, t2, t3, Int.reduceBEq, Int.reduceBNe, Int.reduceEq, Int.reduceNe, Int.reducePow, Nat.reduceAdd, Nat.reduceMul, Nat.reduceSub, Nat.reduceLT, Nat.reduceLeDiff, Nat.reduceEqDiff, Nat.reduceBEq, Int.reduceLT, Int.reduceLE, Int.reduceAdd, Int.reduceSub, Int.reduceMul, Int.reduceToNat, Int.reduceNeg, reduceIte, reduceCtorEq, reduceBEq]
      (repeat (first | refine ⟨by omega, ?_⟩ | refine ⟨by (unfold drawOk; kernel_rfl), ?_⟩ | refine ⟨by simp only [List.length_map, List.length_append, List.length_take, List.length_drop]; omega, ?_⟩))
      refine callE_pure hrB (by rfl) (by rfl) (by rfl) (by decide) (by rfl) (fun _ => by rfl) (by first | rfl | simp [gdOk, newToks]) ?_
      simp -implicitDefEqProofs only [push_cast, Int.reduceBEq, Int.reduceBNe, Int.reduceEq, Int.reduceNe, Int.reducePow, Nat.reduceAdd, Nat.reduceMul, Nat.reduceSub, Nat.reduceLT, Nat.reduceLeDiff, Nat.reduceEqDiff, Nat.reduceBEq, Int.reduceLT, Int.reduceLE, Int.reduceAdd, Int.reduceSub, Int.reduceMul, Int.reduceToNat, Int.reduceNeg, reduceIte, reduceCtorEq, reduceBEq]
      refine callE_pure hrA (by rfl) (by rfl) (by rfl) (by decide) (by rfl) (fun _ => by rfl) (by first | rfl | simp [gdOk, newToks]) ?_
      simp -implicitDefEqProofs only [push_cast, Int.reduceBEq, Int.reduceBNe, Int.reduceEq, Int.reduceNe, Int.reducePow, Nat.reduceAdd, Nat.reduceMul, Nat.reduceSub, Nat.reduceLT, Nat.reduceLeDiff, Nat.reduceEqDiff, Nat.reduceBEq, Int.reduceLT, Int.reduceLE, Int.reduceAdd, Int.reduceSub, Int.reduceMul, Int.reduceToNat, Int.reduceNeg, reduceIte, reduceCtorEq, reduceBEq]
      (repeat (first | refine ⟨by omega, ?_⟩ | refine ⟨by (unfold drawOk; kernel_rfl), ?_⟩ | refine ⟨by simp only [List.length_map, List.length_append, List.length_take, List.length_drop]; omega, ?_⟩))
      all_goals exact ⟨_, rfl, by simp [wkL, res2, res1, PV.weak, PV.el, pcs, strs, List.map_append]; exact List.take_of_length_le (by simp)⟩
    · have hj : n % 3 = 0 := by omega
      have v4 : Int.tmod (n : Int) 3 = 0 := by rw [Int.tmod_eq_emod_of_nonneg (by omega)]; omega
      have hl : left l.T n = l.T := by rw [left, if_neg h2]
      rw [hl]
      (refine Fsp.of (nx := 0) mixed Try.func16 rfl (by decide) (by first | exact Nat.le_refl _ | simp) (by simp [Try.f16]) ⟨by decide, by decide⟩ ?_; simp -implicitDefEqProofs only [push_cast, Try.f16, Ln.pv, strs, pcs, w1, w1', w2, w3, w4, w5, w6, v4, hlm, Int.reduceBEq, Int.reduceBNe, Int.reduceEq, Int.reduceNe, Int.reducePow, Nat.reduceAdd, Nat.reduceMul, Nat.reduceSub, Nat.reduceLT, Nat.reduceLeDiff, Nat.reduceEqDiff, Nat.reduceBEq, Int.reduceLT, Int.reduceLE, Int.reduceAdd, Int.reduceSub, Int.reduceMul, Int.reduceToNat, Int.reduceNeg, reduceIte, reduceCtorEq, reduceBEq])
      refine condC_split (fun h3 => ?_) (fun h3 => by simp at h3; exact absurd h3 hT)
      simp -implicitDefEqProofs only [push_cast, w4, w5, hlm, hg, hgd, Int.reduceBEq, Int.reduceBNe, Int.reduceEq, Int.reduceNe, Int.reducePow, Nat.reduceAdd, Nat.reduceMul, Nat.reduceSub, Nat.reduceLT, Nat.reduceLeDiff, Nat.reduceEqDiff, Nat.reduceBEq, Int.reduceLT, Int.reduceLE, Int.reduceAdd, Int.reduceSub, Int.reduceMul, Int.reduceToNat, Int.reduceNeg, reduceIte, reduceCtorEq, reduceBEq]
      (repeat (first | refine ⟨by omega, ?_⟩ | refine ⟨by (unfold drawOk; kernel_rfl), ?_⟩ | refine ⟨by simp only [List.length_map, List.length_append, List.length_take, List.length_drop]; omega, ?_⟩))
      refine callE_pure hgot (by rfl) (by rfl) (by rfl) (by decide) (by rfl) (fun _ => by rfl) (by first | rfl | simp [gdOk, newToks]) ?_
      simp -implicitDefEqProofs only [push_cast, v4, w6, hlm, Int.reduceBEq, Int.reduceBNe, Int.reduceEq, Int.reduceNe, Int.reducePow, Nat.reduceAdd, Nat.reduceMul, Nat.reduceSub, Nat.reduceLT, Nat.reduceLeDiff, Nat.reduceEqDiff, Nat.reduceBEq, Int.reduceLT, Int.reduceLE, Int.reduceAdd, Int.reduceSub, Int.reduceMul, Int.reduceToNat, Int.reduceNeg, reduceIte, reduceCtorEq, reduceBEq]
      (repeat (first | refine ⟨by omega, ?_⟩ | refine ⟨by (unfold drawOk; kernel_rfl), ?_⟩ | refine ⟨by simp only [List.length_map, List.length_append, List.length_take, List.length_drop]; omega, ?_⟩))
      refine callE_pure hrB (by rfl) (by rfl) (by rfl) (by decide) (by rfl) (fun _ => by rfl) (by first | rfl | simp [gdOk, newToks]) ?_
      simp -implicitDefEqProofs only [push_cast, Int.reduceBEq, Int.reduceBNe, Int.reduceEq, Int.reduceNe, Int.reducePow, Nat.reduceAdd, Nat.reduceMul, Nat.reduceSub, Nat.reduceLT, Nat.reduceLeDiff, Nat.reduceEqDiff, Nat.reduceBEq, Int.reduceLT, Int.reduceLE, Int.reduceAdd, Int.reduceSub, Int.reduceMul, Int.reduceToNat, Int.reduceNeg, reduceIte, reduceCtorEq, reduceBEq]
      refine callE_pure hrA (by rfl) (by rfl) (by rfl) (by decide) (by rfl) (fun _ => by rfl) (by first | rfl | simp [gdOk, newToks]) ?_
      simp -implicitDefEqProofs only [push_cast, Int.reduceBEq, Int.reduceBNe, Int.reduceEq, Int.reduceNe, Int.reducePow, Nat.reduceAdd, Nat.reduceMul, Nat.reduceSub, Nat.reduceLT, Nat.reduceLeDiff, Nat.reduceEqDiff, Nat.reduceBEq, Int.reduceLT, Int.reduceLE, Int.reduceAdd, Int.reduceSub, Int.reduceMul, Int.reduceToNat, Int.reduceNeg, reduceIte, reduceCtorEq, reduceBEq]
      (repeat (first | refine ⟨by omega, ?_⟩ | refine ⟨by (unfold drawOk; kernel_rfl), ?_⟩ | refine ⟨by simp only [List.length_map, List.length_append, List.length_take, List.length_drop]; omega, ?_⟩))
      all_goals exact ⟨_, rfl, by simp [wkL, res2, res1, PV.weak, PV.el, pcs, strs]⟩

end Go.Proofs.Lk
