/- A line's step. -/
import Derived.Test.YtjhkaanphpcepaaLkLine
set_option maxRecDepth 100000
set_option linter.unusedSimpArgs false
set_option linter.unusedVariables false
namespace Go.Proofs.Lk
open Go.Pv

set_option maxHeartbeats 8000000 in
theorem step0_fs (l : Ln) {i : Nat} (p : Nat) (hp : p < 256) (hm : p % 8 = 0) (h : LnOk i l) (hi : i ≤ 300) (ha : l.A.read = []) (hb : l.B.read = []) : Fsp Try.prog 16 [] 0 [l.pv, .int .u8 (p : Int)] [] 0 (.tup [(l.step p).pv, .bool true]) := by
  obtain ⟨c1, c2, c3, c4, c5, c6, c7⟩ := core_ok h hi p ha hb
  have okA := h.a.ok hi
  have okB := h.b.ok hi
  have hs := h.s
  have hr := h.r
  have hc := h.c
  have hd := h.dd
  have htl := h.t
  have hkl := h.k
  have hwA := h.a.w
  have hwB := h.b.w
  obtain ⟨n, hn⟩ : ∃ n, n = p / 8 := ⟨_, rfl⟩
  have w1 : Int.tdiv (p : Int) 8 = (n : Int) := by rw [Int.tdiv_eq_ediv_of_nonneg (by omega)]; omega
  have w1' : IntKind.u8.wrap (n : Int) = (n : Int) := by
    simp only [IntKind.wrap, IntKind.signed, IntKind.bits, Bool.false_and]
    show (n : Int) % 256 = _
    omega
  have w2 : IntKind.i64.wrap (n : Int) = (n : Int) := by rw [wrap_i64_id (by omega) (by omega)]
  have hn32 : n < 32 := by omega
  have w3 : Int.tmod (p : Int) 8 = 0 := by rw [Int.tmod_eq_emod_of_nonneg (by omega)]; omega
  have hcore : core l p = core0 l n := by rw [core, if_pos hm, hn]
  rw [hcore] at c2 c3
  rw [Ln.step, hcore]
  obtain ⟨t, ht⟩ : ∃ t, t = text0 n l.S.length := ⟨_, rfl⟩
  have w4 : Int.tmod (n : Int) 26 = ((n % 26 : Nat) : Int) := by rw [Int.tmod_eq_emod_of_nonneg (by omega)]; omega
  have w5 : Int.tmod (l.S.length : Int) 26 = ((l.S.length % 26 : Nat) : Int) := by rw [Int.tmod_eq_emod_of_nonneg (by omega)]; omega
  obtain ⟨x, hx⟩ : ∃ x, x = n % 26 := ⟨_, rfl⟩
  obtain ⟨y, hy⟩ : ∃ y, y = l.S.length % 26 := ⟨_, rfl⟩
  have hx26 : x < 26 := by omega
  have hy26 : y < 26 := by omega
  rw [← hx] at w4
  rw [← hy] at w5
  have w6 : IntKind.i64.wrap (x : Int) = (x : Int) := by rw [wrap_i64_id (by omega) (by omega)]
  have w7 : IntKind.i64.wrap (y : Int) = (y : Int) := by rw [wrap_i64_id (by omega) (by omega)]
  have u8 : ∀ z : Nat, z < 256 → IntKind.u8.wrap (z : Int) = (z : Int) := fun z hz => by
    simp only [IntKind.wrap, IntKind.signed, IntKind.bits, Bool.false_and]
    show (z : Int) % 256 = _
    omega
  have w8 := u8 x (by omega)
  have w9 := u8 y (by omega)
  have v8 : IntKind.u8.wrap (97 + (x : Int)) = ((97 + x : Nat) : Int) := by rw [show 97 + (x : Int) = ((97 + x : Nat) : Int) by omega]; exact u8 _ (by omega)
  have v9 : IntKind.u8.wrap (65 + (y : Int)) = ((65 + y : Nat) : Int) := by rw [show 65 + (y : Int) = ((65 + y : Nat) : Int) by omega]; exact u8 _ (by omega)
  obtain ⟨xx, hxx⟩ : ∃ xx, xx = 97 + x := ⟨_, rfl⟩
  obtain ⟨yy, hyy⟩ : ∃ yy, yy = 65 + y := ⟨_, rfl⟩
  rw [← hxx] at v8
  rw [← hyy] at v9
  have ht2 : t = [UInt8.ofNat xx, UInt8.ofNat yy] := by rw [ht, text0, hxx, hyy, hx, hy]
  have htl2 : t.length = 2 := by rw [ht2]; rfl
  have hsd := send_fs l.A t okA (by omega)
  rw [ht2] at hsd
  have bo : ∀ z : Nat, Pv.byteOf (PV.int .u8 (z : Int)) = UInt8.ofNat z := fun z => by simp [Pv.byteOf]
  have hB : sendB l.A (text0 n l.S.length) = true ∨ sendB l.A (text0 n l.S.length) = false := by cases sendB l.A (text0 n l.S.length) <;> simp
  rcases hB with hB | hB
  · have hsR : sendR l.A [UInt8.ofNat xx, UInt8.ofNat yy] = .tup [(l.A.sendE t).pv, .int .i64 0] := by
      rw [← ht, sendB, Bool.and_eq_true] at hB
      rw [← ht2, sendR, if_neg (by simpa using hB.1), if_neg (by simpa using hB.2)]
    rw [hsR] at hsd
    have hrA := read_fs (l.A.sendE t)
    have hrB := read_fs l.B
    simp only [En.pv, En.cs, pcs] at hsd hrA hrB
    rw [core0, if_pos hB, ← ht] at c2 c3 ⊢
    simp only at c2 c3
    simp only [Ln.rd, Ln.pv, strs, pcs]
    generalize l.A.sendE t = X at *
    (refine Fsp.of (nx := 0) mixed Try.func16 rfl (by decide) (by first | exact Nat.le_refl _ | simp) (by simp [Try.f16]) ⟨by decide, by decide⟩ ?_; simp -implicitDefEqProofs only [push_cast, Try.f16, Ln.pv, strs, pcs, w1, w1', w2, w3, w4, w5, w6, w7, w8, w9, v8, v9, bo, Int.reduceBEq, Int.reduceBNe, Int.reduceEq, Int.reduceNe, Int.reducePow, Nat.reduceAdd, Nat.reduceMul, Nat.reduceSub, Nat.reduceLT, Nat.reduceLeDiff, Nat.reduceEqDiff, Nat.reduceBEq, Int.reduceLT, Int.reduceLE, Int.reduceAdd, Int.reduceSub, Int.reduceMul, Int.reduceToNat, Int.reduceNeg, reduceIte, reduceCtorEq, reduceBEq])
    refine callE_pure hsd (by rfl) (by rfl) (by rfl) (by decide) (by rfl) (fun _ => by rfl) (by first | rfl | simp [gdOk, newToks]) ?_
    simp -implicitDefEqProofs only [push_cast, Int.reduceBEq, Int.reduceBNe, Int.reduceEq, Int.reduceNe, Int.reducePow, Nat.reduceAdd, Nat.reduceMul, Nat.reduceSub, Nat.reduceLT, Nat.reduceLeDiff, Nat.reduceEqDiff, Nat.reduceBEq, Int.reduceLT, Int.reduceLE, Int.reduceAdd, Int.reduceSub, Int.reduceMul, Int.reduceToNat, Int.reduceNeg, reduceIte, reduceCtorEq, reduceBEq]
    (repeat (first | refine ⟨by omega, ?_⟩ | refine ⟨by (unfold drawOk; kernel_rfl), ?_⟩ | refine ⟨by simp only [List.length_map, List.length_append, List.length_take, List.length_drop]; omega, ?_⟩))
    refine callE_pure hrB (by rfl) (by rfl) (by rfl) (by decide) (by rfl) (fun _ => by rfl) (by first | rfl | simp [gdOk, newToks]) ?_
    simp -implicitDefEqProofs only [push_cast, Int.reduceBEq, Int.reduceBNe, Int.reduceEq, Int.reduceNe, Int.reducePow, Nat.reduceAdd, Nat.reduceMul, Nat.reduceSub, Nat.reduceLT, Nat.reduceLeDiff, Nat.reduceEqDiff, Nat.reduceBEq, Int.reduceLT, Int.reduceLE, Int.reduceAdd, Int.reduceSub, Int.reduceMul, Int.reduceToNat, Int.reduceNeg, reduceIte, reduceCtorEq, reduceBEq]
    refine callE_pure hrA (by rfl) (by rfl) (by rfl) (by decide) (by rfl) (fun _ => by rfl) (by first | rfl | simp [gdOk, newToks]) ?_
    simp -implicitDefEqProofs only [push_cast, Int.reduceBEq, Int.reduceBNe, Int.reduceEq, Int.reduceNe, Int.reducePow, Nat.reduceAdd, Nat.reduceMul, Nat.reduceSub, Nat.reduceLT, Nat.reduceLeDiff, Nat.reduceEqDiff, Nat.reduceBEq, Int.reduceLT, Int.reduceLE, Int.reduceAdd, Int.reduceSub, Int.reduceMul, Int.reduceToNat, Int.reduceNeg, reduceIte, reduceCtorEq, reduceBEq]
    (repeat (first | refine ⟨by omega, ?_⟩ | refine ⟨by (unfold drawOk; kernel_rfl), ?_⟩ | refine ⟨by simp only [List.length_map, List.length_append, List.length_take, List.length_drop]; omega, ?_⟩))
    rw [ht2]
    all_goals exact ⟨_, rfl, by simp [wkL, res2, res1, PV.weak, PV.el, pcs, strs]⟩
  · have hsR : ∃ c : Int, (c == 0) = false ∧ sendR l.A [UInt8.ofNat xx, UInt8.ofNat yy] = .tup [l.A.pv, .int .i64 c] := by
      rw [← ht, sendB] at hB
      rw [← ht2, sendR]
      split
      · exact ⟨9, rfl, rfl⟩
      · split
        · exact ⟨12, rfl, rfl⟩
        · rename_i h1 h2
          rw [Bool.eq_false_iff.2 h1, Bool.eq_false_iff.2 h2] at hB
          exact absurd hB (by decide)
    obtain ⟨c, hc0, hsR⟩ := hsR
    rw [hsR] at hsd
    have hrA := read_fs l.A
    have hrB := read_fs l.B
    simp only [En.pv, En.cs, pcs] at hsd hrA hrB
    rw [core0, if_neg (by rw [hB]; decide)] at c2 c3 ⊢
    simp only [Ln.rd, Ln.pv, strs, pcs]
    (refine Fsp.of (nx := 0) mixed Try.func16 rfl (by decide) (by first | exact Nat.le_refl _ | simp) (by simp [Try.f16]) ⟨by decide, by decide⟩ ?_; simp -implicitDefEqProofs only [push_cast, Try.f16, Ln.pv, strs, pcs, w1, w1', w2, w3, w4, w5, w6, w7, w8, w9, v8, v9, bo, Int.reduceBEq, Int.reduceBNe, Int.reduceEq, Int.reduceNe, Int.reducePow, Nat.reduceAdd, Nat.reduceMul, Nat.reduceSub, Nat.reduceLT, Nat.reduceLeDiff, Nat.reduceEqDiff, Nat.reduceBEq, Int.reduceLT, Int.reduceLE, Int.reduceAdd, Int.reduceSub, Int.reduceMul, Int.reduceToNat, Int.reduceNeg, reduceIte, reduceCtorEq, reduceBEq])
    refine callE_pure hsd (by rfl) (by rfl) (by rfl) (by decide) (by rfl) (fun _ => by rfl) (by first | rfl | simp [gdOk, newToks]) ?_
    simp -implicitDefEqProofs only [push_cast, hc0, Int.reduceBEq, Int.reduceBNe, Int.reduceEq, Int.reduceNe, Int.reducePow, Nat.reduceAdd, Nat.reduceMul, Nat.reduceSub, Nat.reduceLT, Nat.reduceLeDiff, Nat.reduceEqDiff, Nat.reduceBEq, Int.reduceLT, Int.reduceLE, Int.reduceAdd, Int.reduceSub, Int.reduceMul, Int.reduceToNat, Int.reduceNeg, reduceIte, reduceCtorEq, reduceBEq]
    (repeat (first | refine ⟨by omega, ?_⟩ | refine ⟨by (unfold drawOk; kernel_rfl), ?_⟩ | refine ⟨by simp only [List.length_map, List.length_append, List.length_take, List.length_drop]; omega, ?_⟩))
    refine callE_pure hrB (by rfl) (by rfl) (by rfl) (by decide) (by rfl) (fun _ => by rfl) (by first | rfl | simp [gdOk, newToks]) ?_
    simp -implicitDefEqProofs only [push_cast, Int.reduceBEq, Int.reduceBNe, Int.reduceEq, Int.reduceNe, Int.reducePow, Nat.reduceAdd, Nat.reduceMul, Nat.reduceSub, Nat.reduceLT, Nat.reduceLeDiff, Nat.reduceEqDiff, Nat.reduceBEq, Int.reduceLT, Int.reduceLE, Int.reduceAdd, Int.reduceSub, Int.reduceMul, Int.reduceToNat, Int.reduceNeg, reduceIte, reduceCtorEq, reduceBEq]
    refine callE_pure hrA (by rfl) (by rfl) (by rfl) (by decide) (by rfl) (fun _ => by rfl) (by first | rfl | simp [gdOk, newToks]) ?_
    simp -implicitDefEqProofs only [push_cast, Int.reduceBEq, Int.reduceBNe, Int.reduceEq, Int.reduceNe, Int.reducePow, Nat.reduceAdd, Nat.reduceMul, Nat.reduceSub, Nat.reduceLT, Nat.reduceLeDiff, Nat.reduceEqDiff, Nat.reduceBEq, Int.reduceLT, Int.reduceLE, Int.reduceAdd, Int.reduceSub, Int.reduceMul, Int.reduceToNat, Int.reduceNeg, reduceIte, reduceCtorEq, reduceBEq]
    (repeat (first | refine ⟨by omega, ?_⟩ | refine ⟨by (unfold drawOk; kernel_rfl), ?_⟩ | refine ⟨by simp only [List.length_map, List.length_append, List.length_take, List.length_drop]; omega, ?_⟩))
    all_goals exact ⟨_, rfl, by simp [wkL, res2, res1, PV.weak, PV.el, pcs, strs]⟩

end Go.Proofs.Lk

/- A line's step. -/
set_option maxRecDepth 100000
set_option linter.unusedSimpArgs false
set_option linter.unusedVariables false
namespace Go.Proofs.Lk
open Go.Pv

set_option maxHeartbeats 8000000 in
theorem step1_fs (l : Ln) {i : Nat} (p : Nat) (hp : p < 256) (hm : p % 8 = 1) (h : LnOk i l) (hi : i ≤ 300) (ha : l.A.read = []) (hb : l.B.read = []) : Fsp Try.prog 16 [] 0 [l.pv, .int .u8 (p : Int)] [] 0 (.tup [(l.step p).pv, .bool true]) := by
  obtain ⟨c1, c2, c3, c4, c5, c6, c7⟩ := core_ok h hi p ha hb
  have okA := h.a.ok hi
  have okB := h.b.ok hi
  have hs := h.s
  have hr := h.r
  have hc := h.c
  have hd := h.dd
  have htl := h.t
  have hkl := h.k
  have hwA := h.a.w
  have hwB := h.b.w
  obtain ⟨n, hn⟩ : ∃ n, n = p / 8 := ⟨_, rfl⟩
  have w1 : Int.tdiv (p : Int) 8 = (n : Int) := by rw [Int.tdiv_eq_ediv_of_nonneg (by omega)]; omega
  have w1' : IntKind.u8.wrap (n : Int) = (n : Int) := by
    simp only [IntKind.wrap, IntKind.signed, IntKind.bits, Bool.false_and]
    show (n : Int) % 256 = _
    omega
  have w2 : IntKind.i64.wrap (n : Int) = (n : Int) := by rw [wrap_i64_id (by omega) (by omega)]
  have hn32 : n < 32 := by omega
  have w3 : Int.tmod (p : Int) 8 = 1 := by rw [Int.tmod_eq_emod_of_nonneg (by omega)]; omega
  have hd1 := due_fs l.A (by omega) (fun q hq => by have := h.a.wb q hq; omega)
  have hrA := read_fs l.A.due
  have hrB := read_fs l.B
  simp only [En.pv, En.cs, pcs] at hd1 hrA hrB
  have hcore : core l p = core1 l := by rw [core, if_neg (by omega), if_pos hm]
  rw [hcore] at c2 c3
  rw [Ln.step, hcore]
  simp only [core1] at c2 c3
  simp only [core1, Ln.rd, Ln.pv, strs, pcs]
  have hdl := dueP_len l.A hwA
  have hX := h.a.due
  have hXr : l.A.due.read = l.A.read := rfl
  generalize l.A.due = X at *
  generalize l.A.dueP = Q at *
  (refine Fsp.of (nx := 0) mixed Try.func16 rfl (by decide) (by first | exact Nat.le_refl _ | simp) (by simp [Try.f16]) ⟨by decide, by decide⟩ ?_; simp -implicitDefEqProofs only [push_cast, Try.f16, Ln.pv, strs, pcs, w1, w1', w2, w3, Int.reduceBEq, Int.reduceBNe, Int.reduceEq, Int.reduceNe, Int.reducePow, Nat.reduceAdd, Nat.reduceMul, Nat.reduceSub, Nat.reduceLT, Nat.reduceLeDiff, Nat.reduceEqDiff, Nat.reduceBEq, Int.reduceLT, Int.reduceLE, Int.reduceAdd, Int.reduceSub, Int.reduceMul, Int.reduceToNat, Int.reduceNeg, reduceIte, reduceCtorEq, reduceBEq])
  refine callE_pure hd1 (by rfl) (by rfl) (by rfl) (by decide) (by rfl) (fun _ => by rfl) (by first | rfl | simp [gdOk, newToks]) ?_
  simp -implicitDefEqProofs only [push_cast, Int.reduceBEq, Int.reduceBNe, Int.reduceEq, Int.reduceNe, Int.reducePow, Nat.reduceAdd, Nat.reduceMul, Nat.reduceSub, Nat.reduceLT, Nat.reduceLeDiff, Nat.reduceEqDiff, Nat.reduceBEq, Int.reduceLT, Int.reduceLE, Int.reduceAdd, Int.reduceSub, Int.reduceMul, Int.reduceToNat, Int.reduceNeg, reduceIte, reduceCtorEq, reduceBEq]
  refine callE_bs ?_
  simp -implicitDefEqProofs only [push_cast, Int.reduceBEq, Int.reduceBNe, Int.reduceEq, Int.reduceNe, Int.reducePow, Nat.reduceAdd, Nat.reduceMul, Nat.reduceSub, Nat.reduceLT, Nat.reduceLeDiff, Nat.reduceEqDiff, Nat.reduceBEq, Int.reduceLT, Int.reduceLE, Int.reduceAdd, Int.reduceSub, Int.reduceMul, Int.reduceToNat, Int.reduceNeg, reduceIte, reduceCtorEq, reduceBEq]
  (repeat (first | refine ⟨by omega, ?_⟩ | refine ⟨by (unfold drawOk; kernel_rfl), ?_⟩ | refine ⟨by simp only [List.length_map, List.length_append, List.length_take, List.length_drop]; omega, ?_⟩))
  refine callE_pure hrB (by rfl) (by rfl) (by rfl) (by decide) (by rfl) (fun _ => by rfl) (by first | rfl | simp [gdOk, newToks]) ?_
  simp -implicitDefEqProofs only [push_cast, Int.reduceBEq, Int.reduceBNe, Int.reduceEq, Int.reduceNe, Int.reducePow, Nat.reduceAdd, Nat.reduceMul, Nat.reduceSub, Nat.reduceLT, Nat.reduceLeDiff, Nat.reduceEqDiff, Nat.reduceBEq, Int.reduceLT, Int.reduceLE, Int.reduceAdd, Int.reduceSub, Int.reduceMul, Int.reduceToNat, Int.reduceNeg, reduceIte, reduceCtorEq, reduceBEq]
  refine callE_pure hrA (by rfl) (by rfl) (by rfl) (by decide) (by rfl) (fun _ => by rfl) (by first | rfl | simp [gdOk, newToks]) ?_
  simp -implicitDefEqProofs only [push_cast, Int.reduceBEq, Int.reduceBNe, Int.reduceEq, Int.reduceNe, Int.reducePow, Nat.reduceAdd, Nat.reduceMul, Nat.reduceSub, Nat.reduceLT, Nat.reduceLeDiff, Nat.reduceEqDiff, Nat.reduceBEq, Int.reduceLT, Int.reduceLE, Int.reduceAdd, Int.reduceSub, Int.reduceMul, Int.reduceToNat, Int.reduceNeg, reduceIte, reduceCtorEq, reduceBEq]
  (repeat (first | refine ⟨by omega, ?_⟩ | refine ⟨by (unfold drawOk; kernel_rfl), ?_⟩ | refine ⟨by simp only [List.length_map, List.length_append, List.length_take, List.length_drop]; omega, ?_⟩))
  all_goals exact ⟨_, rfl, by simp [wkL, res2, res1, PV.weak, PV.el, pcs, strs]⟩

end Go.Proofs.Lk

/- A line's step. -/
set_option maxRecDepth 100000
set_option linter.unusedSimpArgs false
set_option linter.unusedVariables false
namespace Go.Proofs.Lk
open Go.Pv

set_option maxHeartbeats 8000000 in
theorem step2_fs (l : Ln) {i : Nat} (p : Nat) (hp : p < 256) (hm : p % 8 = 2) (h : LnOk i l) (hi : i ≤ 300) (ha : l.A.read = []) (hb : l.B.read = []) : Fsp Try.prog 16 [] 0 [l.pv, .int .u8 (p : Int)] [] 0 (.tup [(l.step p).pv, .bool true]) := by
  obtain ⟨c1, c2, c3, c4, c5, c6, c7⟩ := core_ok h hi p ha hb
  have okA := h.a.ok hi
  have okB := h.b.ok hi
  have hs := h.s
  have hr := h.r
  have hc := h.c
  have hd := h.dd
  have htl := h.t
  have hkl := h.k
  have hwA := h.a.w
  have hwB := h.b.w
  obtain ⟨n, hn⟩ : ∃ n, n = p / 8 := ⟨_, rfl⟩
  have w1 : Int.tdiv (p : Int) 8 = (n : Int) := by rw [Int.tdiv_eq_ediv_of_nonneg (by omega)]; omega
  have w1' : IntKind.u8.wrap (n : Int) = (n : Int) := by
    simp only [IntKind.wrap, IntKind.signed, IntKind.bits, Bool.false_and]
    show (n : Int) % 256 = _
    omega
  have w2 : IntKind.i64.wrap (n : Int) = (n : Int) := by rw [wrap_i64_id (by omega) (by omega)]
  have hn32 : n < 32 := by omega
  have w3 : Int.tmod (p : Int) 8 = 2 := by rw [Int.tmod_eq_emod_of_nonneg (by omega)]; omega
  have hd1 := due_fs l.B (by omega) (fun q hq => by have := h.b.wb q hq; omega)
  have hrA := read_fs l.A
  have hrB := read_fs l.B.due
  simp only [En.pv, En.cs, pcs] at hd1 hrA hrB
  have hcore : core l p = core2 l := by rw [core, if_neg (by omega), if_neg (by omega), if_pos hm]
  rw [hcore] at c2 c3
  rw [Ln.step, hcore]
  simp only [core2] at c2 c3
  simp only [core2, Ln.rd, Ln.pv, strs, pcs]
  have hdl := dueP_len l.B hwB
  have hX := h.b.due
  have hXr : l.B.due.read = l.B.read := rfl
  generalize l.B.due = X at *
  generalize l.B.dueP = Q at *
  (refine Fsp.of (nx := 0) mixed Try.func16 rfl (by decide) (by first | exact Nat.le_refl _ | simp) (by simp [Try.f16]) ⟨by decide, by decide⟩ ?_; simp -implicitDefEqProofs only [push_cast, Try.f16, Ln.pv, strs, pcs, w1, w1', w2, w3, Int.reduceBEq, Int.reduceBNe, Int.reduceEq, Int.reduceNe, Int.reducePow, Nat.reduceAdd, Nat.reduceMul, Nat.reduceSub, Nat.reduceLT, Nat.reduceLeDiff, Nat.reduceEqDiff, Nat.reduceBEq, Int.reduceLT, Int.reduceLE, Int.reduceAdd, Int.reduceSub, Int.reduceMul, Int.reduceToNat, Int.reduceNeg, reduceIte, reduceCtorEq, reduceBEq])
  refine callE_pure hd1 (by rfl) (by rfl) (by rfl) (by decide) (by rfl) (fun _ => by rfl) (by first | rfl | simp [gdOk, newToks]) ?_
  simp -implicitDefEqProofs only [push_cast, Int.reduceBEq, Int.reduceBNe, Int.reduceEq, Int.reduceNe, Int.reducePow, Nat.reduceAdd, Nat.reduceMul, Nat.reduceSub, Nat.reduceLT, Nat.reduceLeDiff, Nat.reduceEqDiff, Nat.reduceBEq, Int.reduceLT, Int.reduceLE, Int.reduceAdd, Int.reduceSub, Int.reduceMul, Int.reduceToNat, Int.reduceNeg, reduceIte, reduceCtorEq, reduceBEq]
  refine callE_bs ?_
  simp -implicitDefEqProofs only [push_cast, Int.reduceBEq, Int.reduceBNe, Int.reduceEq, Int.reduceNe, Int.reducePow, Nat.reduceAdd, Nat.reduceMul, Nat.reduceSub, Nat.reduceLT, Nat.reduceLeDiff, Nat.reduceEqDiff, Nat.reduceBEq, Int.reduceLT, Int.reduceLE, Int.reduceAdd, Int.reduceSub, Int.reduceMul, Int.reduceToNat, Int.reduceNeg, reduceIte, reduceCtorEq, reduceBEq]
  (repeat (first | refine ⟨by omega, ?_⟩ | refine ⟨by (unfold drawOk; kernel_rfl), ?_⟩ | refine ⟨by simp only [List.length_map, List.length_append, List.length_take, List.length_drop]; omega, ?_⟩))
  refine callE_pure hrB (by rfl) (by rfl) (by rfl) (by decide) (by rfl) (fun _ => by rfl) (by first | rfl | simp [gdOk, newToks]) ?_
  simp -implicitDefEqProofs only [push_cast, Int.reduceBEq, Int.reduceBNe, Int.reduceEq, Int.reduceNe, Int.reducePow, Nat.reduceAdd, Nat.reduceMul, Nat.reduceSub, Nat.reduceLT, Nat.reduceLeDiff, Nat.reduceEqDiff, Nat.reduceBEq, Int.reduceLT, Int.reduceLE, Int.reduceAdd, Int.reduceSub, Int.reduceMul, Int.reduceToNat, Int.reduceNeg, reduceIte, reduceCtorEq, reduceBEq]
  refine callE_pure hrA (by rfl) (by rfl) (by rfl) (by decide) (by rfl) (fun _ => by rfl) (by first | rfl | simp [gdOk, newToks]) ?_
  simp -implicitDefEqProofs only [push_cast, Int.reduceBEq, Int.reduceBNe, Int.reduceEq, Int.reduceNe, Int.reducePow, Nat.reduceAdd, Nat.reduceMul, Nat.reduceSub, Nat.reduceLT, Nat.reduceLeDiff, Nat.reduceEqDiff, Nat.reduceBEq, Int.reduceLT, Int.reduceLE, Int.reduceAdd, Int.reduceSub, Int.reduceMul, Int.reduceToNat, Int.reduceNeg, reduceIte, reduceCtorEq, reduceBEq]
  (repeat (first | refine ⟨by omega, ?_⟩ | refine ⟨by (unfold drawOk; kernel_rfl), ?_⟩ | refine ⟨by simp only [List.length_map, List.length_append, List.length_take, List.length_drop]; omega, ?_⟩))
  all_goals exact ⟨_, rfl, by simp [wkL, res2, res1, PV.weak, PV.el, pcs, strs]⟩

end Go.Proofs.Lk

/- A line's step. -/
set_option maxRecDepth 100000
set_option linter.unusedSimpArgs false
set_option linter.unusedVariables false
namespace Go.Proofs.Lk
open Go.Pv

set_option maxHeartbeats 8000000 in
theorem step3_fs (l : Ln) {i : Nat} (p : Nat) (hp : p < 256) (hm : p % 8 = 3) (h : LnOk i l) (hi : i ≤ 300) (ha : l.A.read = []) (hb : l.B.read = []) : Fsp Try.prog 16 [] 0 [l.pv, .int .u8 (p : Int)] [] 0 (.tup [(l.step p).pv, .bool true]) := by
  obtain ⟨c1, c2, c3, c4, c5, c6, c7⟩ := core_ok h hi p ha hb
  have okA := h.a.ok hi
  have okB := h.b.ok hi
  have hs := h.s
  have hr := h.r
  have hc := h.c
  have hd := h.dd
  have htl := h.t
  have hkl := h.k
  have hwA := h.a.w
  have hwB := h.b.w
  obtain ⟨n, hn⟩ : ∃ n, n = p / 8 := ⟨_, rfl⟩
  have w1 : Int.tdiv (p : Int) 8 = (n : Int) := by rw [Int.tdiv_eq_ediv_of_nonneg (by omega)]; omega
  have w1' : IntKind.u8.wrap (n : Int) = (n : Int) := by
    simp only [IntKind.wrap, IntKind.signed, IntKind.bits, Bool.false_and]
    show (n : Int) % 256 = _
    omega
  have w2 : IntKind.i64.wrap (n : Int) = (n : Int) := by rw [wrap_i64_id (by omega) (by omega)]
  have hn32 : n < 32 := by omega
  have w3 : Int.tmod (p : Int) 8 = 3 := by rw [Int.tmod_eq_emod_of_nonneg (by omega)]; omega
  have hrA := read_fs l.A
  simp only [En.pv, En.cs, pcs] at hrA
  have rA : l.A.read.length ≤ 60000 := by rw [ha]; simp
  have rB : l.B.read.length ≤ 60000 := by rw [hb]; simp
  by_cases hT : l.T = []
  · have hcore : core l p = l := by rw [core, if_neg (by omega), if_neg (by omega), if_neg (by omega), if_pos hm, if_pos hT]
    have hrB := read_fs l.B
    simp only [En.pv, En.cs, pcs] at hrB
    rw [Ln.step, hcore]
    simp only [Ln.rd, Ln.pv, strs, pcs]
    (refine Fsp.of (nx := 0) mixed Try.func16 rfl (by decide) (by first | exact Nat.le_refl _ | simp) (by simp [Try.f16]) ⟨by decide, by decide⟩ ?_; simp -implicitDefEqProofs only [push_cast, Try.f16, Ln.pv, strs, pcs, w1, w1', w2, w3, hT, List.map_nil, Int.reduceBEq, Int.reduceBNe, Int.reduceEq, Int.reduceNe, Int.reducePow, Nat.reduceAdd, Nat.reduceMul, Nat.reduceSub, Nat.reduceLT, Nat.reduceLeDiff, Nat.reduceEqDiff, Nat.reduceBEq, Int.reduceLT, Int.reduceLE, Int.reduceAdd, Int.reduceSub, Int.reduceMul, Int.reduceToNat, Int.reduceNeg, reduceIte, reduceCtorEq, reduceBEq])
    (repeat (first | refine ⟨by omega, ?_⟩ | refine ⟨by (unfold drawOk; kernel_rfl), ?_⟩ | refine ⟨by simp only [List.length_map, List.length_append, List.length_take, List.length_drop]; omega, ?_⟩))
    refine callE_pure hrB (by rfl) (by rfl) (by rfl) (by decide) (by rfl) (fun _ => by rfl) (by first | rfl | simp [gdOk, newToks]) ?_
    simp -implicitDefEqProofs only [push_cast, Int.reduceBEq, Int.reduceBNe, Int.reduceEq, Int.reduceNe, Int.reducePow, Nat.reduceAdd, Nat.reduceMul, Nat.reduceSub, Nat.reduceLT, Nat.reduceLeDiff, Nat.reduceEqDiff, Nat.reduceBEq, Int.reduceLT, Int.reduceLE, Int.reduceAdd, Int.reduceSub, Int.reduceMul, Int.reduceToNat, Int.reduceNeg, reduceIte, reduceCtorEq, reduceBEq]
    refine callE_pure hrA (by rfl) (by rfl) (by rfl) (by decide) (by rfl) (fun _ => by rfl) (by first | rfl | simp [gdOk, newToks]) ?_
    simp -implicitDefEqProofs only [push_cast, Int.reduceBEq, Int.reduceBNe, Int.reduceEq, Int.reduceNe, Int.reducePow, Nat.reduceAdd, Nat.reduceMul, Nat.reduceSub, Nat.reduceLT, Nat.reduceLeDiff, Nat.reduceEqDiff, Nat.reduceBEq, Int.reduceLT, Int.reduceLE, Int.reduceAdd, Int.reduceSub, Int.reduceMul, Int.reduceToNat, Int.reduceNeg, reduceIte, reduceCtorEq, reduceBEq]
    (repeat (first | refine ⟨by omega, ?_⟩ | refine ⟨by (unfold drawOk; kernel_rfl), ?_⟩ | refine ⟨by simp only [List.length_map, List.length_append, List.length_take, List.length_drop]; omega, ?_⟩))
    all_goals exact ⟨_, rfl, by simp [wkL, res2, res1, PV.weak, PV.el, pcs, strs]⟩
  · have hcore : core l p = core3 l n := by rw [core, if_neg (by omega), if_neg (by omega), if_neg (by omega), if_pos hm, if_neg hT, hn]
    have hlen : 0 < l.T.length := List.length_pos_iff.2 hT
    obtain ⟨k, hk⟩ : ∃ k, k = n % l.T.length := ⟨_, rfl⟩
    have hkl2 : k < l.T.length := by rw [hk]; exact Nat.mod_lt _ hlen
    have w4 : Int.tmod (n : Int) (l.T.length : Int) = (k : Int) := by rw [Int.tmod_eq_emod_of_nonneg (by omega), hk]; exact (Int.natCast_emod _ _).symm
    have w5 : IntKind.i64.wrap (k : Int) = (k : Int) := by rw [wrap_i64_id (by omega) (by omega)]
    have w6 : IntKind.i64.wrap ((k : Int) + 1) = ((k + 1 : Nat) : Int) := by rw [wrap_i64_id (by omega) (by omega)]; rfl
    obtain ⟨t, ht⟩ : ∃ t, t = pick l.T n := ⟨_, rfl⟩
    have htm : t ∈ l.T := by rw [ht]; exact pick_mem hT
    have htl3 := h.tl t htm
    have hg : (List.map PV.str l.T)[k]? = some (.str t) := by
      rw [ht, pick, ← hk, List.getElem?_map, List.getElem?_eq_getElem hkl2, List.getD_eq_getElem?_getD, List.getElem?_eq_getElem hkl2]; rfl
    have hgd : (List.map PV.str l.T).getD k PV.any = .str t := by rw [List.getD_eq_getElem?_getD, hg]; rfl
    have hz := c6 hm hT
    rw [← hn, ← ht] at hz
    have hgot := got_fs l.B t okB (by omega)
    rw [gotR, hz] at hgot
    rw [if_pos (show ((0 : Int) == 0) = true from rfl)] at hgot
    have hrB := read_fs (l.B.gotE t)
    simp only [En.pv, En.cs, pcs] at hgot hrB
    rw [hcore] at c2 c3
    rw [Ln.step, hcore]
    simp only [core3] at c2 c3
    simp only [core3, Ln.rd, Ln.pv, strs, pcs]
    rw [← ht] at c3 ⊢
    generalize l.B.gotE t = X at *
    have hlm : ((List.map PV.str l.T).length : Int) = (l.T.length : Int) := by rw [List.length_map]
    by_cases h2 : 0 < n % 3
    · obtain ⟨j, hj⟩ : ∃ j, j = n % 3 := ⟨_, rfl⟩
      have v4 : Int.tmod (n : Int) 3 = (j : Int) := by rw [Int.tmod_eq_emod_of_nonneg (by omega)]; omega
      have v5 : decide ((0 : Int) < (j : Int)) = true := by simp; omega
      have hl : left l.T n = l.T.take k ++ l.T.drop (k + 1) := by rw [left, if_pos h2, hk]
      rw [hl]
      (refine Fsp.of (nx := 0) mixed Try.func16 rfl (by decide) (by first | exact Nat.le_refl _ | simp) (by simp [Try.f16]) ⟨by decide, by decide⟩ ?_; simp -implicitDefEqProofs only [push_cast, Try.f16, Ln.pv, strs, pcs, w1, w1', w2, w3, w4, w5, w6, v4, v5, hlm, Int.reduceBEq, Int.reduceBNe, Int.reduceEq, Int.reduceNe, Int.reducePow, Nat.reduceAdd, Nat.reduceMul, Nat.reduceSub, Nat.reduceLT, Nat.reduceLeDiff, Nat.reduceEqDiff, Nat.reduceBEq, Int.reduceLT, Int.reduceLE, Int.reduceAdd, Int.reduceSub, Int.reduceMul, Int.reduceToNat, Int.reduceNeg, reduceIte, reduceCtorEq, reduceBEq])
      refine condC_split (fun h3 => ?_) (fun h3 => by simp at h3; exact absurd h3 hT)
      simp -implicitDefEqProofs only [push_cast, w4, w5, hlm, hg, hgd, Int.reduceBEq, Int.reduceBNe, Int.reduceEq, Int.reduceNe, Int.reducePow, Nat.reduceAdd, Nat.reduceMul, Nat.reduceSub, Nat.reduceLT, Nat.reduceLeDiff, Nat.reduceEqDiff, Nat.reduceBEq, Int.reduceLT, Int.reduceLE, Int.reduceAdd, Int.reduceSub, Int.reduceMul, Int.reduceToNat, Int.reduceNeg, reduceIte, reduceCtorEq, reduceBEq]
      (repeat (first | refine ⟨by omega, ?_⟩ | refine ⟨by (unfold drawOk; kernel_rfl), ?_⟩ | refine ⟨by simp only [List.length_map, List.length_append, List.length_take, List.length_drop]; omega, ?_⟩))
      refine callE_pure hgot (by rfl) (by rfl) (by rfl) (by decide) (by rfl) (fun _ => by rfl) (by first | rfl | simp [gdOk, newToks]) ?_
      simp -implicitDefEqProofs only [push_cast, v4, v5, w6, hlm, Int.reduceBEq, Int.reduceBNe, Int.reduceEq, Int.reduceNe, Int.reducePow, Nat.reduceAdd, Nat.reduceMul, Nat.reduceSub, Nat.reduceLT, Nat.reduceLeDiff, Nat.reduceEqDiff, Nat.reduceBEq, Int.reduceLT, Int.reduceLE, Int.reduceAdd, Int.reduceSub, Int.reduceMul, Int.reduceToNat, Int.reduceNeg, reduceIte, reduceCtorEq, reduceBEq]
      (repeat (first | refine ⟨by omega, ?_⟩ | refine ⟨by (unfold drawOk; kernel_rfl), ?_⟩ | refine ⟨by simp only [List.length_map, List.length_append, List.length_take, List.length_drop]; omega, ?_⟩))
      refine callE_bs ?_
      have t1 : List.take k (List.map PV.str l.T) = List.map PV.str (l.T.take k) := List.map_take.symm
      have t2 : List.take ((List.map PV.str l.T).length - (k + 1)) (List.drop (k + 1) (List.map PV.str l.T)) = List.map PV.str (l.T.drop (k + 1)) := by
        rw [← List.map_drop]
        apply List.take_of_length_le
        simp
      have t3 : List.take (l.T.length - (k + 1)) (List.drop (k + 1) (List.map PV.str l.T)) = List.map PV.str (l.T.drop (k + 1)) := by
        rw [← List.map_drop]
        apply List.take_of_length_le
        simp
      simp -implicitDefEqProofs only [push_cast, v4, v5, w6, hlm, t1, t2, t3, Int.reduceBEq, Int.reduceBNe, Int.reduceEq, Int.reduceNe, Int.reducePow, Nat.reduceAdd, Nat.reduceMul, Nat.reduceSub, Nat.reduceLT, Nat.reduceLeDiff, Nat.reduceEqDiff, Nat.reduceBEq, Int.reduceLT, Int.reduceLE, Int.reduceAdd, Int.reduceSub, Int.reduceMul, Int.reduceToNat, Int.reduceNeg, reduceIte, reduceCtorEq, reduceBEq]
      (repeat (first | refine ⟨by omega, ?_⟩ | refine ⟨by (unfold drawOk; kernel_rfl), ?_⟩ | refine ⟨by simp only [List.length_map, List.length_append, List.length_take, List.length_drop]; omega, ?_⟩))
      refine callE_pure hrB (by rfl) (by rfl) (by rfl) (by decide) (by rfl) (fun _ => by rfl) (by first | rfl | simp [gdOk, newToks]) ?_
      simp -implicitDefEqProofs only [push_cast, Int.reduceBEq, Int.reduceBNe, Int.reduceEq, Int.reduceNe, Int.reducePow, Nat.reduceAdd, Nat.reduceMul, Nat.reduceSub, Nat.reduceLT, Nat.reduceLeDiff, Nat.reduceEqDiff, Nat.reduceBEq, Int.reduceLT, Int.reduceLE, Int.reduceAdd, Int.reduceSub, Int.reduceMul, Int.reduceToNat, Int.reduceNeg, reduceIte, reduceCtorEq, reduceBEq]
      refine callE_pure hrA (by rfl) (by rfl) (by rfl) (by decide) (by rfl) (fun _ => by rfl) (by first | rfl | simp [gdOk, newToks]) ?_
      simp -implicitDefEqProofs only [push_cast, Int.reduceBEq, Int.reduceBNe, Int.reduceEq, Int.reduceNe, Int.reducePow, Nat.reduceAdd, Nat.reduceMul, Nat.reduceSub, Nat.reduceLT, Nat.reduceLeDiff, Nat.reduceEqDiff, Nat.reduceBEq, Int.reduceLT, Int.reduceLE, Int.reduceAdd, Int.reduceSub, Int.reduceMul, Int.reduceToNat, Int.reduceNeg, reduceIte, reduceCtorEq, reduceBEq]
      (repeat (first | refine ⟨by omega, ?_⟩ | refine ⟨by (unfold drawOk; kernel_rfl), ?_⟩ | refine ⟨by simp only [List.length_map, List.length_append, List.length_take, List.length_drop]; omega, ?_⟩))
      all_goals exact ⟨_, rfl, by simp [wkL, res2, res1, PV.weak, PV.el, pcs, strs, List.map_append]; exact List.take_of_length_le (by simp)⟩
    · have hj : n % 3 = 0 := by omega
      have v4 : Int.tmod (n : Int) 3 = 0 := by rw [Int.tmod_eq_emod_of_nonneg (by omega)]; omega
      have hl : left l.T n = l.T := by rw [left, if_neg h2]
      rw [hl]
      (refine Fsp.of (nx := 0) mixed Try.func16 rfl (by decide) (by first | exact Nat.le_refl _ | simp) (by simp [Try.f16]) ⟨by decide, by decide⟩ ?_; simp -implicitDefEqProofs only [push_cast, Try.f16, Ln.pv, strs, pcs, w1, w1', w2, w3, w4, w5, w6, v4, hlm, Int.reduceBEq, Int.reduceBNe, Int.reduceEq, Int.reduceNe, Int.reducePow, Nat.reduceAdd, Nat.reduceMul, Nat.reduceSub, Nat.reduceLT, Nat.reduceLeDiff, Nat.reduceEqDiff, Nat.reduceBEq, Int.reduceLT, Int.reduceLE, Int.reduceAdd, Int.reduceSub, Int.reduceMul, Int.reduceToNat, Int.reduceNeg, reduceIte, reduceCtorEq, reduceBEq])
      refine condC_split (fun h3 => ?_) (fun h3 => by simp at h3; exact absurd h3 hT)
      simp -implicitDefEqProofs only [push_cast, w4, w5, hlm, hg, hgd, Int.reduceBEq, Int.reduceBNe, Int.reduceEq, Int.reduceNe, Int.reducePow, Nat.reduceAdd, Nat.reduceMul, Nat.reduceSub, Nat.reduceLT, Nat.reduceLeDiff, Nat.reduceEqDiff, Nat.reduceBEq, Int.reduceLT, Int.reduceLE, Int.reduceAdd, Int.reduceSub, Int.reduceMul, Int.reduceToNat, Int.reduceNeg, reduceIte, reduceCtorEq, reduceBEq]
      (repeat (first | refine ⟨by omega, ?_⟩ | refine ⟨by (unfold drawOk; kernel_rfl), ?_⟩ | refine ⟨by simp only [List.length_map, List.length_append, List.length_take, List.length_drop]; omega, ?_⟩))
      refine callE_pure hgot (by rfl) (by rfl) (by rfl) (by decide) (by rfl) (fun _ => by rfl) (by first | rfl | simp [gdOk, newToks]) ?_
      simp -implicitDefEqProofs only [push_cast, v4, w6, hlm, Int.reduceBEq, Int.reduceBNe, Int.reduceEq, Int.reduceNe, Int.reducePow, Nat.reduceAdd, Nat.reduceMul, Nat.reduceSub, Nat.reduceLT, Nat.reduceLeDiff, Nat.reduceEqDiff, Nat.reduceBEq, Int.reduceLT, Int.reduceLE, Int.reduceAdd, Int.reduceSub, Int.reduceMul, Int.reduceToNat, Int.reduceNeg, reduceIte, reduceCtorEq, reduceBEq]
      (repeat (first | refine ⟨by omega, ?_⟩ | refine ⟨by (unfold drawOk; kernel_rfl), ?_⟩ | refine ⟨by simp only [List.length_map, List.length_append, List.length_take, List.length_drop]; omega, ?_⟩))
      refine callE_pure hrB (by rfl) (by rfl) (by rfl) (by decide) (by rfl) (fun _ => by rfl) (by first | rfl | simp [gdOk, newToks]) ?_
      simp -implicitDefEqProofs only [push_cast, Int.reduceBEq, Int.reduceBNe, Int.reduceEq, Int.reduceNe, Int.reducePow, Nat.reduceAdd, Nat.reduceMul, Nat.reduceSub, Nat.reduceLT, Nat.reduceLeDiff, Nat.reduceEqDiff, Nat.reduceBEq, Int.reduceLT, Int.reduceLE, Int.reduceAdd, Int.reduceSub, Int.reduceMul, Int.reduceToNat, Int.reduceNeg, reduceIte, reduceCtorEq, reduceBEq]
      refine callE_pure hrA (by rfl) (by rfl) (by rfl) (by decide) (by rfl) (fun _ => by rfl) (by first | rfl | simp [gdOk, newToks]) ?_
      simp -implicitDefEqProofs only [push_cast, Int.reduceBEq, Int.reduceBNe, Int.reduceEq, Int.reduceNe, Int.reducePow, Nat.reduceAdd, Nat.reduceMul, Nat.reduceSub, Nat.reduceLT, Nat.reduceLeDiff, Nat.reduceEqDiff, Nat.reduceBEq, Int.reduceLT, Int.reduceLE, Int.reduceAdd, Int.reduceSub, Int.reduceMul, Int.reduceToNat, Int.reduceNeg, reduceIte, reduceCtorEq, reduceBEq]
      (repeat (first | refine ⟨by omega, ?_⟩ | refine ⟨by (unfold drawOk; kernel_rfl), ?_⟩ | refine ⟨by simp only [List.length_map, List.length_append, List.length_take, List.length_drop]; omega, ?_⟩))
      all_goals exact ⟨_, rfl, by simp [wkL, res2, res1, PV.weak, PV.el, pcs, strs]⟩

end Go.Proofs.Lk

/- A line's step. -/
set_option maxRecDepth 100000
set_option linter.unusedSimpArgs false
set_option linter.unusedVariables false
namespace Go.Proofs.Lk
open Go.Pv

set_option maxHeartbeats 8000000 in
theorem step4_fs (l : Ln) {i : Nat} (p : Nat) (hp : p < 256) (hm : p % 8 = 4) (h : LnOk i l) (hi : i ≤ 300) (ha : l.A.read = []) (hb : l.B.read = []) : Fsp Try.prog 16 [] 0 [l.pv, .int .u8 (p : Int)] [] 0 (.tup [(l.step p).pv, .bool true]) := by
  obtain ⟨c1, c2, c3, c4, c5, c6, c7⟩ := core_ok h hi p ha hb
  have okA := h.a.ok hi
  have okB := h.b.ok hi
  have hs := h.s
  have hr := h.r
  have hc := h.c
  have hd := h.dd
  have htl := h.t
  have hkl := h.k
  have hwA := h.a.w
  have hwB := h.b.w
  obtain ⟨n, hn⟩ : ∃ n, n = p / 8 := ⟨_, rfl⟩
  have w1 : Int.tdiv (p : Int) 8 = (n : Int) := by rw [Int.tdiv_eq_ediv_of_nonneg (by omega)]; omega
  have w1' : IntKind.u8.wrap (n : Int) = (n : Int) := by
    simp only [IntKind.wrap, IntKind.signed, IntKind.bits, Bool.false_and]
    show (n : Int) % 256 = _
    omega
  have w2 : IntKind.i64.wrap (n : Int) = (n : Int) := by rw [wrap_i64_id (by omega) (by omega)]
  have hn32 : n < 32 := by omega
  have w3 : Int.tmod (p : Int) 8 = 4 := by rw [Int.tmod_eq_emod_of_nonneg (by omega)]; omega
  have hrB := read_fs l.B
  simp only [En.pv, En.cs, pcs] at hrB
  have rA : l.A.read.length ≤ 60000 := by rw [ha]; simp
  have rB : l.B.read.length ≤ 60000 := by rw [hb]; simp
  by_cases hT : l.K = []
  · have hcore : core l p = l := by rw [core, if_neg (by omega), if_neg (by omega), if_neg (by omega), if_neg (by omega), if_pos hm, if_pos hT]
    have hrA := read_fs l.A
    simp only [En.pv, En.cs, pcs] at hrA
    rw [Ln.step, hcore]
    simp only [Ln.rd, Ln.pv, strs, pcs]
    (refine Fsp.of (nx := 0) mixed Try.func16 rfl (by decide) (by first | exact Nat.le_refl _ | simp) (by simp [Try.f16]) ⟨by decide, by decide⟩ ?_; simp -implicitDefEqProofs only [push_cast, Try.f16, Ln.pv, strs, pcs, w1, w1', w2, w3, hT, List.map_nil, Int.reduceBEq, Int.reduceBNe, Int.reduceEq, Int.reduceNe, Int.reducePow, Nat.reduceAdd, Nat.reduceMul, Nat.reduceSub, Nat.reduceLT, Nat.reduceLeDiff, Nat.reduceEqDiff, Nat.reduceBEq, Int.reduceLT, Int.reduceLE, Int.reduceAdd, Int.reduceSub, Int.reduceMul, Int.reduceToNat, Int.reduceNeg, reduceIte, reduceCtorEq, reduceBEq])
    (repeat (first | refine ⟨by omega, ?_⟩ | refine ⟨by (unfold drawOk; kernel_rfl), ?_⟩ | refine ⟨by simp only [List.length_map, List.length_append, List.length_take, List.length_drop]; omega, ?_⟩))
    refine callE_pure hrB (by rfl) (by rfl) (by rfl) (by decide) (by rfl) (fun _ => by rfl) (by first | rfl | simp [gdOk, newToks]) ?_
    simp -implicitDefEqProofs only [push_cast, Int.reduceBEq, Int.reduceBNe, Int.reduceEq, Int.reduceNe, Int.reducePow, Nat.reduceAdd, Nat.reduceMul, Nat.reduceSub, Nat.reduceLT, Nat.reduceLeDiff, Nat.reduceEqDiff, Nat.reduceBEq, Int.reduceLT, Int.reduceLE, Int.reduceAdd, Int.reduceSub, Int.reduceMul, Int.reduceToNat, Int.reduceNeg, reduceIte, reduceCtorEq, reduceBEq]
    refine callE_pure hrA (by rfl) (by rfl) (by rfl) (by decide) (by rfl) (fun _ => by rfl) (by first | rfl | simp [gdOk, newToks]) ?_
    simp -implicitDefEqProofs only [push_cast, Int.reduceBEq, Int.reduceBNe, Int.reduceEq, Int.reduceNe, Int.reducePow, Nat.reduceAdd, Nat.reduceMul, Nat.reduceSub, Nat.reduceLT, Nat.reduceLeDiff, Nat.reduceEqDiff, Nat.reduceBEq, Int.reduceLT, Int.reduceLE, Int.reduceAdd, Int.reduceSub, Int.reduceMul, Int.reduceToNat, Int.reduceNeg, reduceIte, reduceCtorEq, reduceBEq]
    (repeat (first | refine ⟨by omega, ?_⟩ | refine ⟨by (unfold drawOk; kernel_rfl), ?_⟩ | refine ⟨by simp only [List.length_map, List.length_append, List.length_take, List.length_drop]; omega, ?_⟩))
    all_goals exact ⟨_, rfl, by simp [wkL, res2, res1, PV.weak, PV.el, pcs, strs]⟩
  · have hcore : core l p = core4 l n := by rw [core, if_neg (by omega), if_neg (by omega), if_neg (by omega), if_neg (by omega), if_pos hm, if_neg hT, hn]
    have hlen : 0 < l.K.length := List.length_pos_iff.2 hT
    obtain ⟨k, hk⟩ : ∃ k, k = n % l.K.length := ⟨_, rfl⟩
    have hkl2 : k < l.K.length := by rw [hk]; exact Nat.mod_lt _ hlen
    have w4 : Int.tmod (n : Int) (l.K.length : Int) = (k : Int) := by rw [Int.tmod_eq_emod_of_nonneg (by omega), hk]; exact (Int.natCast_emod _ _).symm
    have w5 : IntKind.i64.wrap (k : Int) = (k : Int) := by rw [wrap_i64_id (by omega) (by omega)]
    have w6 : IntKind.i64.wrap ((k : Int) + 1) = ((k + 1 : Nat) : Int) := by rw [wrap_i64_id (by omega) (by omega)]; rfl
    obtain ⟨t, ht⟩ : ∃ t, t = pick l.K n := ⟨_, rfl⟩
    have htm : t ∈ l.K := by rw [ht]; exact pick_mem hT
    have htl3 := h.kl t htm
    have hg : (List.map PV.str l.K)[k]? = some (.str t) := by
      rw [ht, pick, ← hk, List.getElem?_map, List.getElem?_eq_getElem hkl2, List.getD_eq_getElem?_getD, List.getElem?_eq_getElem hkl2]; rfl
    have hgd : (List.map PV.str l.K).getD k PV.any = .str t := by rw [List.getD_eq_getElem?_getD, hg]; rfl
    have hz := c7 hm hT
    rw [← hn, ← ht] at hz
    have hgot := got_fs l.A t okA (by omega)
    rw [gotR, hz] at hgot
    rw [if_pos (show ((0 : Int) == 0) = true from rfl)] at hgot
    have hrA := read_fs (l.A.gotE t)
    simp only [En.pv, En.cs, pcs] at hgot hrA
    rw [hcore] at c2 c3
    rw [Ln.step, hcore]
    simp only [core4] at c2 c3
    simp only [core4, Ln.rd, Ln.pv, strs, pcs]
    rw [← ht] at c2 ⊢
    generalize l.A.gotE t = X at *
    have hlm : ((List.map PV.str l.K).length : Int) = (l.K.length : Int) := by rw [List.length_map]
    by_cases h2 : 0 < n % 3
    · obtain ⟨j, hj⟩ : ∃ j, j = n % 3 := ⟨_, rfl⟩
      have v4 : Int.tmod (n : Int) 3 = (j : Int) := by rw [Int.tmod_eq_emod_of_nonneg (by omega)]; omega
      have v5 : decide ((0 : Int) < (j : Int)) = true := by simp; omega
      have hl : left l.K n = l.K.take k ++ l.K.drop (k + 1) := by rw [left, if_pos h2, hk]
      rw [hl]
      (refine Fsp.of (nx := 0) mixed Try.func16 rfl (by decide) (by first | exact Nat.le_refl _ | simp) (by simp [Try.f16]) ⟨by decide, by decide⟩ ?_; simp -implicitDefEqProofs only [push_cast, Try.f16, Ln.pv, strs, pcs, w1, w1', w2, w3, w4, w5, w6, v4, v5, hlm, Int.reduceBEq, Int.reduceBNe, Int.reduceEq, Int.reduceNe, Int.reducePow, Nat.reduceAdd, Nat.reduceMul, Nat.reduceSub, Nat.reduceLT, Nat.reduceLeDiff, Nat.reduceEqDiff, Nat.reduceBEq, Int.reduceLT, Int.reduceLE, Int.reduceAdd, Int.reduceSub, Int.reduceMul, Int.reduceToNat, Int.reduceNeg, reduceIte, reduceCtorEq, reduceBEq])
      refine condC_split (fun h3 => ?_) (fun h3 => by simp at h3; exact absurd h3 hT)
      simp -implicitDefEqProofs only [push_cast, w4, w5, hlm, hg, hgd, Int.reduceBEq, Int.reduceBNe, Int.reduceEq, Int.reduceNe, Int.reducePow, Nat.reduceAdd, Nat.reduceMul, Nat.reduceSub, Nat.reduceLT, Nat.reduceLeDiff, Nat.reduceEqDiff, Nat.reduceBEq, Int.reduceLT, Int.reduceLE, Int.reduceAdd, Int.reduceSub, Int.reduceMul, Int.reduceToNat, Int.reduceNeg, reduceIte, reduceCtorEq, reduceBEq]
      (repeat (first | refine ⟨by omega, ?_⟩ | refine ⟨by (unfold drawOk; kernel_rfl), ?_⟩ | refine ⟨by simp only [List.length_map, List.length_append, List.length_take, List.length_drop]; omega, ?_⟩))
      refine callE_pure hgot (by rfl) (by rfl) (by rfl) (by decide) (by rfl) (fun _ => by rfl) (by first | rfl | simp [gdOk, newToks]) ?_
      simp -implicitDefEqProofs only [push_cast, v4, v5, w6, hlm, Int.reduceBEq, Int.reduceBNe, Int.reduceEq, Int.reduceNe, Int.reducePow, Nat.reduceAdd, Nat.reduceMul, Nat.reduceSub, Nat.reduceLT, Nat.reduceLeDiff, Nat.reduceEqDiff, Nat.reduceBEq, Int.reduceLT, Int.reduceLE, Int.reduceAdd, Int.reduceSub, Int.reduceMul, Int.reduceToNat, Int.reduceNeg, reduceIte, reduceCtorEq, reduceBEq]
      (repeat (first | refine ⟨by omega, ?_⟩ | refine ⟨by (unfold drawOk; kernel_rfl), ?_⟩ | refine ⟨by simp only [List.length_map, List.length_append, List.length_take, List.length_drop]; omega, ?_⟩))
      refine callE_bs ?_
      have t1 : List.take k (List.map PV.str l.K) = List.map PV.str (l.K.take k) := List.map_take.symm
      have t2 : List.take ((List.map PV.str l.K).length - (k + 1)) (List.drop (k + 1) (List.map PV.str l.K)) = List.map PV.str (l.K.drop (k + 1)) := by
        rw [← List.map_drop]
        apply List.take_of_length_le
        simp
      have t3 : List.take (l.K.length - (k + 1)) (List.drop (k + 1) (List.map PV.str l.K)) = List.map PV.str (l.K.drop (k + 1)) := by
        rw [← List.map_drop]
        apply List.take_of_length_le
        simp
      simp -implicitDefEqProofs only [push_cast, v4, v5, w6, hlm, t1, t2, t3, Int.reduceBEq, Int.reduceBNe, Int.reduceEq, Int.reduceNe, Int.reducePow, Nat.reduceAdd, Nat.reduceMul, Nat.reduceSub, Nat.reduceLT, Nat.reduceLeDiff, Nat.reduceEqDiff, Nat.reduceBEq, Int.reduceLT, Int.reduceLE, Int.reduceAdd, Int.reduceSub, Int.reduceMul, Int.reduceToNat, Int.reduceNeg, reduceIte, reduceCtorEq, reduceBEq]
      (repeat (first | refine ⟨by omega, ?_⟩ | refine ⟨by (unfold drawOk; kernel_rfl), ?_⟩ | refine ⟨by simp only [List.length_map, List.length_append, List.length_take, List.length_drop]; omega, ?_⟩))
      refine callE_pure hrB (by rfl) (by rfl) (by rfl) (by decide) (by rfl) (fun _ => by rfl) (by first | rfl | simp [gdOk, newToks]) ?_
      simp -implicitDefEqProofs only [push_cast, Int.reduceBEq, Int.reduceBNe, Int.reduceEq, Int.reduceNe, Int.reducePow, Nat.reduceAdd, Nat.reduceMul, Nat.reduceSub, Nat.reduceLT, Nat.reduceLeDiff, Nat.reduceEqDiff, Nat.reduceBEq, Int.reduceLT, Int.reduceLE, Int.reduceAdd, Int.reduceSub, Int.reduceMul, Int.reduceToNat, Int.reduceNeg, reduceIte, reduceCtorEq, reduceBEq]
      refine callE_pure hrA (by rfl) (by rfl) (by rfl) (by decide) (by rfl) (fun _ => by rfl) (by first | rfl | simp [gdOk, newToks]) ?_
      simp -implicitDefEqProofs only [push_cast, Int.reduceBEq, Int.reduceBNe, Int.reduceEq, Int.reduceNe, Int.reducePow, Nat.reduceAdd, Nat.reduceMul, Nat.reduceSub, Nat.reduceLT, Nat.reduceLeDiff, Nat.reduceEqDiff, Nat.reduceBEq, Int.reduceLT, Int.reduceLE, Int.reduceAdd, Int.reduceSub, Int.reduceMul, Int.reduceToNat, Int.reduceNeg, reduceIte, reduceCtorEq, reduceBEq]
      (repeat (first | refine ⟨by omega, ?_⟩ | refine ⟨by (unfold drawOk; kernel_rfl), ?_⟩ | refine ⟨by simp only [List.length_map, List.length_append, List.length_take, List.length_drop]; omega, ?_⟩))
      all_goals exact ⟨_, rfl, by simp [wkL, res2, res1, PV.weak, PV.el, pcs, strs, List.map_append]; exact List.take_of_length_le (by simp)⟩
    · have hj : n % 3 = 0 := by omega
      have v4 : Int.tmod (n : Int) 3 = 0 := by rw [Int.tmod_eq_emod_of_nonneg (by omega)]; omega
      have hl : left l.K n = l.K := by rw [left, if_neg h2]
      rw [hl]
      (refine Fsp.of (nx := 0) mixed Try.func16 rfl (by decide) (by first | exact Nat.le_refl _ | simp) (by simp [Try.f16]) ⟨by decide, by decide⟩ ?_; simp -implicitDefEqProofs only [push_cast, Try.f16, Ln.pv, strs, pcs, w1, w1', w2, w3, w4, w5, w6, v4, hlm, Int.reduceBEq, Int.reduceBNe, Int.reduceEq, Int.reduceNe, Int.reducePow, Nat.reduceAdd, Nat.reduceMul, Nat.reduceSub, Nat.reduceLT, Nat.reduceLeDiff, Nat.reduceEqDiff, Nat.reduceBEq, Int.reduceLT, Int.reduceLE, Int.reduceAdd, Int.reduceSub, Int.reduceMul, Int.reduceToNat, Int.reduceNeg, reduceIte, reduceCtorEq, reduceBEq])
      refine condC_split (fun h3 => ?_) (fun h3 => by simp at h3; exact absurd h3 hT)
      simp -implicitDefEqProofs only [push_cast, w4, w5, hlm, hg, hgd, Int.reduceBEq, Int.reduceBNe, Int.reduceEq, Int.reduceNe, Int.reducePow, Nat.reduceAdd, Nat.reduceMul, Nat.reduceSub, Nat.reduceLT, Nat.reduceLeDiff, Nat.reduceEqDiff, Nat.reduceBEq, Int.reduceLT, Int.reduceLE, Int.reduceAdd, Int.reduceSub, Int.reduceMul, Int.reduceToNat, Int.reduceNeg, reduceIte, reduceCtorEq, reduceBEq]
      (repeat (first | refine ⟨by omega, ?_⟩ | refine ⟨by (unfold drawOk; kernel_rfl), ?_⟩ | refine ⟨by simp only [List.length_map, List.length_append, List.length_take, List.length_drop]; omega, ?_⟩))
      refine callE_pure hgot (by rfl) (by rfl) (by rfl) (by decide) (by rfl) (fun _ => by rfl) (by first | rfl | simp [gdOk, newToks]) ?_
      simp -implicitDefEqProofs only [push_cast, v4, w6, hlm, Int.reduceBEq, Int.reduceBNe, Int.reduceEq, Int.reduceNe, Int.reducePow, Nat.reduceAdd, Nat.reduceMul, Nat.reduceSub, Nat.reduceLT, Nat.reduceLeDiff, Nat.reduceEqDiff, Nat.reduceBEq, Int.reduceLT, Int.reduceLE, Int.reduceAdd, Int.reduceSub, Int.reduceMul, Int.reduceToNat, Int.reduceNeg, reduceIte, reduceCtorEq, reduceBEq]
      (repeat (first | refine ⟨by omega, ?_⟩ | refine ⟨by (unfold drawOk; kernel_rfl), ?_⟩ | refine ⟨by simp only [List.length_map, List.length_append, List.length_take, List.length_drop]; omega, ?_⟩))
      refine callE_pure hrB (by rfl) (by rfl) (by rfl) (by decide) (by rfl) (fun _ => by rfl) (by first | rfl | simp [gdOk, newToks]) ?_
      simp -implicitDefEqProofs only [push_cast, Int.reduceBEq, Int.reduceBNe, Int.reduceEq, Int.reduceNe, Int.reducePow, Nat.reduceAdd, Nat.reduceMul, Nat.reduceSub, Nat.reduceLT, Nat.reduceLeDiff, Nat.reduceEqDiff, Nat.reduceBEq, Int.reduceLT, Int.reduceLE, Int.reduceAdd, Int.reduceSub, Int.reduceMul, Int.reduceToNat, Int.reduceNeg, reduceIte, reduceCtorEq, reduceBEq]
      refine callE_pure hrA (by rfl) (by rfl) (by rfl) (by decide) (by rfl) (fun _ => by rfl) (by first | rfl | simp [gdOk, newToks]) ?_
      simp -implicitDefEqProofs only [push_cast, Int.reduceBEq, Int.reduceBNe, Int.reduceEq, Int.reduceNe, Int.reducePow, Nat.reduceAdd, Nat.reduceMul, Nat.reduceSub, Nat.reduceLT, Nat.reduceLeDiff, Nat.reduceEqDiff, Nat.reduceBEq, Int.reduceLT, Int.reduceLE, Int.reduceAdd, Int.reduceSub, Int.reduceMul, Int.reduceToNat, Int.reduceNeg, reduceIte, reduceCtorEq, reduceBEq]
      (repeat (first | refine ⟨by omega, ?_⟩ | refine ⟨by (unfold drawOk; kernel_rfl), ?_⟩ | refine ⟨by simp only [List.length_map, List.length_append, List.length_take, List.length_drop]; omega, ?_⟩))
      all_goals exact ⟨_, rfl, by simp [wkL, res2, res1, PV.weak, PV.el, pcs, strs]⟩

end Go.Proofs.Lk

/- A line's step. -/
set_option maxRecDepth 100000
set_option linter.unusedSimpArgs false
set_option linter.unusedVariables false
namespace Go.Proofs.Lk
open Go.Pv

set_option maxHeartbeats 8000000 in
theorem step5_fs (l : Ln) {i : Nat} (p : Nat) (hp : p < 256) (hm : p % 8 = 5) (h : LnOk i l) (hi : i ≤ 300) (ha : l.A.read = []) (hb : l.B.read = []) : Fsp Try.prog 16 [] 0 [l.pv, .int .u8 (p : Int)] [] 0 (.tup [(l.step p).pv, .bool true]) := by
  obtain ⟨c1, c2, c3, c4, c5, c6, c7⟩ := core_ok h hi p ha hb
  have okA := h.a.ok hi
  have okB := h.b.ok hi
  have hs := h.s
  have hr := h.r
  have hc := h.c
  have hd := h.dd
  have htl := h.t
  have hkl := h.k
  have hwA := h.a.w
  have hwB := h.b.w
  obtain ⟨n, hn⟩ : ∃ n, n = p / 8 := ⟨_, rfl⟩
  have w1 : Int.tdiv (p : Int) 8 = (n : Int) := by rw [Int.tdiv_eq_ediv_of_nonneg (by omega)]; omega
  have w1' : IntKind.u8.wrap (n : Int) = (n : Int) := by
    simp only [IntKind.wrap, IntKind.signed, IntKind.bits, Bool.false_and]
    show (n : Int) % 256 = _
    omega
  have w2 : IntKind.i64.wrap (n : Int) = (n : Int) := by rw [wrap_i64_id (by omega) (by omega)]
  have hn32 : n < 32 := by omega
  have w3 : Int.tmod (p : Int) 8 = 5 := by rw [Int.tmod_eq_emod_of_nonneg (by omega)]; omega
  have hrA := read_fs l.A
  have hrB := read_fs l.B
  simp only [En.pv, En.cs, pcs] at hrA hrB
  have hcore : core l p = core5 l n := by rw [core, if_neg (by omega), if_neg (by omega), if_neg (by omega), if_neg (by omega), if_neg (by omega), if_pos hm, hn]
  rw [hcore] at c2 c3
  rw [Ln.step, hcore]
  unfold core5 at c2 c3 ⊢
  have rA : l.A.read.length ≤ 60000 := by rw [ha]; simp
  have rB : l.B.read.length ≤ 60000 := by rw [hb]; simp
  by_cases h2 : n % 2 = 0
  · have w4 : Int.tmod (n : Int) 2 = 0 := by rw [Int.tmod_eq_emod_of_nonneg (by omega)]; omega
    rw [if_pos h2]
    simp only [Ln.rd, Ln.pv, strs, pcs]
    cases hT : l.T with
    | nil =>
      (refine Fsp.of (nx := 0) mixed Try.func16 rfl (by decide) (by first | exact Nat.le_refl _ | simp) (by simp [Try.f16]) ⟨by decide, by decide⟩ ?_; simp -implicitDefEqProofs only [push_cast, Try.f16, Ln.pv, strs, pcs, w1, w1', w2, w3, w4, hT, Int.reduceBEq, Int.reduceBNe, Int.reduceEq, Int.reduceNe, Int.reducePow, Nat.reduceAdd, Nat.reduceMul, Nat.reduceSub, Nat.reduceLT, Nat.reduceLeDiff, Nat.reduceEqDiff, Nat.reduceBEq, Int.reduceLT, Int.reduceLE, Int.reduceAdd, Int.reduceSub, Int.reduceMul, Int.reduceToNat, Int.reduceNeg, reduceIte, reduceCtorEq, reduceBEq])
      (repeat (first | refine ⟨by omega, ?_⟩ | refine ⟨by (unfold drawOk; kernel_rfl), ?_⟩ | refine ⟨by simp only [List.length_map, List.length_append, List.length_take, List.length_drop]; omega, ?_⟩))
      refine callE_pure hrB (by rfl) (by rfl) (by rfl) (by decide) (by rfl) (fun _ => by rfl) (by first | rfl | simp [gdOk, newToks]) ?_
      simp -implicitDefEqProofs only [push_cast, Int.reduceBEq, Int.reduceBNe, Int.reduceEq, Int.reduceNe, Int.reducePow, Nat.reduceAdd, Nat.reduceMul, Nat.reduceSub, Nat.reduceLT, Nat.reduceLeDiff, Nat.reduceEqDiff, Nat.reduceBEq, Int.reduceLT, Int.reduceLE, Int.reduceAdd, Int.reduceSub, Int.reduceMul, Int.reduceToNat, Int.reduceNeg, reduceIte, reduceCtorEq, reduceBEq]
      refine callE_pure hrA (by rfl) (by rfl) (by rfl) (by decide) (by rfl) (fun _ => by rfl) (by first | rfl | simp [gdOk, newToks]) ?_
      simp -implicitDefEqProofs only [push_cast, Int.reduceBEq, Int.reduceBNe, Int.reduceEq, Int.reduceNe, Int.reducePow, Nat.reduceAdd, Nat.reduceMul, Nat.reduceSub, Nat.reduceLT, Nat.reduceLeDiff, Nat.reduceEqDiff, Nat.reduceBEq, Int.reduceLT, Int.reduceLE, Int.reduceAdd, Int.reduceSub, Int.reduceMul, Int.reduceToNat, Int.reduceNeg, reduceIte, reduceCtorEq, reduceBEq]
      (repeat (first | refine ⟨by omega, ?_⟩ | refine ⟨by (unfold drawOk; kernel_rfl), ?_⟩ | refine ⟨by simp only [List.length_map, List.length_append, List.length_take, List.length_drop]; omega, ?_⟩))
      all_goals exact ⟨_, rfl, by simp [wkL, res2, res1, PV.weak, PV.el, pcs, strs]⟩
    | cons t T =>
      have hdr : List.take (List.map PV.str T).length (List.map PV.str T) = List.map PV.str T := List.take_length
      have tkm : List.take T.length (List.map PV.str T) = List.map PV.str T := List.take_of_length_le (by simp)
      (refine Fsp.of (nx := 0) mixed Try.func16 rfl (by decide) (by first | exact Nat.le_refl _ | simp) (by simp [Try.f16]) ⟨by decide, by decide⟩ ?_; simp -implicitDefEqProofs only [push_cast, Try.f16, Ln.pv, strs, pcs, w1, w1', w2, w3, w4, hT, Int.reduceBEq, Int.reduceBNe, Int.reduceEq, Int.reduceNe, Int.reducePow, Nat.reduceAdd, Nat.reduceMul, Nat.reduceSub, Nat.reduceLT, Nat.reduceLeDiff, Nat.reduceEqDiff, Nat.reduceBEq, Int.reduceLT, Int.reduceLE, Int.reduceAdd, Int.reduceSub, Int.reduceMul, Int.reduceToNat, Int.reduceNeg, reduceIte, reduceCtorEq, reduceBEq])
      refine condC_split (fun h3 => ?_) (fun h3 => by simp at h3; try omega)
      simp -implicitDefEqProofs only [push_cast, hdr, w4, Int.reduceBEq, Int.reduceBNe, Int.reduceEq, Int.reduceNe, Int.reducePow, Nat.reduceAdd, Nat.reduceMul, Nat.reduceSub, Nat.reduceLT, Nat.reduceLeDiff, Nat.reduceEqDiff, Nat.reduceBEq, Int.reduceLT, Int.reduceLE, Int.reduceAdd, Int.reduceSub, Int.reduceMul, Int.reduceToNat, Int.reduceNeg, reduceIte, reduceCtorEq, reduceBEq]
      (repeat (first | refine ⟨by omega, ?_⟩ | refine ⟨by (unfold drawOk; kernel_rfl), ?_⟩ | refine ⟨by simp only [List.length_map, List.length_append, List.length_take, List.length_drop]; omega, ?_⟩))
      refine callE_pure hrB (by rfl) (by rfl) (by rfl) (by decide) (by rfl) (fun _ => by rfl) (by first | rfl | simp [gdOk, newToks]) ?_
      simp -implicitDefEqProofs only [push_cast, Int.reduceBEq, Int.reduceBNe, Int.reduceEq, Int.reduceNe, Int.reducePow, Nat.reduceAdd, Nat.reduceMul, Nat.reduceSub, Nat.reduceLT, Nat.reduceLeDiff, Nat.reduceEqDiff, Nat.reduceBEq, Int.reduceLT, Int.reduceLE, Int.reduceAdd, Int.reduceSub, Int.reduceMul, Int.reduceToNat, Int.reduceNeg, reduceIte, reduceCtorEq, reduceBEq]
      refine callE_pure hrA (by rfl) (by rfl) (by rfl) (by decide) (by rfl) (fun _ => by rfl) (by first | rfl | simp [gdOk, newToks]) ?_
      simp -implicitDefEqProofs only [push_cast, Int.reduceBEq, Int.reduceBNe, Int.reduceEq, Int.reduceNe, Int.reducePow, Nat.reduceAdd, Nat.reduceMul, Nat.reduceSub, Nat.reduceLT, Nat.reduceLeDiff, Nat.reduceEqDiff, Nat.reduceBEq, Int.reduceLT, Int.reduceLE, Int.reduceAdd, Int.reduceSub, Int.reduceMul, Int.reduceToNat, Int.reduceNeg, reduceIte, reduceCtorEq, reduceBEq]
      (repeat (first | refine ⟨by omega, ?_⟩ | refine ⟨by (unfold drawOk; kernel_rfl), ?_⟩ | refine ⟨by simp only [List.length_map, List.length_append, List.length_take, List.length_drop]; omega, ?_⟩))
      all_goals exact ⟨_, rfl, by simp [wkL, res2, res1, PV.weak, PV.el, pcs, strs, tkm]⟩
  · have w4 : Int.tmod (n : Int) 2 = 1 := by rw [Int.tmod_eq_emod_of_nonneg (by omega)]; omega
    rw [if_neg h2]
    simp only [Ln.rd, Ln.pv, strs, pcs]
    cases hT : l.K with
    | nil =>
      (refine Fsp.of (nx := 0) mixed Try.func16 rfl (by decide) (by first | exact Nat.le_refl _ | simp) (by simp [Try.f16]) ⟨by decide, by decide⟩ ?_; simp -implicitDefEqProofs only [push_cast, Try.f16, Ln.pv, strs, pcs, w1, w1', w2, w3, w4, hT, Int.reduceBEq, Int.reduceBNe, Int.reduceEq, Int.reduceNe, Int.reducePow, Nat.reduceAdd, Nat.reduceMul, Nat.reduceSub, Nat.reduceLT, Nat.reduceLeDiff, Nat.reduceEqDiff, Nat.reduceBEq, Int.reduceLT, Int.reduceLE, Int.reduceAdd, Int.reduceSub, Int.reduceMul, Int.reduceToNat, Int.reduceNeg, reduceIte, reduceCtorEq, reduceBEq])
      (repeat (first | refine ⟨by omega, ?_⟩ | refine ⟨by (unfold drawOk; kernel_rfl), ?_⟩ | refine ⟨by simp only [List.length_map, List.length_append, List.length_take, List.length_drop]; omega, ?_⟩))
      refine callE_pure hrB (by rfl) (by rfl) (by rfl) (by decide) (by rfl) (fun _ => by rfl) (by first | rfl | simp [gdOk, newToks]) ?_
      simp -implicitDefEqProofs only [push_cast, Int.reduceBEq, Int.reduceBNe, Int.reduceEq, Int.reduceNe, Int.reducePow, Nat.reduceAdd, Nat.reduceMul, Nat.reduceSub, Nat.reduceLT, Nat.reduceLeDiff, Nat.reduceEqDiff, Nat.reduceBEq, Int.reduceLT, Int.reduceLE, Int.reduceAdd, Int.reduceSub, Int.reduceMul, Int.reduceToNat, Int.reduceNeg, reduceIte, reduceCtorEq, reduceBEq]
      refine callE_pure hrA (by rfl) (by rfl) (by rfl) (by decide) (by rfl) (fun _ => by rfl) (by first | rfl | simp [gdOk, newToks]) ?_
      simp -implicitDefEqProofs only [push_cast, Int.reduceBEq, Int.reduceBNe, Int.reduceEq, Int.reduceNe, Int.reducePow, Nat.reduceAdd, Nat.reduceMul, Nat.reduceSub, Nat.reduceLT, Nat.reduceLeDiff, Nat.reduceEqDiff, Nat.reduceBEq, Int.reduceLT, Int.reduceLE, Int.reduceAdd, Int.reduceSub, Int.reduceMul, Int.reduceToNat, Int.reduceNeg, reduceIte, reduceCtorEq, reduceBEq]
      (repeat (first | refine ⟨by omega, ?_⟩ | refine ⟨by (unfold drawOk; kernel_rfl), ?_⟩ | refine ⟨by simp only [List.length_map, List.length_append, List.length_take, List.length_drop]; omega, ?_⟩))
      all_goals exact ⟨_, rfl, by simp [wkL, res2, res1, PV.weak, PV.el, pcs, strs]⟩
    | cons t T =>
      have hdr : List.take (List.map PV.str T).length (List.map PV.str T) = List.map PV.str T := List.take_length
      have tkm : List.take T.length (List.map PV.str T) = List.map PV.str T := List.take_of_length_le (by simp)
      (refine Fsp.of (nx := 0) mixed Try.func16 rfl (by decide) (by first | exact Nat.le_refl _ | simp) (by simp [Try.f16]) ⟨by decide, by decide⟩ ?_; simp -implicitDefEqProofs only [push_cast, Try.f16, Ln.pv, strs, pcs, w1, w1', w2, w3, w4, hT, Int.reduceBEq, Int.reduceBNe, Int.reduceEq, Int.reduceNe, Int.reducePow, Nat.reduceAdd, Nat.reduceMul, Nat.reduceSub, Nat.reduceLT, Nat.reduceLeDiff, Nat.reduceEqDiff, Nat.reduceBEq, Int.reduceLT, Int.reduceLE, Int.reduceAdd, Int.reduceSub, Int.reduceMul, Int.reduceToNat, Int.reduceNeg, reduceIte, reduceCtorEq, reduceBEq])
      refine condC_split (fun h3 => ?_) (fun h3 => by simp at h3; try omega)
      simp -implicitDefEqProofs only [push_cast, hdr, w4, Int.reduceBEq, Int.reduceBNe, Int.reduceEq, Int.reduceNe, Int.reducePow, Nat.reduceAdd, Nat.reduceMul, Nat.reduceSub, Nat.reduceLT, Nat.reduceLeDiff, Nat.reduceEqDiff, Nat.reduceBEq, Int.reduceLT, Int.reduceLE, Int.reduceAdd, Int.reduceSub, Int.reduceMul, Int.reduceToNat, Int.reduceNeg, reduceIte, reduceCtorEq, reduceBEq]
      (repeat (first | refine ⟨by omega, ?_⟩ | refine ⟨by (unfold drawOk; kernel_rfl), ?_⟩ | refine ⟨by simp only [List.length_map, List.length_append, List.length_take, List.length_drop]; omega, ?_⟩))
      refine callE_pure hrB (by rfl) (by rfl) (by rfl) (by decide) (by rfl) (fun _ => by rfl) (by first | rfl | simp [gdOk, newToks]) ?_
      simp -implicitDefEqProofs only [push_cast, Int.reduceBEq, Int.reduceBNe, Int.reduceEq, Int.reduceNe, Int.reducePow, Nat.reduceAdd, Nat.reduceMul, Nat.reduceSub, Nat.reduceLT, Nat.reduceLeDiff, Nat.reduceEqDiff, Nat.reduceBEq, Int.reduceLT, Int.reduceLE, Int.reduceAdd, Int.reduceSub, Int.reduceMul, Int.reduceToNat, Int.reduceNeg, reduceIte, reduceCtorEq, reduceBEq]
      refine callE_pure hrA (by rfl) (by rfl) (by rfl) (by decide) (by rfl) (fun _ => by rfl) (by first | rfl | simp [gdOk, newToks]) ?_
      simp -implicitDefEqProofs only [push_cast, Int.reduceBEq, Int.reduceBNe, Int.reduceEq, Int.reduceNe, Int.reducePow, Nat.reduceAdd, Nat.reduceMul, Nat.reduceSub, Nat.reduceLT, Nat.reduceLeDiff, Nat.reduceEqDiff, Nat.reduceBEq, Int.reduceLT, Int.reduceLE, Int.reduceAdd, Int.reduceSub, Int.reduceMul, Int.reduceToNat, Int.reduceNeg, reduceIte, reduceCtorEq, reduceBEq]
      (repeat (first | refine ⟨by omega, ?_⟩ | refine ⟨by (unfold drawOk; kernel_rfl), ?_⟩ | refine ⟨by simp only [List.length_map, List.length_append, List.length_take, List.length_drop]; omega, ?_⟩))
      all_goals exact ⟨_, rfl, by simp [wkL, res2, res1, PV.weak, PV.el, pcs, strs, tkm]⟩

end Go.Proofs.Lk

/- A line's step. -/
set_option maxRecDepth 100000
set_option linter.unusedSimpArgs false
set_option linter.unusedVariables false
namespace Go.Proofs.Lk
open Go.Pv

set_option maxHeartbeats 8000000 in
theorem step6_fs (l : Ln) {i : Nat} (p : Nat) (hp : p < 256) (hm : p % 8 = 6) (h : LnOk i l) (hi : i ≤ 300) (ha : l.A.read = []) (hb : l.B.read = []) : Fsp Try.prog 16 [] 0 [l.pv, .int .u8 (p : Int)] [] 0 (.tup [(l.step p).pv, .bool true]) := by
  obtain ⟨c1, c2, c3, c4, c5, c6, c7⟩ := core_ok h hi p ha hb
  have okA := h.a.ok hi
  have okB := h.b.ok hi
  have hs := h.s
  have hr := h.r
  have hc := h.c
  have hd := h.dd
  have htl := h.t
  have hkl := h.k
  have hwA := h.a.w
  have hwB := h.b.w
  obtain ⟨n, hn⟩ : ∃ n, n = p / 8 := ⟨_, rfl⟩
  have w1 : Int.tdiv (p : Int) 8 = (n : Int) := by rw [Int.tdiv_eq_ediv_of_nonneg (by omega)]; omega
  have w1' : IntKind.u8.wrap (n : Int) = (n : Int) := by
    simp only [IntKind.wrap, IntKind.signed, IntKind.bits, Bool.false_and]
    show (n : Int) % 256 = _
    omega
  have w2 : IntKind.i64.wrap (n : Int) = (n : Int) := by rw [wrap_i64_id (by omega) (by omega)]
  have hn32 : n < 32 := by omega
  have w3 : Int.tmod (p : Int) 8 = 6 := by rw [Int.tmod_eq_emod_of_nonneg (by omega)]; omega
  have hcore : core l p = core6 l n := by rw [core, if_neg (by omega), if_neg (by omega), if_neg (by omega), if_neg (by omega), if_neg (by omega), if_neg (by omega), if_pos hm, hn]
  rw [hcore] at c2 c3
  rw [Ln.step, hcore]
  unfold core6 at c2 c3 ⊢
  by_cases h2 : n % 4 = 0
  · have w4 : Int.tmod (n : Int) 4 = 0 := by rw [Int.tmod_eq_emod_of_nonneg (by omega)]; omega
    rw [if_pos h2] at c2 c3 ⊢
    have hcA := cut_fs l.A (by omega)
    have hcB := cut_fs l.B (by omega)
    have hrA := read_fs l.A.cut
    have hrB := read_fs l.B.cut
    simp only [En.pv, En.cs, pcs] at hcA hcB hrA hrB
    simp only [Ln.rd, Ln.pv, strs, pcs] at c2 c3 ⊢
    generalize l.A.cut = X at *
    generalize l.B.cut = Y at *
    (refine Fsp.of (nx := 0) mixed Try.func16 rfl (by decide) (by first | exact Nat.le_refl _ | simp) (by simp [Try.f16]) ⟨by decide, by decide⟩ ?_; simp -implicitDefEqProofs only [push_cast, Try.f16, Ln.pv, strs, pcs, w1, w1', w2, w3, w4, Int.reduceBEq, Int.reduceBNe, Int.reduceEq, Int.reduceNe, Int.reducePow, Nat.reduceAdd, Nat.reduceMul, Nat.reduceSub, Nat.reduceLT, Nat.reduceLeDiff, Nat.reduceEqDiff, Nat.reduceBEq, Int.reduceLT, Int.reduceLE, Int.reduceAdd, Int.reduceSub, Int.reduceMul, Int.reduceToNat, Int.reduceNeg, reduceIte, reduceCtorEq, reduceBEq])
    refine callE_pure hcA (by rfl) (by rfl) (by rfl) (by decide) (by rfl) (fun _ => by rfl) (by first | rfl | simp [gdOk, newToks]) ?_
    simp -implicitDefEqProofs only [push_cast, Int.reduceBEq, Int.reduceBNe, Int.reduceEq, Int.reduceNe, Int.reducePow, Nat.reduceAdd, Nat.reduceMul, Nat.reduceSub, Nat.reduceLT, Nat.reduceLeDiff, Nat.reduceEqDiff, Nat.reduceBEq, Int.reduceLT, Int.reduceLE, Int.reduceAdd, Int.reduceSub, Int.reduceMul, Int.reduceToNat, Int.reduceNeg, reduceIte, reduceCtorEq, reduceBEq]
    (repeat (first | refine ⟨by omega, ?_⟩ | refine ⟨by (unfold drawOk; kernel_rfl), ?_⟩ | refine ⟨by simp only [List.length_map, List.length_append, List.length_take, List.length_drop]; omega, ?_⟩))
    refine callE_pure hcB (by rfl) (by rfl) (by rfl) (by decide) (by rfl) (fun _ => by rfl) (by first | rfl | simp [gdOk, newToks]) ?_
    simp -implicitDefEqProofs only [push_cast, Int.reduceBEq, Int.reduceBNe, Int.reduceEq, Int.reduceNe, Int.reducePow, Nat.reduceAdd, Nat.reduceMul, Nat.reduceSub, Nat.reduceLT, Nat.reduceLeDiff, Nat.reduceEqDiff, Nat.reduceBEq, Int.reduceLT, Int.reduceLE, Int.reduceAdd, Int.reduceSub, Int.reduceMul, Int.reduceToNat, Int.reduceNeg, reduceIte, reduceCtorEq, reduceBEq]
    (repeat (first | refine ⟨by omega, ?_⟩ | refine ⟨by (unfold drawOk; kernel_rfl), ?_⟩ | refine ⟨by simp only [List.length_map, List.length_append, List.length_take, List.length_drop]; omega, ?_⟩))
    refine callE_pure hrB (by rfl) (by rfl) (by rfl) (by decide) (by rfl) (fun _ => by rfl) (by first | rfl | simp [gdOk, newToks]) ?_
    simp -implicitDefEqProofs only [push_cast, Int.reduceBEq, Int.reduceBNe, Int.reduceEq, Int.reduceNe, Int.reducePow, Nat.reduceAdd, Nat.reduceMul, Nat.reduceSub, Nat.reduceLT, Nat.reduceLeDiff, Nat.reduceEqDiff, Nat.reduceBEq, Int.reduceLT, Int.reduceLE, Int.reduceAdd, Int.reduceSub, Int.reduceMul, Int.reduceToNat, Int.reduceNeg, reduceIte, reduceCtorEq, reduceBEq]
    refine callE_pure hrA (by rfl) (by rfl) (by rfl) (by decide) (by rfl) (fun _ => by rfl) (by first | rfl | simp [gdOk, newToks]) ?_
    simp -implicitDefEqProofs only [push_cast, Int.reduceBEq, Int.reduceBNe, Int.reduceEq, Int.reduceNe, Int.reducePow, Nat.reduceAdd, Nat.reduceMul, Nat.reduceSub, Nat.reduceLT, Nat.reduceLeDiff, Nat.reduceEqDiff, Nat.reduceBEq, Int.reduceLT, Int.reduceLE, Int.reduceAdd, Int.reduceSub, Int.reduceMul, Int.reduceToNat, Int.reduceNeg, reduceIte, reduceCtorEq, reduceBEq]
    (repeat (first | refine ⟨by omega, ?_⟩ | refine ⟨by (unfold drawOk; kernel_rfl), ?_⟩ | refine ⟨by simp only [List.length_map, List.length_append, List.length_take, List.length_drop]; omega, ?_⟩))
    all_goals exact ⟨_, rfl, by simp [wkL, res2, res1, PV.weak, PV.el, pcs, strs]⟩
  · obtain ⟨k, hk⟩ : ∃ k, k = n % 4 := ⟨_, rfl⟩
    have w4 : Int.tmod (n : Int) 4 = (k : Int) := by rw [Int.tmod_eq_emod_of_nonneg (by omega)]; omega
    have w5 : ((k : Int) == 0) = false := by simp; omega
    rw [if_neg h2] at c2 c3 ⊢
    have hcA := tick_fs l.A (by omega)
    have hcB := tick_fs l.B (by omega)
    have hrA := read_fs l.A.tick
    have hrB := read_fs l.B.tick
    simp only [En.pv, En.cs, pcs] at hcA hcB hrA hrB
    simp only [Ln.rd, Ln.pv, strs, pcs] at c2 c3 ⊢
    generalize l.A.tick = X at *
    generalize l.B.tick = Y at *
    (refine Fsp.of (nx := 0) mixed Try.func16 rfl (by decide) (by first | exact Nat.le_refl _ | simp) (by simp [Try.f16]) ⟨by decide, by decide⟩ ?_; simp -implicitDefEqProofs only [push_cast, Try.f16, Ln.pv, strs, pcs, w1, w1', w2, w3, w4, w5, Int.reduceBEq, Int.reduceBNe, Int.reduceEq, Int.reduceNe, Int.reducePow, Nat.reduceAdd, Nat.reduceMul, Nat.reduceSub, Nat.reduceLT, Nat.reduceLeDiff, Nat.reduceEqDiff, Nat.reduceBEq, Int.reduceLT, Int.reduceLE, Int.reduceAdd, Int.reduceSub, Int.reduceMul, Int.reduceToNat, Int.reduceNeg, reduceIte, reduceCtorEq, reduceBEq])
    refine callE_pure hcA (by rfl) (by rfl) (by rfl) (by decide) (by rfl) (fun _ => by rfl) (by first | rfl | simp [gdOk, newToks]) ?_
    simp -implicitDefEqProofs only [push_cast, Int.reduceBEq, Int.reduceBNe, Int.reduceEq, Int.reduceNe, Int.reducePow, Nat.reduceAdd, Nat.reduceMul, Nat.reduceSub, Nat.reduceLT, Nat.reduceLeDiff, Nat.reduceEqDiff, Nat.reduceBEq, Int.reduceLT, Int.reduceLE, Int.reduceAdd, Int.reduceSub, Int.reduceMul, Int.reduceToNat, Int.reduceNeg, reduceIte, reduceCtorEq, reduceBEq]
    (repeat (first | refine ⟨by omega, ?_⟩ | refine ⟨by (unfold drawOk; kernel_rfl), ?_⟩ | refine ⟨by simp only [List.length_map, List.length_append, List.length_take, List.length_drop]; omega, ?_⟩))
    refine callE_pure hcB (by rfl) (by rfl) (by rfl) (by decide) (by rfl) (fun _ => by rfl) (by first | rfl | simp [gdOk, newToks]) ?_
    simp -implicitDefEqProofs only [push_cast, Int.reduceBEq, Int.reduceBNe, Int.reduceEq, Int.reduceNe, Int.reducePow, Nat.reduceAdd, Nat.reduceMul, Nat.reduceSub, Nat.reduceLT, Nat.reduceLeDiff, Nat.reduceEqDiff, Nat.reduceBEq, Int.reduceLT, Int.reduceLE, Int.reduceAdd, Int.reduceSub, Int.reduceMul, Int.reduceToNat, Int.reduceNeg, reduceIte, reduceCtorEq, reduceBEq]
    (repeat (first | refine ⟨by omega, ?_⟩ | refine ⟨by (unfold drawOk; kernel_rfl), ?_⟩ | refine ⟨by simp only [List.length_map, List.length_append, List.length_take, List.length_drop]; omega, ?_⟩))
    refine callE_pure hrB (by rfl) (by rfl) (by rfl) (by decide) (by rfl) (fun _ => by rfl) (by first | rfl | simp [gdOk, newToks]) ?_
    simp -implicitDefEqProofs only [push_cast, Int.reduceBEq, Int.reduceBNe, Int.reduceEq, Int.reduceNe, Int.reducePow, Nat.reduceAdd, Nat.reduceMul, Nat.reduceSub, Nat.reduceLT, Nat.reduceLeDiff, Nat.reduceEqDiff, Nat.reduceBEq, Int.reduceLT, Int.reduceLE, Int.reduceAdd, Int.reduceSub, Int.reduceMul, Int.reduceToNat, Int.reduceNeg, reduceIte, reduceCtorEq, reduceBEq]
    refine callE_pure hrA (by rfl) (by rfl) (by rfl) (by decide) (by rfl) (fun _ => by rfl) (by first | rfl | simp [gdOk, newToks]) ?_
    simp -implicitDefEqProofs only [push_cast, Int.reduceBEq, Int.reduceBNe, Int.reduceEq, Int.reduceNe, Int.reducePow, Nat.reduceAdd, Nat.reduceMul, Nat.reduceSub, Nat.reduceLT, Nat.reduceLeDiff, Nat.reduceEqDiff, Nat.reduceBEq, Int.reduceLT, Int.reduceLE, Int.reduceAdd, Int.reduceSub, Int.reduceMul, Int.reduceToNat, Int.reduceNeg, reduceIte, reduceCtorEq, reduceBEq]
    (repeat (first | refine ⟨by omega, ?_⟩ | refine ⟨by (unfold drawOk; kernel_rfl), ?_⟩ | refine ⟨by simp only [List.length_map, List.length_append, List.length_take, List.length_drop]; omega, ?_⟩))
    all_goals exact ⟨_, rfl, by simp [wkL, res2, res1, PV.weak, PV.el, pcs, strs]⟩

end Go.Proofs.Lk

/- A line's step. -/
set_option maxRecDepth 100000
set_option linter.unusedSimpArgs false
set_option linter.unusedVariables false
namespace Go.Proofs.Lk
open Go.Pv

set_option maxHeartbeats 8000000 in
theorem step7_fs (l : Ln) {i : Nat} (p : Nat) (hp : p < 256) (hm : p % 8 = 7) (h : LnOk i l) (hi : i ≤ 300) (ha : l.A.read = []) (hb : l.B.read = []) : Fsp Try.prog 16 [] 0 [l.pv, .int .u8 (p : Int)] [] 0 (.tup [(l.step p).pv, .bool true]) := by
  obtain ⟨c1, c2, c3, c4, c5, c6, c7⟩ := core_ok h hi p ha hb
  have okA := h.a.ok hi
  have okB := h.b.ok hi
  have hs := h.s
  have hr := h.r
  have hc := h.c
  have hd := h.dd
  have htl := h.t
  have hkl := h.k
  have hwA := h.a.w
  have hwB := h.b.w
  obtain ⟨n, hn⟩ : ∃ n, n = p / 8 := ⟨_, rfl⟩
  have w1 : Int.tdiv (p : Int) 8 = (n : Int) := by rw [Int.tdiv_eq_ediv_of_nonneg (by omega)]; omega
  have w1' : IntKind.u8.wrap (n : Int) = (n : Int) := by
    simp only [IntKind.wrap, IntKind.signed, IntKind.bits, Bool.false_and]
    show (n : Int) % 256 = _
    omega
  have w2 : IntKind.i64.wrap (n : Int) = (n : Int) := by rw [wrap_i64_id (by omega) (by omega)]
  have hn32 : n < 32 := by omega
  have w3 : Int.tmod (p : Int) 8 = 7 := by rw [Int.tmod_eq_emod_of_nonneg (by omega)]; omega
  have hcore : core l p = core7 l n := by rw [core, if_neg (by omega), if_neg (by omega), if_neg (by omega), if_neg (by omega), if_neg (by omega), if_neg (by omega), if_neg (by omega), hn]
  rw [hcore] at c2 c3
  rw [Ln.step, hcore]
  obtain ⟨t, ht⟩ : ∃ t, t = text7 n := ⟨_, rfl⟩
  have w4 : Int.tmod (n : Int) 10 = ((n % 10 : Nat) : Int) := by rw [Int.tmod_eq_emod_of_nonneg (by omega)]; omega
  obtain ⟨x, hx⟩ : ∃ x, x = n % 10 := ⟨_, rfl⟩
  have hx26 : x < 10 := by omega
  rw [← hx] at w4
  have w6 : IntKind.i64.wrap (x : Int) = (x : Int) := by rw [wrap_i64_id (by omega) (by omega)]
  have u8 : ∀ z : Nat, z < 256 → IntKind.u8.wrap (z : Int) = (z : Int) := fun z hz => by
    simp only [IntKind.wrap, IntKind.signed, IntKind.bits, Bool.false_and]
    show (z : Int) % 256 = _
    omega
  have w8 := u8 x (by omega)
  have v8 : IntKind.u8.wrap (48 + (x : Int)) = ((48 + x : Nat) : Int) := by rw [show 48 + (x : Int) = ((48 + x : Nat) : Int) by omega]; exact u8 _ (by omega)
  obtain ⟨xx, hxx⟩ : ∃ xx, xx = 48 + x := ⟨_, rfl⟩
  rw [← hxx] at v8
  have ht2 : t = [UInt8.ofNat xx] := by rw [ht, text7, hxx, hx]
  have htl2 : t.length = 1 := by rw [ht2]; rfl
  have hsd := send_fs l.B t okB (by omega)
  rw [ht2] at hsd
  have bo : ∀ z : Nat, Pv.byteOf (PV.int .u8 (z : Int)) = UInt8.ofNat z := fun z => by simp [Pv.byteOf]
  have hB : sendB l.B (text7 n) = true ∨ sendB l.B (text7 n) = false := by cases sendB l.B (text7 n) <;> simp
  rcases hB with hB | hB
  · have hsR : sendR l.B [UInt8.ofNat xx] = .tup [(l.B.sendE t).pv, .int .i64 0] := by
      rw [← ht, sendB, Bool.and_eq_true] at hB
      rw [← ht2, sendR, if_neg (by simpa using hB.1), if_neg (by simpa using hB.2)]
    rw [hsR] at hsd
    have hrA := read_fs l.A
    have hrB := read_fs (l.B.sendE t)
    simp only [En.pv, En.cs, pcs] at hsd hrA hrB
    rw [core7, if_pos hB, ← ht] at c2 c3 ⊢
    simp only at c2 c3
    simp only [Ln.rd, Ln.pv, strs, pcs]
    generalize l.B.sendE t = X at *
    (refine Fsp.of (nx := 0) mixed Try.func16 rfl (by decide) (by first | exact Nat.le_refl _ | simp) (by simp [Try.f16]) ⟨by decide, by decide⟩ ?_; simp -implicitDefEqProofs only [push_cast, Try.f16, Ln.pv, strs, pcs, w1, w1', w2, w3, w4, w6, w8, v8, bo, Int.reduceBEq, Int.reduceBNe, Int.reduceEq, Int.reduceNe, Int.reducePow, Nat.reduceAdd, Nat.reduceMul, Nat.reduceSub, Nat.reduceLT, Nat.reduceLeDiff, Nat.reduceEqDiff, Nat.reduceBEq, Int.reduceLT, Int.reduceLE, Int.reduceAdd, Int.reduceSub, Int.reduceMul, Int.reduceToNat, Int.reduceNeg, reduceIte, reduceCtorEq, reduceBEq])
    refine callE_pure hsd (by rfl) (by rfl) (by rfl) (by decide) (by rfl) (fun _ => by rfl) (by first | rfl | simp [gdOk, newToks]) ?_
    simp -implicitDefEqProofs only [push_cast, Int.reduceBEq, Int.reduceBNe, Int.reduceEq, Int.reduceNe, Int.reducePow, Nat.reduceAdd, Nat.reduceMul, Nat.reduceSub, Nat.reduceLT, Nat.reduceLeDiff, Nat.reduceEqDiff, Nat.reduceBEq, Int.reduceLT, Int.reduceLE, Int.reduceAdd, Int.reduceSub, Int.reduceMul, Int.reduceToNat, Int.reduceNeg, reduceIte, reduceCtorEq, reduceBEq]
    (repeat (first | refine ⟨by omega, ?_⟩ | refine ⟨by (unfold drawOk; kernel_rfl), ?_⟩ | refine ⟨by simp only [List.length_map, List.length_append, List.length_take, List.length_drop]; omega, ?_⟩))
    refine callE_pure hrB (by rfl) (by rfl) (by rfl) (by decide) (by rfl) (fun _ => by rfl) (by first | rfl | simp [gdOk, newToks]) ?_
    simp -implicitDefEqProofs only [push_cast, Int.reduceBEq, Int.reduceBNe, Int.reduceEq, Int.reduceNe, Int.reducePow, Nat.reduceAdd, Nat.reduceMul, Nat.reduceSub, Nat.reduceLT, Nat.reduceLeDiff, Nat.reduceEqDiff, Nat.reduceBEq, Int.reduceLT, Int.reduceLE, Int.reduceAdd, Int.reduceSub, Int.reduceMul, Int.reduceToNat, Int.reduceNeg, reduceIte, reduceCtorEq, reduceBEq]
    refine callE_pure hrA (by rfl) (by rfl) (by rfl) (by decide) (by rfl) (fun _ => by rfl) (by first | rfl | simp [gdOk, newToks]) ?_
    simp -implicitDefEqProofs only [push_cast, Int.reduceBEq, Int.reduceBNe, Int.reduceEq, Int.reduceNe, Int.reducePow, Nat.reduceAdd, Nat.reduceMul, Nat.reduceSub, Nat.reduceLT, Nat.reduceLeDiff, Nat.reduceEqDiff, Nat.reduceBEq, Int.reduceLT, Int.reduceLE, Int.reduceAdd, Int.reduceSub, Int.reduceMul, Int.reduceToNat, Int.reduceNeg, reduceIte, reduceCtorEq, reduceBEq]
    (repeat (first | refine ⟨by omega, ?_⟩ | refine ⟨by (unfold drawOk; kernel_rfl), ?_⟩ | refine ⟨by simp only [List.length_map, List.length_append, List.length_take, List.length_drop]; omega, ?_⟩))
    rw [ht2]
    all_goals exact ⟨_, rfl, by simp [wkL, res2, res1, PV.weak, PV.el, pcs, strs]⟩
  · have hsR : ∃ c : Int, (c == 0) = false ∧ sendR l.B [UInt8.ofNat xx] = .tup [l.B.pv, .int .i64 c] := by
      rw [← ht, sendB] at hB
      rw [← ht2, sendR]
      split
      · exact ⟨9, rfl, rfl⟩
      · split
        · exact ⟨12, rfl, rfl⟩
        · rename_i h1 h2
          rw [Bool.eq_false_iff.2 h1, Bool.eq_false_iff.2 h2] at hB
          exact absurd hB (by decide)
    obtain ⟨c, hc0, hsR⟩ := hsR
    rw [hsR] at hsd
    have hrA := read_fs l.A
    have hrB := read_fs l.B
    simp only [En.pv, En.cs, pcs] at hsd hrA hrB
    rw [core7, if_neg (by rw [hB]; decide)] at c2 c3 ⊢
    simp only [Ln.rd, Ln.pv, strs, pcs]
    (refine Fsp.of (nx := 0) mixed Try.func16 rfl (by decide) (by first | exact Nat.le_refl _ | simp) (by simp [Try.f16]) ⟨by decide, by decide⟩ ?_; simp -implicitDefEqProofs only [push_cast, Try.f16, Ln.pv, strs, pcs, w1, w1', w2, w3, w4, w6, w8, v8, bo, Int.reduceBEq, Int.reduceBNe, Int.reduceEq, Int.reduceNe, Int.reducePow, Nat.reduceAdd, Nat.reduceMul, Nat.reduceSub, Nat.reduceLT, Nat.reduceLeDiff, Nat.reduceEqDiff, Nat.reduceBEq, Int.reduceLT, Int.reduceLE, Int.reduceAdd, Int.reduceSub, Int.reduceMul, Int.reduceToNat, Int.reduceNeg, reduceIte, reduceCtorEq, reduceBEq])
    refine callE_pure hsd (by rfl) (by rfl) (by rfl) (by decide) (by rfl) (fun _ => by rfl) (by first | rfl | simp [gdOk, newToks]) ?_
    simp -implicitDefEqProofs only [push_cast, hc0, Int.reduceBEq, Int.reduceBNe, Int.reduceEq, Int.reduceNe, Int.reducePow, Nat.reduceAdd, Nat.reduceMul, Nat.reduceSub, Nat.reduceLT, Nat.reduceLeDiff, Nat.reduceEqDiff, Nat.reduceBEq, Int.reduceLT, Int.reduceLE, Int.reduceAdd, Int.reduceSub, Int.reduceMul, Int.reduceToNat, Int.reduceNeg, reduceIte, reduceCtorEq, reduceBEq]
    (repeat (first | refine ⟨by omega, ?_⟩ | refine ⟨by (unfold drawOk; kernel_rfl), ?_⟩ | refine ⟨by simp only [List.length_map, List.length_append, List.length_take, List.length_drop]; omega, ?_⟩))
    refine callE_pure hrB (by rfl) (by rfl) (by rfl) (by decide) (by rfl) (fun _ => by rfl) (by first | rfl | simp [gdOk, newToks]) ?_
    simp -implicitDefEqProofs only [push_cast, Int.reduceBEq, Int.reduceBNe, Int.reduceEq, Int.reduceNe, Int.reducePow, Nat.reduceAdd, Nat.reduceMul, Nat.reduceSub, Nat.reduceLT, Nat.reduceLeDiff, Nat.reduceEqDiff, Nat.reduceBEq, Int.reduceLT, Int.reduceLE, Int.reduceAdd, Int.reduceSub, Int.reduceMul, Int.reduceToNat, Int.reduceNeg, reduceIte, reduceCtorEq, reduceBEq]
    refine callE_pure hrA (by rfl) (by rfl) (by rfl) (by decide) (by rfl) (fun _ => by rfl) (by first | rfl | simp [gdOk, newToks]) ?_
    simp -implicitDefEqProofs only [push_cast, Int.reduceBEq, Int.reduceBNe, Int.reduceEq, Int.reduceNe, Int.reducePow, Nat.reduceAdd, Nat.reduceMul, Nat.reduceSub, Nat.reduceLT, Nat.reduceLeDiff, Nat.reduceEqDiff, Nat.reduceBEq, Int.reduceLT, Int.reduceLE, Int.reduceAdd, Int.reduceSub, Int.reduceMul, Int.reduceToNat, Int.reduceNeg, reduceIte, reduceCtorEq, reduceBEq]
    (repeat (first | refine ⟨by omega, ?_⟩ | refine ⟨by (unfold drawOk; kernel_rfl), ?_⟩ | refine ⟨by simp only [List.length_map, List.length_append, List.length_take, List.length_drop]; omega, ?_⟩))
    all_goals exact ⟨_, rfl, by simp [wkL, res2, res1, PV.weak, PV.el, pcs, strs]⟩

end Go.Proofs.Lk
