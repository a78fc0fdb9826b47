/- A line's step. -/
import Derived.Test.YtjhkaanphpcepaaLkLine
set_option maxRecDepth 100000
set_option linter.unusedSimpArgs false
set_option linter.unusedVariables false
namespace Go.Proofs.Lk
open Go.Pv

set_option maxHeartbeats 8000000 in
theorem step0_fs (l : Ln) {i : Nat} (p : Nat) (hp : p < 256) (hm : p % 8 = 0) (h : LnOk i l) (hi : i ≤ 300) (ha : l.A.read = []) (hb : l.B.read = []) : Fsp Try.prog 16 [] 0 [l.pv, .int .u8 (p : Int)] [] 0 (.tup [(l.step p).pv, .bool true]) := by
  obtain ⟨c1, c2, c3, c4, c5, c6, c7⟩ := core_ok h hi p ha hb
  have okA := h.a.ok hi
  have okB := h.b.ok hi
  have hs := h.s
  have hr := h.r
  have hc := h.c
  have hd := h.dd
  have htl := h.t
  have hkl := h.k
  have hwA := h.a.w
  have hwB := h.b.w
  obtain ⟨n, hn⟩ : ∃ n, n = p / 8 := ⟨_, rfl⟩
  have w1 : Int.tdiv (p : Int) 8 = (n : Int) := by rw [Int.tdiv_eq_ediv_of_nonneg (by omega)]; omega
  have w1' : IntKind.u8.wrap (n : Int) = (n : Int) := by
    simp only [IntKind.wrap, IntKind.signed, IntKind.bits, Bool.false_and]
    show (n : Int) % 256 = _
    omega
  have w2 : IntKind.i64.wrap (n : Int) = (n : Int) := by rw [wrap_i64_id (by omega) (by omega)]
  have hn32 : n < 32 := by omega
  have w3 : Int.tmod (p : Int) 8 = 0 := by rw [Int.tmod_eq_emod_of_nonneg (by omega)]; omega
  have hcore : core l p = core0 l n := by rw [core, if_pos hm, hn]
  rw [hcore] at c2 c3
  rw [Ln.step, hcore]
  obtain ⟨t, ht⟩ : ∃ t, t = text0 n l.S.length := ⟨_, rfl⟩
  have w4 : Int.tmod (n : Int) 26 = ((n % 26 : Nat) : Int) := by rw [Int.tmod_eq_emod_of_nonneg (by omega)]; omega
  have w5 : Int.tmod (l.S.length : Int) 26 = ((l.S.length % 26 : Nat) : Int) := by rw [Int.tmod_eq_emod_of_nonneg (by omega)]; omega
  obtain ⟨x, hx⟩ : ∃ x, x = n % 26 := ⟨_, rfl⟩
  obtain ⟨y, hy⟩ : ∃ y, y = l.S.length % 26 := ⟨_, rfl⟩
  have hx26 : x < 26 := by omega
  have hy26 : y < 26 := by omega
  rw [← hx] at w4
  rw [← hy] at w5
  have w6 : IntKind.i64.wrap (x : Int) = (x : Int) := by rw [wrap_i64_id (by omega) (by omega)]
  have w7 : IntKind.i64.wrap (y : Int) = (y : Int) := by rw [wrap_i64_id (by omega) (by omega)]
  have u8 : ∀ z : Nat, z < 256 → IntKind.u8.wrap (z : Int) = (z : Int) := fun z hz => by
    simp only [IntKind.wrap, IntKind.signed, IntKind.bits, Bool.false_and]
    show (z : Int) % 256 = _
    omega
  have w8 := u8 x (by omega)
  have w9 := u8 y (by omega)
  have v8 : IntKind.u8.wrap (97 + (x : Int)) = ((97 + x : Nat) : Int) := by rw [show 97 + (x : Int) = ((97 + x : Nat) : Int) by omega]; exact u8 _ (by omega)
  have v9 : IntKind.u8.wrap (65 + (y : Int)) = ((65 + y : Nat) : Int) := by rw [show 65 + (y : Int) = ((65 + y : Nat) : Int) by omega]; exact u8 _ (by omega)
  obtain ⟨xx, hxx⟩ : ∃ xx, xx = 97 + x := ⟨_, rfl⟩
  obtain ⟨yy, hyy⟩ : ∃ yy, yy = 65 + y := ⟨_, rfl⟩
  rw [← hxx] at v8
  rw [← hyy] at v9
  have ht2 : t = [UInt8.ofNat xx, UInt8.ofNat yy] := by rw [ht, text0, hxx, hyy, hx, hy]
  have htl2 : t.length = 2 := by rw [ht2]; rfl
  have hsd := send_fs l.A t okA (by omega)
  rw [ht2] at hsd
  have bo : ∀ z : Nat, Pv.byteOf (PV.int .u8 (z : Int)) = UInt8.ofNat z := fun z => by simp [Pv.byteOf]
  have hB : sendB l.A (text0 n l.S.length) = true ∨ sendB l.A (text0 n l.S.length) = false := by cases sendB l.A (text0 n l.S.length) <;> simp
  rcases hB with hB | hB
  · have hsR : sendR l.A [UInt8.ofNat xx, UInt8.ofNat yy] = .tup [(l.A.sendE t).pv, .int .i64 0] := by
      rw [← ht, sendB, Bool.and_eq_true] at hB
      rw [← ht2, sendR, if_neg (by simpa using hB.1), if_neg (by simpa using hB.2)]
    rw [hsR] at hsd
    have hrA := read_fs (l.A.sendE t)
    have hrB := read_fs l.B
    simp only [En.pv, En.cs, pcs] at hsd hrA hrB
    rw [core0, if_pos hB, ← ht] at c2 c3 ⊢
    simp only at c2 c3
    simp only [Ln.rd, Ln.pv, strs, pcs]
    generalize l.A.sendE t = X at *
    (refine Fsp.of (nx := 0) mixed Try.func16 rfl (by decide) (by first | exact Nat.le_refl _ | simp) (by simp [Try.f16]) ⟨by decide, by decide⟩ ?_; simp -implicitDefEqProofs only [push_cast, Try.f16, Ln.pv, strs, pcs, w1, w1', w2, w3, w4, w5, w6, w7, w8, w9, v8, v9, bo, Int.reduceBEq, Int.reduceBNe, Int.reduceEq, Int.reduceNe, Int.reducePow, Nat.reduceAdd, Nat.reduceMul, Nat.reduceSub, Nat.reduceLT, Nat.reduceLeDiff, Nat.reduceEqDiff, Nat.reduceBEq, Int.reduceLT, Int.reduceLE, Int.reduceAdd, Int.reduceSub, Int.reduceMul, Int.reduceToNat, Int.reduceNeg, reduceIte, reduceCtorEq, reduceBEq])
    refine callE_pure hsd (by rfl) (by rfl) (by rfl) (by decide) (by rfl) (fun _ => by rfl) (by first | rfl | simp [gdOk, newToks]) ?_
    simp -implicitDefEqProofs only [push_cast, Int.reduceBEq, Int.reduceBNe, Int.reduceEq, Int.reduceNe, Int.reducePow, Nat.reduceAdd, Nat.reduceMul, Nat.reduceSub, Nat.reduceLT, Nat.reduceLeDiff, Nat.reduceEqDiff, Nat.reduceBEq, Int.reduceLT, Int.reduceLE, Int.reduceAdd, Int.reduceSub, Int.reduceMul, Int.reduceToNat, Int.reduceNeg, reduceIte, reduceCtorEq, reduceBEq]
    (repeat (first | refine ⟨by omega, ?_⟩ | refine ⟨by (unfold drawOk; kernel_rfl), ?_⟩ | refine ⟨by simp only [List.length_map, List.length_append, List.length_take, List.length_drop]; omega, ?_⟩))
    refine callE_pure hrB (by rfl) (by rfl) (by rfl) (by decide) (by rfl) (fun _ => by rfl) (by first | rfl | simp [gdOk, newToks]) ?_
    simp -implicitDefEqProofs only [push_cast, Int.reduceBEq, Int.reduceBNe, Int.reduceEq, Int.reduceNe, Int.reducePow, Nat.reduceAdd, Nat.reduceMul, Nat.reduceSub, Nat.reduceLT, Nat.reduceLeDiff, Nat.reduceEqDiff, Nat.reduceBEq, Int.reduceLT, Int.reduceLE, Int.reduceAdd, Int.reduceSub, Int.reduceMul, Int.reduceToNat, Int.reduceNeg, reduceIte, reduceCtorEq, reduceBEq]
    refine callE_pure hrA (by rfl) (by rfl) (by rfl) (by decide) (by rfl) (fun _ => by rfl) (by first | rfl | simp [gdOk, newToks]) ?_
    simp -implicitDefEqProofs only [push_cast, Int.reduceBEq, Int.reduceBNe, Int.reduceEq, Int.reduceNe, Int.reducePow, Nat.reduceAdd, Nat.reduceMul, Nat.reduceSub, Nat.reduceLT, Nat.reduceLeDiff, Nat.reduceEqDiff, Nat.reduceBEq, Int.reduceLT, Int.reduceLE, Int.reduceAdd, Int.reduceSub, Int.reduceMul, Int.reduceToNat, Int.reduceNeg, reduceIte, reduceCtorEq, reduceBEq]
    (repeat (first | refine ⟨by omega, ?_⟩ | refine ⟨by (unfold drawOk; kernel_rfl), ?_⟩ | refine ⟨by simp only [List.length_map, List.length_append, List.length_take, List.length_drop]; omega, ?_⟩))
    rw [ht2]
    all_goals exact ⟨_, rfl, by simp [wkL, res2, res1, PV.weak, PV.el, pcs, strs]⟩
  · have hsR : ∃ c : Int, (c == 0) = false ∧ sendR l.A [UInt8.ofNat xx, UInt8.ofNat yy] = .tup [l.A.pv, .int .i64 c] := by
      rw [← ht, sendB] at hB
      rw [← ht2, sendR]
      split
      · exact ⟨9, rfl, rfl⟩
      · split
        · exact ⟨12, rfl, rfl⟩
        · rename_i h1 h2
          rw [Bool.eq_false_iff.2 h1, Bool.eq_false_iff.2 h2] at hB
          exact absurd hB (by decide)
    obtain ⟨c, hc0, hsR⟩ := hsR
    rw [hsR] at hsd
    have hrA := read_fs l.A
    have hrB := read_fs l.B
    simp only [En.pv, En.cs, pcs] at hsd hrA hrB
    rw [core0, if_neg (by rw [hB]; decide)] at c2 c3 ⊢
    simp only [Ln.rd, Ln.pv, strs, pcs]
    (refine Fsp.of (nx := 0) mixed Try.func16 rfl (by decide) (by first | exact Nat.le_refl _ | simp) (by simp [Try.f16]) ⟨by decide, by decide⟩ ?_; simp -implicitDefEqProofs only [push_cast, Try.f16, Ln.pv, strs, pcs, w1, w1', w2, w3, w4, w5, w6, w7, w8, w9, v8, v9, bo, Int.reduceBEq, Int.reduceBNe, Int.reduceEq, Int.reduceNe, Int.reducePow, Nat.reduceAdd, Nat.reduceMul, Nat.reduceSub, Nat.reduceLT, Nat.reduceLeDiff, Nat.reduceEqDiff, Nat.reduceBEq, Int.reduceLT, Int.reduceLE, Int.reduceAdd, Int.reduceSub, Int.reduceMul, Int.reduceToNat, Int.reduceNeg, reduceIte, reduceCtorEq, reduceBEq])
    refine callE_pure hsd (by rfl) (by rfl) (by rfl) (by decide) (by rfl) (fun _ => by rfl) (by first | rfl | simp [gdOk, newToks]) ?_
    simp -implicitDefEqProofs only [push_cast, hc0, Int.reduceBEq, Int.reduceBNe, Int.reduceEq, Int.reduceNe, Int.reducePow, Nat.reduceAdd, Nat.reduceMul, Nat.reduceSub, Nat.reduceLT, Nat.reduceLeDiff, Nat.reduceEqDiff, Nat.reduceBEq, Int.reduceLT, Int.reduceLE, Int.reduceAdd, Int.reduceSub, Int.reduceMul, Int.reduceToNat, Int.reduceNeg, reduceIte, reduceCtorEq, reduceBEq]
    (repeat (first | refine ⟨by omega, ?_⟩ | refine ⟨by (unfold drawOk; kernel_rfl), ?_⟩ | refine ⟨by simp only [List.length_map, List.length_append, List.length_take, List.length_drop]; omega, ?_⟩))
    refine callE_pure hrB (by rfl) (by rfl) (by rfl) (by decide) (by rfl) (fun _ => by rfl) (by first | rfl | simp [gdOk, newToks]) ?_
    simp -implicitDefEqProofs only [push_cast, Int.reduceBEq, Int.reduceBNe, Int.reduceEq, Int.reduceNe, Int.reducePow, Nat.reduceAdd, Nat.reduceMul, Nat.reduceSub, Nat.reduceLT, Nat.reduceLeDiff, Nat.reduceEqDiff, Nat.reduceBEq, Int.reduceLT, Int.reduceLE, Int.reduceAdd, Int.reduceSub, Int.reduceMul, Int.reduceToNat, Int.reduceNeg, reduceIte, reduceCtorEq, reduceBEq]
    refine callE_pure hrA (by rfl) (by rfl) (by rfl) (by decide) (by rfl) (fun _ => by rfl) (by first | rfl | simp [gdOk, newToks]) ?_
    simp -implicitDefEqProofs only [push_cast, Int.reduceBEq, Int.reduceBNe, Int.reduceEq, Int.reduceNe, Int.reducePow, Nat.reduceAdd, Nat.reduceMul, Nat.reduceSub, Nat.reduceLT, Nat.reduceLeDiff, Nat.reduceEqDiff, Nat.reduceBEq, Int.reduceLT, Int.reduceLE, Int.reduceAdd, Int.reduceSub, Int.reduceMul, Int.reduceToNat, Int.reduceNeg, reduceIte, reduceCtorEq, reduceBEq]
    (repeat (first | refine ⟨by omega, ?_⟩ | refine ⟨by (unfold drawOk; kernel_rfl), ?_⟩ | refine ⟨by simp only [List.length_map, List.length_append, List.length_take, List.length_drop]; omega, ?_⟩))
    all_goals exact ⟨_, rfl, by simp [wkL, res2, res1, PV.weak, PV.el, pcs, strs]⟩

end Go.Proofs.Lk
