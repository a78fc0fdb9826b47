/- PackLong. -/
import Derived.Test.YtggpilaganghkaaDoorPkLawPuts
import Derived.Test.YtggpilaganghkaaDoorPvXe
set_option maxRecDepth 100000
set_option linter.unusedSimpArgs false
set_option linter.unusedVariables false
namespace Go.Proofs.Sh
open Go.Pv

theorem zrep (n : Nat) : ∃ z : List UInt8, List.map Pv.byteOf (List.replicate n (PV.int .u8 0)) = z ∧ z.length = n ∧ (List.replicate n (PV.int .u8 0)).all isByte = true :=
  ⟨_, rfl, by simp, by simp [isByte]⟩
def opn (z : List UInt8) : Rq := ⟨23, [7], z, []⟩
theorem opn_form : formOf 23 = some ⟨[4], true, 0⟩ := by kernel_rfl
theorem opn_fmt (z : List UInt8) : fmt 0 ⟨[4], true, 0⟩ (opn z).fd = p1 (p1 (row 0 [4] [7] 1) ++ putS 0 4 z.length ++ z) := rfl
theorem opn_head : (p1 (row 0 [4] [7] 1)).length = 4 := by kernel_rfl
theorem opn_len {z : List UInt8} {n : Nat} (h : z.length = n) (hn : n ≤ 70000) : (fmt 0 ⟨[4], true, 0⟩ (opn z).fd).length = 8 + n + padN (8 + n) := by
  have hl : (putS 0 4 (z.length : Int)).length = 4 := by
    have hf : fitsN 4 (z.length : Int) = true := by simp [fitsN, low, high]; omega
    rw [putS, if_pos hf, encB_length]; rfl
  rw [opn_fmt, p1]
  have : (p1 (row 0 [4] [7] 1) ++ putS 0 4 z.length ++ z).length = 8 + n := by
    rw [List.length_append, List.length_append, opn_head, hl, h]
  rw [List.length_append, this, zeros, List.length_replicate]
theorem opn_fits {z : List UInt8} {n : Nat} (h : z.length = n) (hn : n ≤ 65536) (h0 : 0 < n) : fitsE ⟨[4], true, 0⟩ (opn z).fd = 0 := by
  have hb : decide ((65536 : Int) < ((opn z).fd.B.length : Int)) = false := by
    show decide ((65536 : Int) < (z.length : Int)) = false
    simp; omega
  unfold fitsE
  rw [if_neg (by simp [opn, Rq.fd]), if_neg (by rw [show allFit [4] (opn z).fd.N (opn z).fd.N.length = true by kernel_rfl]; simp), if_neg (by simp), if_neg (by rw [hb]; simp), if_neg (by simp [opn, Rq.fd]), if_neg (by simp [opn, Rq.fd]), if_neg (by simp [opn, Rq.fd, rowFit])]
theorem long1 {z : List UInt8} (h : z.length = 65524) : ∃ s : List UInt8, packS 0 (opn z) = (s, 0) ∧ s.length = 65536 := by
  have hl := opn_len h (by omega)
  rw [show padN (8 + 65524) = 0 by decide] at hl
  refine ⟨_, packS_ok (f := ⟨[4], true, 0⟩) (by decide) opn_form (by rw [opn_fits h (by omega) (by omega)]; rfl) (by omega), ?_⟩
  rw [List.length_append, hl]
  have : (hd 0 (opn z).C ((8 + 65524 + 0) / 4 + 1)).length = 4 := by simp [hd, encB_length]
  omega
theorem long2 {z : List UInt8} (h : z.length = 65528) : packS 0 (opn z) = ([], 4) := by
  have hl := opn_len h (by omega)
  rw [show padN (8 + 65528) = 0 by decide] at hl
  exact packS_big (f := ⟨[4], true, 0⟩) (by decide) opn_form (by rw [opn_fits h (by omega) (by omega)]; rfl) (by omega)
theorem opn_few {z : List UInt8} (h : z.length ≤ 70000) : (opn z).Few := ⟨by simp [opn], by simp [opn]; omega, by simp [opn]⟩
set_option maxHeartbeats 2000000 in
theorem packLong_fs : Fsp Tryd.prog 3 [] 0 [] [] 0 (.bool true) := by
  obtain ⟨z1, hz1, hn1, hb1⟩ := zrep 65524
  obtain ⟨z2, hz2, hn2, hb2⟩ := zrep 65528
  obtain ⟨s1, hs1, hl1⟩ := long1 hn1
  replace hl1 : (s1.length : Int) = 65536 := by omega
  have h1 := packPut_fs 0 (opn z1) (opn_few (by omega))
  have h2 := packPut_fs 0 (opn z2) (opn_few (by omega))
  rw [packR, hs1] at h1
  rw [packR, long2 hn2] at h2
  simp only [Rq.pv, opn, ints, List.map_cons, List.map_nil] at h1 h2
  replace h1 := h1.nils (qs := [.int .i64 0, .agg [.int .i64 23, .sl 1 [.int .i64 7], .str z1, .nilsl]]) ⟨nlV_same _, nlV_agg ⟨.inl rfl, .inl rfl, .inl rfl, .inr ⟨rfl, 1, rfl⟩, trivial⟩, trivial⟩
  replace h2 := h2.nils (qs := [.int .i64 0, .agg [.int .i64 23, .sl 1 [.int .i64 7], .str z2, .nilsl]]) ⟨nlV_same _, nlV_agg ⟨.inl rfl, .inl rfl, .inl rfl, .inr ⟨rfl, 1, rfl⟩, trivial⟩, trivial⟩
  (refine Fsp.of (nx := 0) mixed Tryd.func3 rfl (by decide) (by first | exact Nat.le_refl _ | simp) (by simp [Tryd.f3]) ⟨by decide, by decide⟩ ?_; simp -implicitDefEqProofs only [push_cast, Tryd.f3, hz1, hb1, hz2, hb2, Int.reduceBEq, Int.reduceBNe, Int.reduceEq, Int.reduceNe, Int.reducePow, Nat.reduceAdd, Nat.reduceMul, Nat.reduceSub, Nat.reduceLT, Nat.reduceLeDiff, Nat.reduceEqDiff, Nat.reduceBEq, Int.reduceLT, Int.reduceLE, Int.reduceAdd, Int.reduceSub, Int.reduceMul, Int.reduceToNat, Int.reduceNeg, reduceIte, reduceCtorEq, reduceBEq])
  refine callE_pure h1 (by rfl) (by rfl) (by rfl) (by decide) (by rfl) (fun _ => by rfl) (by first | rfl | simp [gdOk, newToks]) ?_
  simp -implicitDefEqProofs only [push_cast, hz2, hb2, Int.reduceBEq, Int.reduceBNe, Int.reduceEq, Int.reduceNe, Int.reducePow, Nat.reduceAdd, Nat.reduceMul, Nat.reduceSub, Nat.reduceLT, Nat.reduceLeDiff, Nat.reduceEqDiff, Nat.reduceBEq, Int.reduceLT, Int.reduceLE, Int.reduceAdd, Int.reduceSub, Int.reduceMul, Int.reduceToNat, Int.reduceNeg, reduceIte, reduceCtorEq, reduceBEq]
  refine callE_pure h2 (by rfl) (by rfl) (by rfl) (by decide) (by rfl) (fun _ => by rfl) (by first | rfl | simp [gdOk, newToks]) ?_
  simp -implicitDefEqProofs only [push_cast, hl1, Int.reduceBEq, Int.reduceBNe, Int.reduceEq, Int.reduceNe, Int.reducePow, Nat.reduceAdd, Nat.reduceMul, Nat.reduceSub, Nat.reduceLT, Nat.reduceLeDiff, Nat.reduceEqDiff, Nat.reduceBEq, Int.reduceLT, Int.reduceLE, Int.reduceAdd, Int.reduceSub, Int.reduceMul, Int.reduceToNat, Int.reduceNeg, reduceIte, reduceCtorEq, reduceBEq]
  refine callE_pure awake_fs (by rfl) (by rfl) (by rfl) (by decide) (by rfl) (fun _ => by rfl) (by first | rfl | simp [gdOk, newToks]) ?_
  simp -implicitDefEqProofs only [push_cast, Int.reduceBEq, Int.reduceBNe, Int.reduceEq, Int.reduceNe, Int.reducePow, Nat.reduceAdd, Nat.reduceMul, Nat.reduceSub, Nat.reduceLT, Nat.reduceLeDiff, Nat.reduceEqDiff, Nat.reduceBEq, Int.reduceLT, Int.reduceLE, Int.reduceAdd, Int.reduceSub, Int.reduceMul, Int.reduceToNat, Int.reduceNeg, reduceIte, reduceCtorEq, reduceBEq]

end Go.Proofs.Sh
