/- PackPuts. -/
import Derived.Test.YtggpilaganghkaaDoorPkPack
set_option maxRecDepth 100000
set_option linter.unusedSimpArgs false
set_option linter.unusedVariables false
namespace Go.Proofs.Sh
open Go.Pv


def cl3 : Cl := orCl bldCl cl2
theorem cl3_ok : cl3.Ok Tryd.prog := orCl_ok bldCl_ok cl2_ok
theorem awake_fs : Fsp Tryd.prog 10 [] 0 [] [] 0 (.bool true) := ranTrue mixed cl3_ok (wbf := fun f => Nat.beq f 53 || Nat.beq f 57) (n := 60) (d := 10) (by kernel_rfl)
theorem check_fs2 (r : Rq) (hr : r.Few) : Fsp Tryd.prog 13 [] 0 [r.pv] [] 0 (.int .i64 (packS 0 r).2) := by
  have hp := packPut_fs 0 r hr
  simp only [Rq.pv, packR] at hp
  (refine Fsp.of (nx := 0) mixed Tryd.func13 rfl (by decide) (by first | exact Nat.le_refl _ | simp) (by simp [Tryd.f13]) ⟨by decide, by decide⟩ ?_; simp -implicitDefEqProofs only [push_cast, Tryd.f13, Rq.pv, Int.reduceBEq, Int.reduceBNe, Int.reduceEq, Int.reduceNe, Int.reducePow, Nat.reduceAdd, Nat.reduceMul, Nat.reduceSub, Nat.reduceLT, Nat.reduceLeDiff, Nat.reduceEqDiff, Nat.reduceBEq, Int.reduceLT, Int.reduceLE, Int.reduceAdd, Int.reduceSub, Int.reduceMul, Int.reduceToNat, Int.reduceNeg, reduceIte, reduceCtorEq, reduceBEq])
  refine callE_pure hp (by rfl) (by rfl) (by rfl) (by decide) (by rfl) (fun _ => by rfl) (by first | rfl | simp [gdOk, newToks]) ?_
  simp -implicitDefEqProofs only [push_cast, Int.reduceBEq, Int.reduceBNe, Int.reduceEq, Int.reduceNe, Int.reducePow, Nat.reduceAdd, Nat.reduceMul, Nat.reduceSub, Nat.reduceLT, Nat.reduceLeDiff, Nat.reduceEqDiff, Nat.reduceBEq, Int.reduceLT, Int.reduceLE, Int.reduceAdd, Int.reduceSub, Int.reduceMul, Int.reduceToNat, Int.reduceNeg, reduceIte, reduceCtorEq, reduceBEq]
def isFew (r : Rq) : Bool := decide ((r.N.length : Int) ≤ 40) && decide ((r.B.length : Int) ≤ 600) && decide ((r.L.length : Int) ≤ 300)
theorem few_fs (r : Rq) : Fsp Tryd.prog 11 [] 0 [r.pv] [] 0 (.bool (isFew r)) := by
  cases h1 : decide ((r.N.length : Int) ≤ 40)
  · (refine Fsp.of (nx := 0) mixed Tryd.func11 rfl (by decide) (by first | exact Nat.le_refl _ | simp) (by simp [Tryd.f11]) ⟨by decide, by decide⟩ ?_; simp -implicitDefEqProofs only [push_cast, Tryd.f11, Rq.pv, ints_length, h1, Int.reduceBEq, Int.reduceBNe, Int.reduceEq, Int.reduceNe, Int.reducePow, Nat.reduceAdd, Nat.reduceMul, Nat.reduceSub, Nat.reduceLT, Nat.reduceLeDiff, Nat.reduceEqDiff, Nat.reduceBEq, Int.reduceLT, Int.reduceLE, Int.reduceAdd, Int.reduceSub, Int.reduceMul, Int.reduceToNat, Int.reduceNeg, reduceIte, reduceCtorEq, reduceBEq])
    rw [isFew, h1]; rfl
  · cases h2 : decide ((r.B.length : Int) ≤ 600)
    · (refine Fsp.of (nx := 0) mixed Tryd.func11 rfl (by decide) (by first | exact Nat.le_refl _ | simp) (by simp [Tryd.f11]) ⟨by decide, by decide⟩ ?_; simp -implicitDefEqProofs only [push_cast, Tryd.f11, Rq.pv, ints_length, h1, h2, Int.reduceBEq, Int.reduceBNe, Int.reduceEq, Int.reduceNe, Int.reducePow, Nat.reduceAdd, Nat.reduceMul, Nat.reduceSub, Nat.reduceLT, Nat.reduceLeDiff, Nat.reduceEqDiff, Nat.reduceBEq, Int.reduceLT, Int.reduceLE, Int.reduceAdd, Int.reduceSub, Int.reduceMul, Int.reduceToNat, Int.reduceNeg, reduceIte, reduceCtorEq, reduceBEq])
      rw [isFew, h1, h2]; rfl
    · (refine Fsp.of (nx := 0) mixed Tryd.func11 rfl (by decide) (by first | exact Nat.le_refl _ | simp) (by simp [Tryd.f11]) ⟨by decide, by decide⟩ ?_; simp -implicitDefEqProofs only [push_cast, Tryd.f11, Rq.pv, ints_length, h1, h2, Int.reduceBEq, Int.reduceBNe, Int.reduceEq, Int.reduceNe, Int.reducePow, Nat.reduceAdd, Nat.reduceMul, Nat.reduceSub, Nat.reduceLT, Nat.reduceLeDiff, Nat.reduceEqDiff, Nat.reduceBEq, Int.reduceLT, Int.reduceLE, Int.reduceAdd, Int.reduceSub, Int.reduceMul, Int.reduceToNat, Int.reduceNeg, reduceIte, reduceCtorEq, reduceBEq])
      rw [isFew, h1, h2]; rfl
theorem two0 (n : Nat) : UInt8.ofNat (IntKind.u8.wrap ((n : Int).tmod 256)).toNat = byteAt (n : Int) 0 := by
  unfold byteAt
  congr 2
  rw [wrap_u8, Int.tmod_eq_emod_of_nonneg (by omega)]; omega
theorem two1 (n : Nat) (h : n ≤ 65535) : UInt8.ofNat (IntKind.u8.wrap (IntKind.i64.wrap ((n : Int).tdiv 256))).toNat = byteAt (n : Int) 1 := by
  unfold byteAt
  congr 2
  rw [wrap_u8, Int.tdiv_eq_ediv_of_nonneg (by omega), wrap_i64_id (by omega) (by omega)]; omega
theorem two_fs {o : Int} (ho : isOrder o) (n : Nat) (h : n ≤ 65535) : Fsp Tryd.prog 45 [] 0 [.int .i64 o, .int .i64 n] [] 0 (.str (encB o 2 (n : Int))) := by
  rcases ho with rfl | rfl
  · (refine Fsp.of (nx := 0) mixed Tryd.func45 rfl (by decide) (by first | exact Nat.le_refl _ | simp) (by simp [Tryd.f45]) ⟨by decide, by decide⟩ ?_; simp -implicitDefEqProofs only [push_cast, Tryd.f45, Int.reduceBEq, Int.reduceBNe, Int.reduceEq, Int.reduceNe, Int.reducePow, Nat.reduceAdd, Nat.reduceMul, Nat.reduceSub, Nat.reduceLT, Nat.reduceLeDiff, Nat.reduceEqDiff, Nat.reduceBEq, Int.reduceLT, Int.reduceLE, Int.reduceAdd, Int.reduceSub, Int.reduceMul, Int.reduceToNat, Int.reduceNeg, reduceIte, reduceCtorEq, reduceBEq])
    rw [two0, two1 n h]; rfl
  · (refine Fsp.of (nx := 0) mixed Tryd.func45 rfl (by decide) (by first | exact Nat.le_refl _ | simp) (by simp [Tryd.f45]) ⟨by decide, by decide⟩ ?_; simp -implicitDefEqProofs only [push_cast, Tryd.f45, Int.reduceBEq, Int.reduceBNe, Int.reduceEq, Int.reduceNe, Int.reducePow, Nat.reduceAdd, Nat.reduceMul, Nat.reduceSub, Nat.reduceLT, Nat.reduceLeDiff, Nat.reduceEqDiff, Nat.reduceBEq, Int.reduceLT, Int.reduceLE, Int.reduceAdd, Int.reduceSub, Int.reduceMul, Int.reduceToNat, Int.reduceNeg, reduceIte, reduceCtorEq, reduceBEq])
    rw [two0, two1 n h]; rfl
theorem enc1 (o v : Int) : encB o 1 v = [byteAt v 0] := by
  unfold encB
  cases (o == 1) <;> rfl
theorem head_fs {o C : Int} (ho : isOrder o) (h1 : 1 ≤ C) (h2 : C ≤ 58) (n : Nat) (h : n ≤ 65535) : Fsp Tryd.prog 26 [] 0 [.int .i64 o, .int .i64 C, .int .i64 n] [] 0 (.str (hd o C n)) := by
  have ht := two_fs ho n h
  have he := encB_length o 2 (n : Int)
  (refine Fsp.of (nx := 0) mixed Tryd.func26 rfl (by decide) (by first | exact Nat.le_refl _ | simp) (by simp [Tryd.f26]) ⟨by decide, by decide⟩ ?_; simp -implicitDefEqProofs only [push_cast, Tryd.f26, Int.reduceBEq, Int.reduceBNe, Int.reduceEq, Int.reduceNe, Int.reducePow, Nat.reduceAdd, Nat.reduceMul, Nat.reduceSub, Nat.reduceLT, Nat.reduceLeDiff, Nat.reduceEqDiff, Nat.reduceBEq, Int.reduceLT, Int.reduceLE, Int.reduceAdd, Int.reduceSub, Int.reduceMul, Int.reduceToNat, Int.reduceNeg, reduceIte, reduceCtorEq, reduceBEq])
  refine callE_pure ht (by rfl) (by rfl) (by rfl) (by decide) (by rfl) (fun _ => by rfl) (by first | rfl | simp [gdOk, newToks]) ?_
  simp -implicitDefEqProofs only [push_cast, Int.reduceBEq, Int.reduceBNe, Int.reduceEq, Int.reduceNe, Int.reducePow, Nat.reduceAdd, Nat.reduceMul, Nat.reduceSub, Nat.reduceLT, Nat.reduceLeDiff, Nat.reduceEqDiff, Nat.reduceBEq, Int.reduceLT, Int.reduceLE, Int.reduceAdd, Int.reduceSub, Int.reduceMul, Int.reduceToNat, Int.reduceNeg, reduceIte, reduceCtorEq, reduceBEq]
  refine ⟨by omega, by (unfold drawOk; kernel_rfl), ?_⟩
  have e1 : UInt8.ofNat (IntKind.u8.wrap C).toNat = byteAt C 0 := by
    unfold byteAt
    congr 2
    rw [wrap_u8]; omega
  rw [hd, enc1, enc1, e1]; rfl
set_option maxHeartbeats 2000000 in
theorem lawPut_fs (o : Int) (r : Rq) (hr : r.Few) : Fsp Tryd.prog 12 [] 0 [.int .i64 o, r.pv] [] 0 (packR o r) := by
  cases ho : isOrd o
  · have h0 : (o != 0) = true := by simp [isOrd] at ho; simp [ho.1]
    have h1 : (o != 1) = true := by simp [isOrd] at ho; simp [ho.2]
    (refine Fsp.of (nx := 0) mixed Tryd.func12 rfl (by decide) (by first | exact Nat.le_refl _ | simp) (by simp [Tryd.f12]) ⟨by decide, by decide⟩ ?_; simp -implicitDefEqProofs only [push_cast, Tryd.f12, Rq.pv, h0, h1, Int.reduceBEq, Int.reduceBNe, Int.reduceEq, Int.reduceNe, Int.reducePow, Nat.reduceAdd, Nat.reduceMul, Nat.reduceSub, Nat.reduceLT, Nat.reduceLeDiff, Nat.reduceEqDiff, Nat.reduceBEq, Int.reduceLT, Int.reduceLE, Int.reduceAdd, Int.reduceSub, Int.reduceMul, Int.reduceToNat, Int.reduceNeg, reduceIte, reduceCtorEq, reduceBEq])
    simp [packR, packS, ho, wkL, res2, res1, PV.weak, PV.el]
  · have hor := isOrd_of ho
    have hq := request_fs r.C
    rcases hor with rfl | rfl
    · have hor : isOrder (0) := by unfold isOrder; omega
      (refine Fsp.of (nx := 0) mixed Tryd.func12 rfl (by decide) (by first | exact Nat.le_refl _ | simp) (by simp [Tryd.f12]) ⟨by decide, by decide⟩ ?_; simp -implicitDefEqProofs only [push_cast, Tryd.f12, Rq.pv, Int.reduceBEq, Int.reduceBNe, Int.reduceEq, Int.reduceNe, Int.reducePow, Nat.reduceAdd, Nat.reduceMul, Nat.reduceSub, Nat.reduceLT, Nat.reduceLeDiff, Nat.reduceEqDiff, Nat.reduceBEq, Int.reduceLT, Int.reduceLE, Int.reduceAdd, Int.reduceSub, Int.reduceMul, Int.reduceToNat, Int.reduceNeg, reduceIte, reduceCtorEq, reduceBEq])
      cases hf : formOf r.C with
      | none =>
        rw [formR, hf] at hq
        simp only [form0] at hq
        refine callE_pure hq (by rfl) (by rfl) (by rfl) (by decide) (by rfl) (fun _ => by rfl) (by first | rfl | simp [gdOk, newToks]) ?_
        simp -implicitDefEqProofs only [push_cast, Int.reduceBEq, Int.reduceBNe, Int.reduceEq, Int.reduceNe, Int.reducePow, Nat.reduceAdd, Nat.reduceMul, Nat.reduceSub, Nat.reduceLT, Nat.reduceLeDiff, Nat.reduceEqDiff, Nat.reduceBEq, Int.reduceLT, Int.reduceLE, Int.reduceAdd, Int.reduceSub, Int.reduceMul, Int.reduceToNat, Int.reduceNeg, reduceIte, reduceCtorEq, reduceBEq]
        simp [packR, packS, ho, hf, wkL, res2, res1, PV.weak, PV.el]
      | some f =>
        rw [formR, hf] at hq
        simp only [formT, Fm.pv] at hq
        obtain ⟨hok, hc1, hc2⟩ := formOf_some hf
        have hm := format_fs hor f hok r.fd hr.n hr.l hr.b
        simp only [Fm.pv, Fd.pv] at hm
        refine callE_pure hq (by rfl) (by rfl) (by rfl) (by decide) (by rfl) (fun _ => by rfl) (by first | rfl | simp [gdOk, newToks]) ?_
        simp -implicitDefEqProofs only [push_cast, Int.reduceBEq, Int.reduceBNe, Int.reduceEq, Int.reduceNe, Int.reducePow, Nat.reduceAdd, Nat.reduceMul, Nat.reduceSub, Nat.reduceLT, Nat.reduceLeDiff, Nat.reduceEqDiff, Nat.reduceBEq, Int.reduceLT, Int.reduceLE, Int.reduceAdd, Int.reduceSub, Int.reduceMul, Int.reduceToNat, Int.reduceNeg, reduceIte, reduceCtorEq, reduceBEq]
        cases hE : (fitsE f r.fd != 0)
        · cases hM : decide ((65536 : Int) < (fmt (0) f r.fd).length)
          · rw [fmtR, if_neg (by rw [hE]; simp), if_neg (by rw [hM]; simp)] at hm
            have hfl : (fmt (0) f r.fd).length ≤ 65536 := by simp at hM; omega
            have hpb := packS_big ho hf hE
            have hpo := packS_ok ho hf hE
            have hh := head_fs hor hc1 hc2 ((fmt (0) f r.fd).length / 4 + 1) (by omega)
            have hdl : (hd (0) r.C ((fmt (0) f r.fd).length / 4 + 1)).length = 4 := by simp [hd, encB_length]
            generalize hH : hd (0) r.C ((fmt (0) f r.fd).length / 4 + 1) = H at *
            generalize hX : fmt (0) f r.fd = X at *
            have hwr : IntKind.i64.wrap ((X.length : Int) + 4) = (X.length : Int) + 4 := by rw [wrap_i64_id (by omega) (by omega)]
            refine callE_pure hm (by rfl) (by rfl) (by rfl) (by decide) (by rfl) (fun _ => by rfl) (by first | rfl | simp [gdOk, newToks]) ?_
            simp -implicitDefEqProofs only [push_cast, hwr, Int.reduceBEq, Int.reduceBNe, Int.reduceEq, Int.reduceNe, Int.reducePow, Nat.reduceAdd, Nat.reduceMul, Nat.reduceSub, Nat.reduceLT, Nat.reduceLeDiff, Nat.reduceEqDiff, Nat.reduceBEq, Int.reduceLT, Int.reduceLE, Int.reduceAdd, Int.reduceSub, Int.reduceMul, Int.reduceToNat, Int.reduceNeg, reduceIte, reduceCtorEq, reduceBEq]
            refine condC_split (fun h5 => ?_) (fun h5 => ?_)
            · simp -implicitDefEqProofs only [push_cast, Int.reduceBEq, Int.reduceBNe, Int.reduceEq, Int.reduceNe, Int.reducePow, Nat.reduceAdd, Nat.reduceMul, Nat.reduceSub, Nat.reduceLT, Nat.reduceLeDiff, Nat.reduceEqDiff, Nat.reduceBEq, Int.reduceLT, Int.reduceLE, Int.reduceAdd, Int.reduceSub, Int.reduceMul, Int.reduceToNat, Int.reduceNeg, reduceIte, reduceCtorEq, reduceBEq]
              rw [packR, hpb (by simpa using h5)]
              exact ⟨_, rfl, by simp [wkL, res2, res1, PV.weak, PV.el]⟩
            · have h5' : X.length + 4 ≤ 65536 := by simp at h5; omega
              have hq4 : IntKind.i64.wrap (IntKind.i64.wrap (Int.tdiv (X.length : Int) 4) + 1) = ((X.length / 4 + 1 : Nat) : Int) := by
                rw [Int.tdiv_eq_ediv_of_nonneg (by omega), wrap_i64_id (n := (X.length : Int) / 4) (by omega) (by omega), wrap_i64_id (by omega) (by omega)]; omega
              simp -implicitDefEqProofs only [push_cast, hq4, Int.reduceBEq, Int.reduceBNe, Int.reduceEq, Int.reduceNe, Int.reducePow, Nat.reduceAdd, Nat.reduceMul, Nat.reduceSub, Nat.reduceLT, Nat.reduceLeDiff, Nat.reduceEqDiff, Nat.reduceBEq, Int.reduceLT, Int.reduceLE, Int.reduceAdd, Int.reduceSub, Int.reduceMul, Int.reduceToNat, Int.reduceNeg, reduceIte, reduceCtorEq, reduceBEq]
              refine callE_pure hh (by rfl) (by rfl) (by rfl) (by decide) (by rfl) (fun _ => by rfl) (by first | rfl | simp [gdOk, newToks]) ?_
              simp -implicitDefEqProofs only [push_cast, Int.reduceBEq, Int.reduceBNe, Int.reduceEq, Int.reduceNe, Int.reducePow, Nat.reduceAdd, Nat.reduceMul, Nat.reduceSub, Nat.reduceLT, Nat.reduceLeDiff, Nat.reduceEqDiff, Nat.reduceBEq, Int.reduceLT, Int.reduceLE, Int.reduceAdd, Int.reduceSub, Int.reduceMul, Int.reduceToNat, Int.reduceNeg, reduceIte, reduceCtorEq, reduceBEq]
              rw [packR, hpo (by omega)]
              (repeat (refine ⟨by first | omega | (simp only [List.length_append]; omega), ?_⟩))
              exact ⟨_, rfl, by simp [wkL, res2, res1, PV.weak, PV.el]⟩
          · rw [fmtR, if_neg (by rw [hE]; simp), if_pos hM] at hm
            have hps := packS_big ho hf hE (by simp at hM; omega)
            refine callE_pure hm (by rfl) (by rfl) (by rfl) (by decide) (by rfl) (fun _ => by rfl) (by first | rfl | simp [gdOk, newToks]) ?_
            simp -implicitDefEqProofs only [push_cast, Int.reduceBEq, Int.reduceBNe, Int.reduceEq, Int.reduceNe, Int.reducePow, Nat.reduceAdd, Nat.reduceMul, Nat.reduceSub, Nat.reduceLT, Nat.reduceLeDiff, Nat.reduceEqDiff, Nat.reduceBEq, Int.reduceLT, Int.reduceLE, Int.reduceAdd, Int.reduceSub, Int.reduceMul, Int.reduceToNat, Int.reduceNeg, reduceIte, reduceCtorEq, reduceBEq]
            rw [packR, hps]
            exact ⟨_, rfl, by simp [wkL, res2, res1, PV.weak, PV.el]⟩
        · rw [fmtR, if_pos hE] at hm
          have hps := packS_err ho hf hE
          refine callE_pure hm (by rfl) (by rfl) (by rfl) (by decide) (by rfl) (fun _ => by rfl) (by first | rfl | simp [gdOk, newToks]) ?_
          simp -implicitDefEqProofs only [push_cast, hE, Int.reduceBEq, Int.reduceBNe, Int.reduceEq, Int.reduceNe, Int.reducePow, Nat.reduceAdd, Nat.reduceMul, Nat.reduceSub, Nat.reduceLT, Nat.reduceLeDiff, Nat.reduceEqDiff, Nat.reduceBEq, Int.reduceLT, Int.reduceLE, Int.reduceAdd, Int.reduceSub, Int.reduceMul, Int.reduceToNat, Int.reduceNeg, reduceIte, reduceCtorEq, reduceBEq]
          rw [packR, hps]
          exact ⟨_, rfl, by simp [wkL, res2, res1, PV.weak, PV.el]⟩
    · have hor : isOrder (1) := by unfold isOrder; omega
      (refine Fsp.of (nx := 0) mixed Tryd.func12 rfl (by decide) (by first | exact Nat.le_refl _ | simp) (by simp [Tryd.f12]) ⟨by decide, by decide⟩ ?_; simp -implicitDefEqProofs only [push_cast, Tryd.f12, Rq.pv, Int.reduceBEq, Int.reduceBNe, Int.reduceEq, Int.reduceNe, Int.reducePow, Nat.reduceAdd, Nat.reduceMul, Nat.reduceSub, Nat.reduceLT, Nat.reduceLeDiff, Nat.reduceEqDiff, Nat.reduceBEq, Int.reduceLT, Int.reduceLE, Int.reduceAdd, Int.reduceSub, Int.reduceMul, Int.reduceToNat, Int.reduceNeg, reduceIte, reduceCtorEq, reduceBEq])
      cases hf : formOf r.C with
      | none =>
        rw [formR, hf] at hq
        simp only [form0] at hq
        refine callE_pure hq (by rfl) (by rfl) (by rfl) (by decide) (by rfl) (fun _ => by rfl) (by first | rfl | simp [gdOk, newToks]) ?_
        simp -implicitDefEqProofs only [push_cast, Int.reduceBEq, Int.reduceBNe, Int.reduceEq, Int.reduceNe, Int.reducePow, Nat.reduceAdd, Nat.reduceMul, Nat.reduceSub, Nat.reduceLT, Nat.reduceLeDiff, Nat.reduceEqDiff, Nat.reduceBEq, Int.reduceLT, Int.reduceLE, Int.reduceAdd, Int.reduceSub, Int.reduceMul, Int.reduceToNat, Int.reduceNeg, reduceIte, reduceCtorEq, reduceBEq]
        simp [packR, packS, ho, hf, wkL, res2, res1, PV.weak, PV.el]
      | some f =>
        rw [formR, hf] at hq
        simp only [formT, Fm.pv] at hq
        obtain ⟨hok, hc1, hc2⟩ := formOf_some hf
        have hm := format_fs hor f hok r.fd hr.n hr.l hr.b
        simp only [Fm.pv, Fd.pv] at hm
        refine callE_pure hq (by rfl) (by rfl) (by rfl) (by decide) (by rfl) (fun _ => by rfl) (by first | rfl | simp [gdOk, newToks]) ?_
        simp -implicitDefEqProofs only [push_cast, Int.reduceBEq, Int.reduceBNe, Int.reduceEq, Int.reduceNe, Int.reducePow, Nat.reduceAdd, Nat.reduceMul, Nat.reduceSub, Nat.reduceLT, Nat.reduceLeDiff, Nat.reduceEqDiff, Nat.reduceBEq, Int.reduceLT, Int.reduceLE, Int.reduceAdd, Int.reduceSub, Int.reduceMul, Int.reduceToNat, Int.reduceNeg, reduceIte, reduceCtorEq, reduceBEq]
        cases hE : (fitsE f r.fd != 0)
        · cases hM : decide ((65536 : Int) < (fmt (1) f r.fd).length)
          · rw [fmtR, if_neg (by rw [hE]; simp), if_neg (by rw [hM]; simp)] at hm
            have hfl : (fmt (1) f r.fd).length ≤ 65536 := by simp at hM; omega
            have hpb := packS_big ho hf hE
            have hpo := packS_ok ho hf hE
            have hh := head_fs hor hc1 hc2 ((fmt (1) f r.fd).length / 4 + 1) (by omega)
            have hdl : (hd (1) r.C ((fmt (1) f r.fd).length / 4 + 1)).length = 4 := by simp [hd, encB_length]
            generalize hH : hd (1) r.C ((fmt (1) f r.fd).length / 4 + 1) = H at *
            generalize hX : fmt (1) f r.fd = X at *
            have hwr : IntKind.i64.wrap ((X.length : Int) + 4) = (X.length : Int) + 4 := by rw [wrap_i64_id (by omega) (by omega)]
            refine callE_pure hm (by rfl) (by rfl) (by rfl) (by decide) (by rfl) (fun _ => by rfl) (by first | rfl | simp [gdOk, newToks]) ?_
            simp -implicitDefEqProofs only [push_cast, hwr, Int.reduceBEq, Int.reduceBNe, Int.reduceEq, Int.reduceNe, Int.reducePow, Nat.reduceAdd, Nat.reduceMul, Nat.reduceSub, Nat.reduceLT, Nat.reduceLeDiff, Nat.reduceEqDiff, Nat.reduceBEq, Int.reduceLT, Int.reduceLE, Int.reduceAdd, Int.reduceSub, Int.reduceMul, Int.reduceToNat, Int.reduceNeg, reduceIte, reduceCtorEq, reduceBEq]
            refine condC_split (fun h5 => ?_) (fun h5 => ?_)
            · simp -implicitDefEqProofs only [push_cast, Int.reduceBEq, Int.reduceBNe, Int.reduceEq, Int.reduceNe, Int.reducePow, Nat.reduceAdd, Nat.reduceMul, Nat.reduceSub, Nat.reduceLT, Nat.reduceLeDiff, Nat.reduceEqDiff, Nat.reduceBEq, Int.reduceLT, Int.reduceLE, Int.reduceAdd, Int.reduceSub, Int.reduceMul, Int.reduceToNat, Int.reduceNeg, reduceIte, reduceCtorEq, reduceBEq]
              rw [packR, hpb (by simpa using h5)]
              exact ⟨_, rfl, by simp [wkL, res2, res1, PV.weak, PV.el]⟩
            · have h5' : X.length + 4 ≤ 65536 := by simp at h5; omega
              have hq4 : IntKind.i64.wrap (IntKind.i64.wrap (Int.tdiv (X.length : Int) 4) + 1) = ((X.length / 4 + 1 : Nat) : Int) := by
                rw [Int.tdiv_eq_ediv_of_nonneg (by omega), wrap_i64_id (n := (X.length : Int) / 4) (by omega) (by omega), wrap_i64_id (by omega) (by omega)]; omega
              simp -implicitDefEqProofs only [push_cast, hq4, Int.reduceBEq, Int.reduceBNe, Int.reduceEq, Int.reduceNe, Int.reducePow, Nat.reduceAdd, Nat.reduceMul, Nat.reduceSub, Nat.reduceLT, Nat.reduceLeDiff, Nat.reduceEqDiff, Nat.reduceBEq, Int.reduceLT, Int.reduceLE, Int.reduceAdd, Int.reduceSub, Int.reduceMul, Int.reduceToNat, Int.reduceNeg, reduceIte, reduceCtorEq, reduceBEq]
              refine callE_pure hh (by rfl) (by rfl) (by rfl) (by decide) (by rfl) (fun _ => by rfl) (by first | rfl | simp [gdOk, newToks]) ?_
              simp -implicitDefEqProofs only [push_cast, Int.reduceBEq, Int.reduceBNe, Int.reduceEq, Int.reduceNe, Int.reducePow, Nat.reduceAdd, Nat.reduceMul, Nat.reduceSub, Nat.reduceLT, Nat.reduceLeDiff, Nat.reduceEqDiff, Nat.reduceBEq, Int.reduceLT, Int.reduceLE, Int.reduceAdd, Int.reduceSub, Int.reduceMul, Int.reduceToNat, Int.reduceNeg, reduceIte, reduceCtorEq, reduceBEq]
              rw [packR, hpo (by omega)]
              (repeat (refine ⟨by first | omega | (simp only [List.length_append]; omega), ?_⟩))
              exact ⟨_, rfl, by simp [wkL, res2, res1, PV.weak, PV.el]⟩
          · rw [fmtR, if_neg (by rw [hE]; simp), if_pos hM] at hm
            have hps := packS_big ho hf hE (by simp at hM; omega)
            refine callE_pure hm (by rfl) (by rfl) (by rfl) (by decide) (by rfl) (fun _ => by rfl) (by first | rfl | simp [gdOk, newToks]) ?_
            simp -implicitDefEqProofs only [push_cast, Int.reduceBEq, Int.reduceBNe, Int.reduceEq, Int.reduceNe, Int.reducePow, Nat.reduceAdd, Nat.reduceMul, Nat.reduceSub, Nat.reduceLT, Nat.reduceLeDiff, Nat.reduceEqDiff, Nat.reduceBEq, Int.reduceLT, Int.reduceLE, Int.reduceAdd, Int.reduceSub, Int.reduceMul, Int.reduceToNat, Int.reduceNeg, reduceIte, reduceCtorEq, reduceBEq]
            rw [packR, hps]
            exact ⟨_, rfl, by simp [wkL, res2, res1, PV.weak, PV.el]⟩
        · rw [fmtR, if_pos hE] at hm
          have hps := packS_err ho hf hE
          refine callE_pure hm (by rfl) (by rfl) (by rfl) (by decide) (by rfl) (fun _ => by rfl) (by first | rfl | simp [gdOk, newToks]) ?_
          simp -implicitDefEqProofs only [push_cast, hE, Int.reduceBEq, Int.reduceBNe, Int.reduceEq, Int.reduceNe, Int.reducePow, Nat.reduceAdd, Nat.reduceMul, Nat.reduceSub, Nat.reduceLT, Nat.reduceLeDiff, Nat.reduceEqDiff, Nat.reduceBEq, Int.reduceLT, Int.reduceLE, Int.reduceAdd, Int.reduceSub, Int.reduceMul, Int.reduceToNat, Int.reduceNeg, reduceIte, reduceCtorEq, reduceBEq]
          rw [packR, hps]
          exact ⟨_, rfl, by simp [wkL, res2, res1, PV.weak, PV.el]⟩

set_option maxHeartbeats 2000000 in
theorem packPuts_fs (o : Int) (r : Rq) : Fsp Tryd.prog 4 [] 0 [.int .i64 o, r.pv] [] 0 (.bool true) := by
  have hfw := few_fs r
  simp only [Rq.pv] at hfw
  (refine Fsp.of (nx := 0) mixed Tryd.func4 rfl (by decide) (by first | exact Nat.le_refl _ | simp) (by simp [Tryd.f4]) ⟨by decide, by decide⟩ ?_; simp -implicitDefEqProofs only [push_cast, Tryd.f4, Rq.pv, Int.reduceBEq, Int.reduceBNe, Int.reduceEq, Int.reduceNe, Int.reducePow, Nat.reduceAdd, Nat.reduceMul, Nat.reduceSub, Nat.reduceLT, Nat.reduceLeDiff, Nat.reduceEqDiff, Nat.reduceBEq, Int.reduceLT, Int.reduceLE, Int.reduceAdd, Int.reduceSub, Int.reduceMul, Int.reduceToNat, Int.reduceNeg, reduceIte, reduceCtorEq, reduceBEq])
  refine callE_pure hfw (by rfl) (by rfl) (by rfl) (by decide) (by rfl) (fun _ => by rfl) (by first | rfl | simp [gdOk, newToks]) ?_
  simp -implicitDefEqProofs only [push_cast, Int.reduceBEq, Int.reduceBNe, Int.reduceEq, Int.reduceNe, Int.reducePow, Nat.reduceAdd, Nat.reduceMul, Nat.reduceSub, Nat.reduceLT, Nat.reduceLeDiff, Nat.reduceEqDiff, Nat.reduceBEq, Int.reduceLT, Int.reduceLE, Int.reduceAdd, Int.reduceSub, Int.reduceMul, Int.reduceToNat, Int.reduceNeg, reduceIte, reduceCtorEq, reduceBEq]
  cases hb : isFew r
  · simp -implicitDefEqProofs only [push_cast, hb, Int.reduceBEq, Int.reduceBNe, Int.reduceEq, Int.reduceNe, Int.reducePow, Nat.reduceAdd, Nat.reduceMul, Nat.reduceSub, Nat.reduceLT, Nat.reduceLeDiff, Nat.reduceEqDiff, Nat.reduceBEq, Int.reduceLT, Int.reduceLE, Int.reduceAdd, Int.reduceSub, Int.reduceMul, Int.reduceToNat, Int.reduceNeg, reduceIte, reduceCtorEq, reduceBEq]
    refine callE_pure awake_fs (by rfl) (by rfl) (by rfl) (by decide) (by rfl) (fun _ => by rfl) (by first | rfl | simp [gdOk, newToks]) ?_
    simp -implicitDefEqProofs only [push_cast, hb, Int.reduceBEq, Int.reduceBNe, Int.reduceEq, Int.reduceNe, Int.reducePow, Nat.reduceAdd, Nat.reduceMul, Nat.reduceSub, Nat.reduceLT, Nat.reduceLeDiff, Nat.reduceEqDiff, Nat.reduceBEq, Int.reduceLT, Int.reduceLE, Int.reduceAdd, Int.reduceSub, Int.reduceMul, Int.reduceToNat, Int.reduceNeg, reduceIte, reduceCtorEq, reduceBEq]
  · have hr : r.Few := by
      simp only [isFew, Bool.and_eq_true, decide_eq_true_eq] at hb
      exact ⟨by omega, by omega, by omega⟩
    have h1 := packPut_fs o r hr
    have h2 := lawPut_fs o r hr
    have h3 := lawPut_fs 0 r hr
    have h4 := check_fs2 r hr
    simp only [Rq.pv, packR] at h1 h2 h3 h4
    generalize packS o r = po at *
    generalize packS 0 r = p0 at *
    simp -implicitDefEqProofs only [push_cast, hb, Int.reduceBEq, Int.reduceBNe, Int.reduceEq, Int.reduceNe, Int.reducePow, Nat.reduceAdd, Nat.reduceMul, Nat.reduceSub, Nat.reduceLT, Nat.reduceLeDiff, Nat.reduceEqDiff, Nat.reduceBEq, Int.reduceLT, Int.reduceLE, Int.reduceAdd, Int.reduceSub, Int.reduceMul, Int.reduceToNat, Int.reduceNeg, reduceIte, reduceCtorEq, reduceBEq]
    refine callE_pure h1 (by rfl) (by rfl) (by rfl) (by decide) (by rfl) (fun _ => by rfl) (by first | rfl | simp [gdOk, newToks]) ?_
    simp -implicitDefEqProofs only [push_cast, Int.reduceBEq, Int.reduceBNe, Int.reduceEq, Int.reduceNe, Int.reducePow, Nat.reduceAdd, Nat.reduceMul, Nat.reduceSub, Nat.reduceLT, Nat.reduceLeDiff, Nat.reduceEqDiff, Nat.reduceBEq, Int.reduceLT, Int.reduceLE, Int.reduceAdd, Int.reduceSub, Int.reduceMul, Int.reduceToNat, Int.reduceNeg, reduceIte, reduceCtorEq, reduceBEq]
    refine callE_pure h2 (by rfl) (by rfl) (by rfl) (by decide) (by rfl) (fun _ => by rfl) (by first | rfl | simp [gdOk, newToks]) ?_
    simp -implicitDefEqProofs only [push_cast, Int.reduceBEq, Int.reduceBNe, Int.reduceEq, Int.reduceNe, Int.reducePow, Nat.reduceAdd, Nat.reduceMul, Nat.reduceSub, Nat.reduceLT, Nat.reduceLeDiff, Nat.reduceEqDiff, Nat.reduceBEq, Int.reduceLT, Int.reduceLE, Int.reduceAdd, Int.reduceSub, Int.reduceMul, Int.reduceToNat, Int.reduceNeg, reduceIte, reduceCtorEq, reduceBEq]
    refine callE_pure h3 (by rfl) (by rfl) (by rfl) (by decide) (by rfl) (fun _ => by rfl) (by first | rfl | simp [gdOk, newToks]) ?_
    simp -implicitDefEqProofs only [push_cast, Int.reduceBEq, Int.reduceBNe, Int.reduceEq, Int.reduceNe, Int.reducePow, Nat.reduceAdd, Nat.reduceMul, Nat.reduceSub, Nat.reduceLT, Nat.reduceLeDiff, Nat.reduceEqDiff, Nat.reduceBEq, Int.reduceLT, Int.reduceLE, Int.reduceAdd, Int.reduceSub, Int.reduceMul, Int.reduceToNat, Int.reduceNeg, reduceIte, reduceCtorEq, reduceBEq]
    refine callE_pure h4 (by rfl) (by rfl) (by rfl) (by decide) (by rfl) (fun _ => by rfl) (by first | rfl | simp [gdOk, newToks]) ?_
    simp -implicitDefEqProofs only [push_cast, Int.reduceBEq, Int.reduceBNe, Int.reduceEq, Int.reduceNe, Int.reducePow, Nat.reduceAdd, Nat.reduceMul, Nat.reduceSub, Nat.reduceLT, Nat.reduceLeDiff, Nat.reduceEqDiff, Nat.reduceBEq, Int.reduceLT, Int.reduceLE, Int.reduceAdd, Int.reduceSub, Int.reduceMul, Int.reduceToNat, Int.reduceNeg, reduceIte, reduceCtorEq, reduceBEq]
    refine callE_pure awake_fs (by rfl) (by rfl) (by rfl) (by decide) (by rfl) (fun _ => by rfl) (by first | rfl | simp [gdOk, newToks]) ?_
    simp -implicitDefEqProofs only [push_cast, Int.reduceBEq, Int.reduceBNe, Int.reduceEq, Int.reduceNe, Int.reducePow, Nat.reduceAdd, Nat.reduceMul, Nat.reduceSub, Nat.reduceLT, Nat.reduceLeDiff, Nat.reduceEqDiff, Nat.reduceBEq, Int.reduceLT, Int.reduceLE, Int.reduceAdd, Int.reduceSub, Int.reduceMul, Int.reduceToNat, Int.reduceNeg, reduceIte, reduceCtorEq, reduceBEq]

end Go.Proofs.Sh
