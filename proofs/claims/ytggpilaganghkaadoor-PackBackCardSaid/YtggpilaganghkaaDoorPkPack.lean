/- Package pack: Put, Check. -/
import Derived.Test.YtggpilaganghkaaDoorPkCode
set_option maxRecDepth 100000
set_option linter.unusedSimpArgs false
set_option linter.unusedVariables false
namespace Go.Proofs.Sh
open Go.Pv


/-- A request. -/
structure Rq where
  C : Int
  N : List Int
  B : List UInt8
  L : List Int
def Rq.fd (r : Rq) : Fd := ⟨r.N, r.B, r.L⟩
def Rq.pv (r : Rq) : PV := .agg [.int .i64 r.C, .sl 1 (ints r.N), .str r.B, .sl 1 (ints r.L)]
structure Rq.Few (r : Rq) : Prop where
  n : r.N.length ≤ 1000000
  b : r.B.length ≤ 1000000
  l : r.L.length ≤ 1000000
def isOrd (o : Int) : Bool := o == 0 || o == 1
theorem isOrd_of {o : Int} (h : isOrd o = true) : isOrder o := by simpa [isOrd, isOrder] using h
/-- What stands ahead of the fields. -/
def hd (o C : Int) (n : Nat) : List UInt8 := encB o 1 C ++ encB o 1 0 ++ encB o 2 (n : Int)
/-- A request's bytes, and what is wrong with it. -/
def packS (o : Int) (r : Rq) : List UInt8 × Int :=
  if isOrd o = true then
    match formOf r.C with
    | none => ([], 10)
    | some f =>
      if (fitsE f r.fd != 0) = true then ([], fitsE f r.fd)
      else if decide ((65536 : Int) < (fmt o f r.fd).length + 4) = true then ([], 4)
      else (hd o r.C ((fmt o f r.fd).length / 4 + 1) ++ fmt o f r.fd, 0)
  else ([], 8)
def packR (o : Int) (r : Rq) : PV := .tup [.str (packS o r).1, .int .i64 (packS o r).2]
theorem pknown_fs (o : Int) : Fsp Tryd.prog 20 [] 0 [.int .i64 o] [] 0 (.bool (isOrd o)) := by
  cases h0 : (o == 0)
  · (refine Fsp.of (nx := 0) mixed Tryd.func20 rfl (by decide) (by first | exact Nat.le_refl _ | simp) (by simp [Tryd.f20]) ⟨by decide, by decide⟩ ?_; simp -implicitDefEqProofs only [push_cast, Tryd.f20, h0, Int.reduceBEq, Int.reduceBNe, Int.reduceEq, Int.reduceNe, Int.reducePow, Nat.reduceAdd, Nat.reduceMul, Nat.reduceSub, Nat.reduceLT, Nat.reduceLeDiff, Nat.reduceEqDiff, Nat.reduceBEq, Int.reduceLT, Int.reduceLE, Int.reduceAdd, Int.reduceSub, Int.reduceMul, Int.reduceToNat, Int.reduceNeg, reduceIte, reduceCtorEq, reduceBEq])
    simp [isOrd, h0]
  · (refine Fsp.of (nx := 0) mixed Tryd.func20 rfl (by decide) (by first | exact Nat.le_refl _ | simp) (by simp [Tryd.f20]) ⟨by decide, by decide⟩ ?_; simp -implicitDefEqProofs only [push_cast, Tryd.f20, h0, Int.reduceBEq, Int.reduceBNe, Int.reduceEq, Int.reduceNe, Int.reducePow, Nat.reduceAdd, Nat.reduceMul, Nat.reduceSub, Nat.reduceLT, Nat.reduceLeDiff, Nat.reduceEqDiff, Nat.reduceBEq, Int.reduceLT, Int.reduceLE, Int.reduceAdd, Int.reduceSub, Int.reduceMul, Int.reduceToNat, Int.reduceNeg, reduceIte, reduceCtorEq, reduceBEq])
    simp [isOrd, h0]
theorem sum_fs (a b : List UInt8) (h : a.length + b.length ≤ 1000000000) : Fsp Tryd.prog 24 [] 0 [.sl 1 [.str a, .str b]] [] 0 (.int .i64 (a.length + b.length : Nat)) := by
  (refine Fsp.of (nx := 0) mixed Tryd.func24 rfl (by decide) (by first | exact Nat.le_refl _ | simp) (by simp [Tryd.f24]) ⟨by decide, by decide⟩ ?_; simp -implicitDefEqProofs only [push_cast, Tryd.f24, Int.reduceBEq, Int.reduceBNe, Int.reduceEq, Int.reduceNe, Int.reducePow, Nat.reduceAdd, Nat.reduceMul, Nat.reduceSub, Nat.reduceLT, Nat.reduceLeDiff, Nat.reduceEqDiff, Nat.reduceBEq, Int.reduceLT, Int.reduceLE, Int.reduceAdd, Int.reduceSub, Int.reduceMul, Int.reduceToNat, Int.reduceNeg, reduceIte, reduceCtorEq, reduceBEq])
  refine loopC_un 3 ?_
  simp -implicitDefEqProofs only [push_cast, Int.reduceBEq, Int.reduceBNe, Int.reduceEq, Int.reduceNe, Int.reducePow, Nat.reduceAdd, Nat.reduceMul, Nat.reduceSub, Nat.reduceLT, Nat.reduceLeDiff, Nat.reduceEqDiff, Nat.reduceBEq, Int.reduceLT, Int.reduceLE, Int.reduceAdd, Int.reduceSub, Int.reduceMul, Int.reduceToNat, Int.reduceNeg, reduceIte, reduceCtorEq, reduceBEq]
  rw [Int.zero_add, wrap_i64_id (n := (a.length : Int)) (by omega) (by omega), wrap_i64_id (by omega) (by omega)]
  try omega
theorem putS_2 {o : Int} {n : Nat} (h : n ≤ 65535) : putS o 2 (n : Int) = encB o 2 (n : Int) ∧ putE 2 (n : Int) = 0 := by
  have hf : fitsN 2 (n : Int) = true := by simp [fitsN, low, high]; omega
  rw [putS, putE, if_pos hf, if_pos hf]
  exact ⟨rfl, rfl⟩
theorem rowS_1 {o C : Int} (h0 : 1 ≤ C) (h1 : C ≤ 58) : rowS o C 0 = encB o 1 C ++ encB o 1 0 ∧ rowE C 0 = 0 := by
  have hf : (fitsN 1 C && fitsN 1 0) = true := by simp [fitsN, low, high]; omega
  rw [rowS, rowE, if_pos hf, if_pos hf]
  exact ⟨rfl, rfl⟩
theorem packS_some {o : Int} {r : Rq} {f : Fm} (ho : isOrd o = true) (hf : formOf r.C = some f) : packS o r =
      if (fitsE f r.fd != 0) = true then ([], fitsE f r.fd)
      else if decide ((65536 : Int) < (fmt o f r.fd).length + 4) = true then ([], 4)
      else (hd o r.C ((fmt o f r.fd).length / 4 + 1) ++ fmt o f r.fd, 0) := by
  rw [packS, if_pos ho]
  split
  · rename_i h; rw [hf] at h; cases h
  · rename_i f' h; rw [hf] at h; cases h; rfl
theorem packS_err {o : Int} {r : Rq} {f : Fm} (ho : isOrd o = true) (hf : formOf r.C = some f) (hE : (fitsE f r.fd != 0) = true) : packS o r = ([], fitsE f r.fd) := by rw [packS_some ho hf, if_pos hE]
theorem packS_big {o : Int} {r : Rq} {f : Fm} (ho : isOrd o = true) (hf : formOf r.C = some f) (hE : (fitsE f r.fd != 0) = false) (h : (65536 : Int) < (fmt o f r.fd).length + 4) : packS o r = ([], 4) := by
  rw [packS_some ho hf, if_neg (by rw [hE]; simp), if_pos (by simpa using h)]
theorem packS_ok {o : Int} {r : Rq} {f : Fm} (ho : isOrd o = true) (hf : formOf r.C = some f) (hE : (fitsE f r.fd != 0) = false) (h : (fmt o f r.fd).length + 4 ≤ 65536) :
    packS o r = (hd o r.C ((fmt o f r.fd).length / 4 + 1) ++ fmt o f r.fd, 0) := by
  rw [packS_some ho hf, if_neg (by rw [hE]; simp), if_neg (by simp; omega)]
set_option maxHeartbeats 2000000 in
theorem packPut_fs (o : Int) (r : Rq) (hr : r.Few) : Fsp Tryd.prog 9 [] 0 [.int .i64 o, r.pv] [] 0 (packR o r) := by
  have hk := pknown_fs o
  (refine Fsp.of (nx := 0) mixed Tryd.func9 rfl (by decide) (by first | exact Nat.le_refl _ | simp) (by simp [Tryd.f9]) ⟨by decide, by decide⟩ ?_; simp -implicitDefEqProofs only [push_cast, Tryd.f9, Rq.pv, Int.reduceBEq, Int.reduceBNe, Int.reduceEq, Int.reduceNe, Int.reducePow, Nat.reduceAdd, Nat.reduceMul, Nat.reduceSub, Nat.reduceLT, Nat.reduceLeDiff, Nat.reduceEqDiff, Nat.reduceBEq, Int.reduceLT, Int.reduceLE, Int.reduceAdd, Int.reduceSub, Int.reduceMul, Int.reduceToNat, Int.reduceNeg, reduceIte, reduceCtorEq, reduceBEq])
  refine callE_pure hk (by rfl) (by rfl) (by rfl) (by decide) (by rfl) (fun _ => by rfl) (by first | rfl | simp [gdOk, newToks]) ?_
  cases ho : isOrd o
  · simp -implicitDefEqProofs only [push_cast, ho, Int.reduceBEq, Int.reduceBNe, Int.reduceEq, Int.reduceNe, Int.reducePow, Nat.reduceAdd, Nat.reduceMul, Nat.reduceSub, Nat.reduceLT, Nat.reduceLeDiff, Nat.reduceEqDiff, Nat.reduceBEq, Int.reduceLT, Int.reduceLE, Int.reduceAdd, Int.reduceSub, Int.reduceMul, Int.reduceToNat, Int.reduceNeg, reduceIte, reduceCtorEq, reduceBEq]
    simp [packR, packS, ho, wkL, res2, res1, PV.weak, PV.el]
  · have hor := isOrd_of ho
    have hq := request_fs r.C
    simp -implicitDefEqProofs only [push_cast, ho, Int.reduceBEq, Int.reduceBNe, Int.reduceEq, Int.reduceNe, Int.reducePow, Nat.reduceAdd, Nat.reduceMul, Nat.reduceSub, Nat.reduceLT, Nat.reduceLeDiff, Nat.reduceEqDiff, Nat.reduceBEq, Int.reduceLT, Int.reduceLE, Int.reduceAdd, Int.reduceSub, Int.reduceMul, Int.reduceToNat, Int.reduceNeg, reduceIte, reduceCtorEq, reduceBEq]
    cases hf : formOf r.C with
    | none =>
      rw [formR, hf] at hq
      simp only [form0] at hq
      refine callE_pure hq (by rfl) (by rfl) (by rfl) (by decide) (by rfl) (fun _ => by rfl) (by first | rfl | simp [gdOk, newToks]) ?_
      simp -implicitDefEqProofs only [push_cast, Int.reduceBEq, Int.reduceBNe, Int.reduceEq, Int.reduceNe, Int.reducePow, Nat.reduceAdd, Nat.reduceMul, Nat.reduceSub, Nat.reduceLT, Nat.reduceLeDiff, Nat.reduceEqDiff, Nat.reduceBEq, Int.reduceLT, Int.reduceLE, Int.reduceAdd, Int.reduceSub, Int.reduceMul, Int.reduceToNat, Int.reduceNeg, reduceIte, reduceCtorEq, reduceBEq]
      simp [packR, packS, ho, hf, wkL, res2, res1, PV.weak, PV.el]
    | some f =>
      rw [formR, hf] at hq
      simp only [formT, Fm.pv] at hq
      obtain ⟨hok, hc1, hc2⟩ := formOf_some hf
      have hm := format_fs hor f hok r.fd hr.n hr.l hr.b
      simp only [Fm.pv, Fd.pv] at hm
      refine callE_pure hq (by rfl) (by rfl) (by rfl) (by decide) (by rfl) (fun _ => by rfl) (by first | rfl | simp [gdOk, newToks]) ?_
      simp -implicitDefEqProofs only [push_cast, Int.reduceBEq, Int.reduceBNe, Int.reduceEq, Int.reduceNe, Int.reducePow, Nat.reduceAdd, Nat.reduceMul, Nat.reduceSub, Nat.reduceLT, Nat.reduceLeDiff, Nat.reduceEqDiff, Nat.reduceBEq, Int.reduceLT, Int.reduceLE, Int.reduceAdd, Int.reduceSub, Int.reduceMul, Int.reduceToNat, Int.reduceNeg, reduceIte, reduceCtorEq, reduceBEq]
      cases hE : (fitsE f r.fd != 0)
      · cases hM : decide ((65536 : Int) < (fmt o f r.fd).length)
        · rw [fmtR, if_neg (by rw [hE]; simp), if_neg (by rw [hM]; simp)] at hm
          have hfl : (fmt o f r.fd).length ≤ 65536 := by simp at hM; omega
          have hrw := row_fs hor r.C 0
          rw [(rowS_1 hc1 hc2).1, (rowS_1 (o := o) hc1 hc2).2] at hrw
          have hr2 : (encB o 1 r.C ++ encB o 1 0).length = 2 := by simp [encB_length]
          have hsm := sum_fs (encB o 1 r.C ++ encB o 1 0) (fmt o f r.fd) (by omega)
          have hpb := packS_big ho hf hE
          have hpo := packS_ok ho hf hE
          generalize hX : fmt o f r.fd = X at *
          generalize hH : encB o 1 r.C ++ encB o 1 0 = H at *
          refine callE_pure hm (by rfl) (by rfl) (by rfl) (by decide) (by rfl) (fun _ => by rfl) (by first | rfl | simp [gdOk, newToks]) ?_
          simp -implicitDefEqProofs only [push_cast, Int.reduceBEq, Int.reduceBNe, Int.reduceEq, Int.reduceNe, Int.reducePow, Nat.reduceAdd, Nat.reduceMul, Nat.reduceSub, Nat.reduceLT, Nat.reduceLeDiff, Nat.reduceEqDiff, Nat.reduceBEq, Int.reduceLT, Int.reduceLE, Int.reduceAdd, Int.reduceSub, Int.reduceMul, Int.reduceToNat, Int.reduceNeg, reduceIte, reduceCtorEq, reduceBEq]
          refine callE_pure hrw (by rfl) (by rfl) (by rfl) (by decide) (by rfl) (fun _ => by rfl) (by first | rfl | simp [gdOk, newToks]) ?_
          simp -implicitDefEqProofs only [push_cast, Int.reduceBEq, Int.reduceBNe, Int.reduceEq, Int.reduceNe, Int.reducePow, Nat.reduceAdd, Nat.reduceMul, Nat.reduceSub, Nat.reduceLT, Nat.reduceLeDiff, Nat.reduceEqDiff, Nat.reduceBEq, Int.reduceLT, Int.reduceLE, Int.reduceAdd, Int.reduceSub, Int.reduceMul, Int.reduceToNat, Int.reduceNeg, reduceIte, reduceCtorEq, reduceBEq]
          refine callE_pure hsm (by rfl) (by rfl) (by rfl) (by decide) (by rfl) (fun _ => by rfl) (by first | rfl | simp [gdOk, newToks]) ?_
          simp -implicitDefEqProofs only [push_cast, Int.reduceBEq, Int.reduceBNe, Int.reduceEq, Int.reduceNe, Int.reducePow, Nat.reduceAdd, Nat.reduceMul, Nat.reduceSub, Nat.reduceLT, Nat.reduceLeDiff, Nat.reduceEqDiff, Nat.reduceBEq, Int.reduceLT, Int.reduceLE, Int.reduceAdd, Int.reduceSub, Int.reduceMul, Int.reduceToNat, Int.reduceNeg, reduceIte, reduceCtorEq, reduceBEq]
          rw [show IntKind.i64.wrap ((H.length : Int) + (X.length : Int) + 2) = (X.length : Int) + 4 by rw [wrap_i64_id (by omega) (by omega)]; omega]
          refine condC_split (fun h5 => ?_) (fun h5 => ?_)
          · simp -implicitDefEqProofs only [push_cast, Int.reduceBEq, Int.reduceBNe, Int.reduceEq, Int.reduceNe, Int.reducePow, Nat.reduceAdd, Nat.reduceMul, Nat.reduceSub, Nat.reduceLT, Nat.reduceLeDiff, Nat.reduceEqDiff, Nat.reduceBEq, Int.reduceLT, Int.reduceLE, Int.reduceAdd, Int.reduceSub, Int.reduceMul, Int.reduceToNat, Int.reduceNeg, reduceIte, reduceCtorEq, reduceBEq]
            rw [packR, hpb (by simpa using h5)]
            exact ⟨_, rfl, by simp [wkL, res2, res1, PV.weak, PV.el]⟩
          · have h5' : X.length + 4 ≤ 65536 := by simp at h5; omega
            have hpt := put_fs hor (s := 2) (by unfold isSize; omega) ((X.length / 4 + 1 : Nat) : Int)
            rw [(putS_2 (o := o) (n := X.length / 4 + 1) (by omega)).1, (putS_2 (o := o) (n := X.length / 4 + 1) (by omega)).2] at hpt
            have hq4 : IntKind.i64.wrap (Int.tdiv ((X.length : Int) + 4) 4) = ((X.length / 4 + 1 : Nat) : Int) := by
              rw [Int.tdiv_eq_ediv_of_nonneg (by omega), wrap_i64_id (by omega) (by omega)]; omega
            simp -implicitDefEqProofs only [push_cast, hq4, Int.reduceBEq, Int.reduceBNe, Int.reduceEq, Int.reduceNe, Int.reducePow, Nat.reduceAdd, Nat.reduceMul, Nat.reduceSub, Nat.reduceLT, Nat.reduceLeDiff, Nat.reduceEqDiff, Nat.reduceBEq, Int.reduceLT, Int.reduceLE, Int.reduceAdd, Int.reduceSub, Int.reduceMul, Int.reduceToNat, Int.reduceNeg, reduceIte, reduceCtorEq, reduceBEq]
            refine callE_pure hpt (by rfl) (by rfl) (by rfl) (by decide) (by rfl) (fun _ => by rfl) (by first | rfl | simp [gdOk, newToks]) ?_
            simp -implicitDefEqProofs only [push_cast, Int.reduceBEq, Int.reduceBNe, Int.reduceEq, Int.reduceNe, Int.reducePow, Nat.reduceAdd, Nat.reduceMul, Nat.reduceSub, Nat.reduceLT, Nat.reduceLeDiff, Nat.reduceEqDiff, Nat.reduceBEq, Int.reduceLT, Int.reduceLE, Int.reduceAdd, Int.reduceSub, Int.reduceMul, Int.reduceToNat, Int.reduceNeg, reduceIte, reduceCtorEq, reduceBEq]
            rw [packR, hpo (by omega), hd, hH, show (((X.length / 4 + 1 : Nat)) : Int) = (X.length : Int) / 4 + 1 by omega]
            have he2 := encB_length o 2 ((X.length : Int) / 4 + 1)
            (repeat (refine ⟨by first | omega | (simp only [List.length_append]; omega), ?_⟩))
            exact ⟨_, rfl, by simp [wkL, res2, res1, PV.weak, PV.el]⟩
        · rw [fmtR, if_neg (by rw [hE]; simp), if_pos hM] at hm
          have hps := packS_big ho hf hE (by simp at hM; omega)
          refine callE_pure hm (by rfl) (by rfl) (by rfl) (by decide) (by rfl) (fun _ => by rfl) (by first | rfl | simp [gdOk, newToks]) ?_
          simp -implicitDefEqProofs only [push_cast, Int.reduceBEq, Int.reduceBNe, Int.reduceEq, Int.reduceNe, Int.reducePow, Nat.reduceAdd, Nat.reduceMul, Nat.reduceSub, Nat.reduceLT, Nat.reduceLeDiff, Nat.reduceEqDiff, Nat.reduceBEq, Int.reduceLT, Int.reduceLE, Int.reduceAdd, Int.reduceSub, Int.reduceMul, Int.reduceToNat, Int.reduceNeg, reduceIte, reduceCtorEq, reduceBEq]
          rw [packR, hps]
          exact ⟨_, rfl, by simp [wkL, res2, res1, PV.weak, PV.el]⟩
      · rw [fmtR, if_pos hE] at hm
        have hps := packS_err ho hf hE
        refine callE_pure hm (by rfl) (by rfl) (by rfl) (by decide) (by rfl) (fun _ => by rfl) (by first | rfl | simp [gdOk, newToks]) ?_
        simp -implicitDefEqProofs only [push_cast, hE, Int.reduceBEq, Int.reduceBNe, Int.reduceEq, Int.reduceNe, Int.reducePow, Nat.reduceAdd, Nat.reduceMul, Nat.reduceSub, Nat.reduceLT, Nat.reduceLeDiff, Nat.reduceEqDiff, Nat.reduceBEq, Int.reduceLT, Int.reduceLE, Int.reduceAdd, Int.reduceSub, Int.reduceMul, Int.reduceToNat, Int.reduceNeg, reduceIte, reduceCtorEq, reduceBEq]
        rw [packR, hps]
        exact ⟨_, rfl, by simp [wkL, res2, res1, PV.weak, PV.el]⟩

end Go.Proofs.Sh
