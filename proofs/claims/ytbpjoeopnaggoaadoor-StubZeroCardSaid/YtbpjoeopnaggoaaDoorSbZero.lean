/- StubZero. -/
import Derived.Test.YtbpjoeopnaggoaaDoorSbWide
set_option maxRecDepth 100000
set_option linter.unusedSimpArgs false
set_option linter.unusedVariables false
namespace Go.Proofs.Sh
open Go.Pv

theorem feedDead_fs (s : Sb) (b : List UInt8) (hc : s.c = 0) : Fsp Tryd.prog 22 [] 0 [s.pv, .str b] [] 0 (.tup [s.pv, .nilsl, .int .i64 20]) := by
  obtain ⟨so, sc, sd, sn, sl, st, sout, scame, q, m⟩ := s
  simp only at hc
  subst hc
  cases m <;> ((refine Fsp.of (nx := 0) mixed Tryd.func22 rfl (by decide) (by first | exact Nat.le_refl _ | simp) (by simp [Tryd.f22]) ⟨by decide, by decide⟩ ?_; simp -implicitDefEqProofs only [push_cast, Tryd.f22, Sb.pv, Sb.cs, Sb.mpv, Int.reduceBEq, Int.reduceBNe, Int.reduceEq, Int.reduceNe, Int.reducePow, Nat.reduceAdd, Nat.reduceMul, Nat.reduceSub, Nat.reduceLT, Nat.reduceLeDiff, Nat.reduceEqDiff, Nat.reduceBEq, Int.reduceLT, Int.reduceLE, Int.reduceAdd, Int.reduceSub, Int.reduceMul, Int.reduceToNat, Int.reduceNeg, reduceIte, reduceCtorEq, reduceBEq])) <;> (exact ⟨_, rfl, by simp [wkL, res2, res1, PV.weak, PV.el]⟩)
def zst : PV := .agg [.int .i64 0, .int .i64 0, .bool false, .int .i64 0, .int .i64 0, .int .i64 0, .str [], .str [], .nilsl, .nilm]
theorem zst_nl : nlV zst (.agg [.int .i64 0, .int .i64 0, .bool false, .int .i64 0, .int .i64 0, .int .i64 0, .str [], .str [], .sl 1 [], .nilm]) := nlV_agg (by simp [nlCs, nlC])
theorem fewN_one (r : Rq) : fewN [⟨[r], []⟩] = 1 + fr r := by simp [fewN, psum, fA]
set_option maxHeartbeats 4000000 in
theorem stubZero_fs (r : Rq) (b : List UInt8) (hr : r.Wide) (hb : b.length ≤ 1000000000000000) : Fsp Tryd.prog 6 [] 0 [r.pv, .str b] [] 0 (.bool true) := by
  obtain ⟨h1, h3, h2⟩ := hr
  have hk := fewN_one r
  have hrl : fr r ≤ 100000000000000000 := by rw [fr]; omega
  have hf := fewW_fs [⟨[r], []⟩] (fun a ha => by
    obtain rfl := List.mem_singleton.1 ha
    exact ⟨by simp, by simp, fun x hx => by obtain rfl := List.mem_singleton.1 hx; exact ⟨h1, h3, h2⟩, fun x hx => by cases hx⟩) (by simp)
  rw [hk, wrap_i64_id (by omega) (by omega)] at hf
  have hp : r.pv = .agg [.int .i64 r.C, .sl 1 (ints r.N), .str r.B, .sl 1 (ints r.L)] := rfl
  simp only [acL, List.map, Ac.pv, rqL, oL] at hf
  rw [hp] at hf
  have hf := hf.takes (qs := [.sl 2 [.agg [.sl 4 [.agg [.int .i64 r.C, .sl 1 (ints r.N), .str r.B, .sl 1 (ints r.L)]], .nilsl]]]) rfl (fun i q p h1 h2 g v r => by
      rcases i with _ | i
      · simp at h1 h2; subst h1; subst h2
        refine Rel.nlRow ?_ ?_ ?_ r
        · rfl
        · simp [nlCs, nlC, PV.cells]
        · simp [PV.cells]
      · simp at h1)
  have hfb : ((1 + fr r : Nat) : Int) = 1 + (fr r : Int) := by omega
  cases k1 : decide ((3000 : Int) < (b.length : Int))
  · cases k2 : decide (((1 + fr r : Nat) : Int) ≤ 2000)
    · rw [k2] at hf
      (refine Fsp.of (nx := 0) mixed Tryd.func6 rfl (by decide) (by first | exact Nat.le_refl _ | simp) (by simp [Tryd.f6]) ⟨by decide, by decide⟩ ?_; simp -implicitDefEqProofs only [push_cast, Tryd.f6, hp, k1, Int.reduceBEq, Int.reduceBNe, Int.reduceEq, Int.reduceNe, Int.reducePow, Nat.reduceAdd, Nat.reduceMul, Nat.reduceSub, Nat.reduceLT, Nat.reduceLeDiff, Nat.reduceEqDiff, Nat.reduceBEq, Int.reduceLT, Int.reduceLE, Int.reduceAdd, Int.reduceSub, Int.reduceMul, Int.reduceToNat, Int.reduceNeg, reduceIte, reduceCtorEq, reduceBEq])
      refine callE_pure hf (by rfl) (by rfl) (by rfl) (by decide) (by rfl) (fun _ => by rfl) (by first | rfl | simp [gdOk, newToks]) ?_
      simp -implicitDefEqProofs only [push_cast, Int.reduceBEq, Int.reduceBNe, Int.reduceEq, Int.reduceNe, Int.reducePow, Nat.reduceAdd, Nat.reduceMul, Nat.reduceSub, Nat.reduceLT, Nat.reduceLeDiff, Nat.reduceEqDiff, Nat.reduceBEq, Int.reduceLT, Int.reduceLE, Int.reduceAdd, Int.reduceSub, Int.reduceMul, Int.reduceToNat, Int.reduceNeg, reduceIte, reduceCtorEq, reduceBEq]
      skip
      refine callE_pure awake_fs (by rfl) (by rfl) (by rfl) (by decide) (by rfl) (fun _ => by rfl) (by first | rfl | simp [gdOk, newToks]) ?_
      simp -implicitDefEqProofs only [push_cast, Int.reduceBEq, Int.reduceBNe, Int.reduceEq, Int.reduceNe, Int.reducePow, Nat.reduceAdd, Nat.reduceMul, Nat.reduceSub, Nat.reduceLT, Nat.reduceLeDiff, Nat.reduceEqDiff, Nat.reduceBEq, Int.reduceLT, Int.reduceLE, Int.reduceAdd, Int.reduceSub, Int.reduceMul, Int.reduceToNat, Int.reduceNeg, reduceIte, reduceCtorEq, reduceBEq]
    · rw [k2] at hf
      have ha := askDead_fs sb0 [r] rfl
      have he := feedDead_fs sb0 b rfl
      have hr := fresh_fs sb0 (by decide)
      rw [freshR, show freshS sb0 = (sb0, 0, 5) by rfl] at hr
      have ht := take_fs sb0
      have hs := sent_fs sb0
      have hw := waiting_fs sb0 (by decide)
      simp only [Sb.pv, Sb.cs, Sb.mpv, sb0, rqL, List.map, ints] at ha he hr ht hs hw
      rw [hp] at ha
      have ha := ha.nils (qs := [zst, .sl 4 [.agg [.int .i64 r.C, .sl 1 (ints r.N), .str r.B, .sl 1 (ints r.L)]]]) ⟨zst_nl, nlV_same _, trivial⟩
      have he := he.nils (qs := [zst, .str b]) ⟨zst_nl, nlV_same _, trivial⟩
      have hr := hr.nils (qs := [zst]) ⟨zst_nl, trivial⟩
      have ht := ht.nils (qs := [zst]) ⟨zst_nl, trivial⟩
      have hs := hs.nils (qs := [zst]) ⟨zst_nl, trivial⟩
      have hw := hw.nils (qs := [zst]) ⟨zst_nl, trivial⟩
      simp only [zst] at ha he hr ht hs hw
      (refine Fsp.of (nx := 0) mixed Tryd.func6 rfl (by decide) (by first | exact Nat.le_refl _ | simp) (by simp [Tryd.f6]) ⟨by decide, by decide⟩ ?_; simp -implicitDefEqProofs only [push_cast, Tryd.f6, hp, k1, Int.reduceBEq, Int.reduceBNe, Int.reduceEq, Int.reduceNe, Int.reducePow, Nat.reduceAdd, Nat.reduceMul, Nat.reduceSub, Nat.reduceLT, Nat.reduceLeDiff, Nat.reduceEqDiff, Nat.reduceBEq, Int.reduceLT, Int.reduceLE, Int.reduceAdd, Int.reduceSub, Int.reduceMul, Int.reduceToNat, Int.reduceNeg, reduceIte, reduceCtorEq, reduceBEq])
      refine callE_pure hf (by rfl) (by rfl) (by rfl) (by decide) (by rfl) (fun _ => by rfl) (by first | rfl | simp [gdOk, newToks]) ?_
      simp -implicitDefEqProofs only [push_cast, Int.reduceBEq, Int.reduceBNe, Int.reduceEq, Int.reduceNe, Int.reducePow, Nat.reduceAdd, Nat.reduceMul, Nat.reduceSub, Nat.reduceLT, Nat.reduceLeDiff, Nat.reduceEqDiff, Nat.reduceBEq, Int.reduceLT, Int.reduceLE, Int.reduceAdd, Int.reduceSub, Int.reduceMul, Int.reduceToNat, Int.reduceNeg, reduceIte, reduceCtorEq, reduceBEq]
      skip
      skip
      refine callE_pure ha (by rfl) (by rfl) (by rfl) (by decide) (by rfl) (fun _ => by rfl) (by first | rfl | simp [gdOk, newToks]) ?_
      simp -implicitDefEqProofs only [push_cast, Int.reduceBEq, Int.reduceBNe, Int.reduceEq, Int.reduceNe, Int.reducePow, Nat.reduceAdd, Nat.reduceMul, Nat.reduceSub, Nat.reduceLT, Nat.reduceLeDiff, Nat.reduceEqDiff, Nat.reduceBEq, Int.reduceLT, Int.reduceLE, Int.reduceAdd, Int.reduceSub, Int.reduceMul, Int.reduceToNat, Int.reduceNeg, reduceIte, reduceCtorEq, reduceBEq]
      refine callE_pure he (by rfl) (by rfl) (by rfl) (by decide) (by rfl) (fun _ => by rfl) (by first | rfl | simp [gdOk, newToks]) ?_
      simp -implicitDefEqProofs only [push_cast, Int.reduceBEq, Int.reduceBNe, Int.reduceEq, Int.reduceNe, Int.reducePow, Nat.reduceAdd, Nat.reduceMul, Nat.reduceSub, Nat.reduceLT, Nat.reduceLeDiff, Nat.reduceEqDiff, Nat.reduceBEq, Int.reduceLT, Int.reduceLE, Int.reduceAdd, Int.reduceSub, Int.reduceMul, Int.reduceToNat, Int.reduceNeg, reduceIte, reduceCtorEq, reduceBEq]
      refine callE_pure hr (by rfl) (by rfl) (by rfl) (by decide) (by rfl) (fun _ => by rfl) (by first | rfl | simp [gdOk, newToks]) ?_
      simp -implicitDefEqProofs only [push_cast, Int.reduceBEq, Int.reduceBNe, Int.reduceEq, Int.reduceNe, Int.reducePow, Nat.reduceAdd, Nat.reduceMul, Nat.reduceSub, Nat.reduceLT, Nat.reduceLeDiff, Nat.reduceEqDiff, Nat.reduceBEq, Int.reduceLT, Int.reduceLE, Int.reduceAdd, Int.reduceSub, Int.reduceMul, Int.reduceToNat, Int.reduceNeg, reduceIte, reduceCtorEq, reduceBEq]
      refine callE_pure ht (by rfl) (by rfl) (by rfl) (by decide) (by rfl) (fun _ => by rfl) (by first | rfl | simp [gdOk, newToks]) ?_
      simp -implicitDefEqProofs only [push_cast, Int.reduceBEq, Int.reduceBNe, Int.reduceEq, Int.reduceNe, Int.reducePow, Nat.reduceAdd, Nat.reduceMul, Nat.reduceSub, Nat.reduceLT, Nat.reduceLeDiff, Nat.reduceEqDiff, Nat.reduceBEq, Int.reduceLT, Int.reduceLE, Int.reduceAdd, Int.reduceSub, Int.reduceMul, Int.reduceToNat, Int.reduceNeg, reduceIte, reduceCtorEq, reduceBEq]
      refine callE_pure awake_fs (by rfl) (by rfl) (by rfl) (by decide) (by rfl) (fun _ => by rfl) (by first | rfl | simp [gdOk, newToks]) ?_
      simp -implicitDefEqProofs only [push_cast, Int.reduceBEq, Int.reduceBNe, Int.reduceEq, Int.reduceNe, Int.reducePow, Nat.reduceAdd, Nat.reduceMul, Nat.reduceSub, Nat.reduceLT, Nat.reduceLeDiff, Nat.reduceEqDiff, Nat.reduceBEq, Int.reduceLT, Int.reduceLE, Int.reduceAdd, Int.reduceSub, Int.reduceMul, Int.reduceToNat, Int.reduceNeg, reduceIte, reduceCtorEq, reduceBEq]
      refine callE_pure hs (by rfl) (by rfl) (by rfl) (by decide) (by rfl) (fun _ => by rfl) (by first | rfl | simp [gdOk, newToks]) ?_
      simp -implicitDefEqProofs only [push_cast, Int.reduceBEq, Int.reduceBNe, Int.reduceEq, Int.reduceNe, Int.reducePow, Nat.reduceAdd, Nat.reduceMul, Nat.reduceSub, Nat.reduceLT, Nat.reduceLeDiff, Nat.reduceEqDiff, Nat.reduceBEq, Int.reduceLT, Int.reduceLE, Int.reduceAdd, Int.reduceSub, Int.reduceMul, Int.reduceToNat, Int.reduceNeg, reduceIte, reduceCtorEq, reduceBEq]
      refine callE_pure hw (by rfl) (by rfl) (by rfl) (by decide) (by rfl) (fun _ => by rfl) (by first | rfl | simp [gdOk, newToks]) ?_
      simp -implicitDefEqProofs only [push_cast, Int.reduceBEq, Int.reduceBNe, Int.reduceEq, Int.reduceNe, Int.reducePow, Nat.reduceAdd, Nat.reduceMul, Nat.reduceSub, Nat.reduceLT, Nat.reduceLeDiff, Nat.reduceEqDiff, Nat.reduceBEq, Int.reduceLT, Int.reduceLE, Int.reduceAdd, Int.reduceSub, Int.reduceMul, Int.reduceToNat, Int.reduceNeg, reduceIte, reduceCtorEq, reduceBEq]
      skip
  · (refine Fsp.of (nx := 0) mixed Tryd.func6 rfl (by decide) (by first | exact Nat.le_refl _ | simp) (by simp [Tryd.f6]) ⟨by decide, by decide⟩ ?_; simp -implicitDefEqProofs only [push_cast, Tryd.f6, hp, k1, Int.reduceBEq, Int.reduceBNe, Int.reduceEq, Int.reduceNe, Int.reducePow, Nat.reduceAdd, Nat.reduceMul, Nat.reduceSub, Nat.reduceLT, Nat.reduceLeDiff, Nat.reduceEqDiff, Nat.reduceBEq, Int.reduceLT, Int.reduceLE, Int.reduceAdd, Int.reduceSub, Int.reduceMul, Int.reduceToNat, Int.reduceNeg, reduceIte, reduceCtorEq, reduceBEq])
    refine callE_nop' (.bool false) ?_
    simp -implicitDefEqProofs only [push_cast, Int.reduceBEq, Int.reduceBNe, Int.reduceEq, Int.reduceNe, Int.reducePow, Nat.reduceAdd, Nat.reduceMul, Nat.reduceSub, Nat.reduceLT, Nat.reduceLeDiff, Nat.reduceEqDiff, Nat.reduceBEq, Int.reduceLT, Int.reduceLE, Int.reduceAdd, Int.reduceSub, Int.reduceMul, Int.reduceToNat, Int.reduceNeg, reduceIte, reduceCtorEq, reduceBEq]
    refine callE_pure awake_fs (by rfl) (by rfl) (by rfl) (by decide) (by rfl) (fun _ => by rfl) (by first | rfl | simp [gdOk, newToks]) ?_
    simp -implicitDefEqProofs only [push_cast, Int.reduceBEq, Int.reduceBNe, Int.reduceEq, Int.reduceNe, Int.reducePow, Nat.reduceAdd, Nat.reduceMul, Nat.reduceSub, Nat.reduceLT, Nat.reduceLeDiff, Nat.reduceEqDiff, Nat.reduceBEq, Int.reduceLT, Int.reduceLE, Int.reduceAdd, Int.reduceSub, Int.reduceMul, Int.reduceToNat, Int.reduceNeg, reduceIte, reduceCtorEq, reduceBEq]

end Go.Proofs.Sh
