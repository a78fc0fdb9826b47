/- StubWide. -/
import Derived.Test.YtbpjoeopnaggoaaDoorSbC
import Derived.Test.YtbpjoeopnaggoaaDoorPvXh
set_option maxRecDepth 100000
set_option linter.unusedSimpArgs false
set_option linter.unusedVariables false
namespace Go.Proofs.Sh
open Go.Pv

def awS : Sb := ⟨0, 1, false, 0, 0, 0, beg0, [], [], none⟩
def awX : List Rq := [⟨9, [5], [], []⟩, ⟨58, [], [], []⟩]
theorem aw_new : newS 0 1 = (awS, 0) := by rfl
def awO : List UInt8 := (askS awS awX).1.out
theorem aw_ask : askS awS awX = (⟨0, 1, false, 2, 0, 0, awO, [], [1], some [(1, 9)]⟩, 0) := by kernel_rfl
theorem wideS_d (l w : Int) (h : 0 ≤ wideS l w) : 0 ≤ wideS l w - l ∧ wideS l w - l < 65536 := by
  cases hb : wideB l w
  · have := wideN_at (wideB_f hb)
    rw [wideS, if_neg (by rw [hb]; simp)] at *
    omega
  · rw [wideS, if_pos hb] at h; omega
theorem aw_fs : Fsp Tryd.prog 17 [] 0 [awS.pv, .sl 4 (rqL awX)] [] 0 (askR awS awX) :=
  ask_fs awS awX ⟨by decide, by decide, by decide, by decide⟩ (by decide) (fun x hx => by
    rcases List.mem_cons.1 hx with rfl | hx
    · exact ⟨by decide, by decide, by decide⟩
    · rcases List.mem_cons.1 hx with rfl | hx
      · exact ⟨by decide, by decide, by decide⟩
      · cases hx)
theorem awake_fs : Fsp Tryd.prog 12 [] 0 [] [] 0 (.bool true) := by
  have hn := new_fs 0 1
  rw [newR, aw_new] at hn
  have ha := aw_fs
  rw [askR, aw_ask] at ha
  have hw := waiting_fs ⟨0, 1, false, 2, 0, 0, awO, [], [1], some [(1, 9)]⟩ (by decide)
  have hs := sent_fs ⟨0, 1, false, 2, 0, 0, awO, [], [1], some [(1, 9)]⟩
  have w1 := wide_fs 65535 0
  have w2 := wide_fs 70000 4464
  rw [show wideS 65535 0 = 65536 from by decide +kernel] at w1
  rw [show wideS 70000 4464 = 70000 from by decide +kernel] at w2
  simp only [Sb.pv, Sb.cs, Sb.mpv, awS, awX, rqL, List.map, Rq.pv, ints, mkM] at ha hn hw hs
  have ha := ha.takes (qs := [.agg [.int .i64 0, .int .i64 1, .bool false, .int .i64 0, .int .i64 0, .int .i64 0, .str beg0, .str [], .sl 1 [], .nilm],
    .sl 4 [.agg [.int .i64 9, .sl 1 [.int .i64 5], .str [], .nilsl], .agg [.int .i64 58, .nilsl, .str [], .nilsl]]]) rfl (fun i q p h1 h2 g v r => by
      rcases i with _ | _ | i
      · simp at h1 h2; subst h1; subst h2; exact r
      · simp at h1 h2; subst h1; subst h2
        refine Rel.nlRow ?_ ?_ ?_ r
        · rfl
        · simp [nlCs, nlC, PV.cells]
        · simp [PV.cells]
      · simp at h1)
  (refine Fsp.of (nx := 0) mixed Tryd.func12 rfl (by decide) (by first | exact Nat.le_refl _ | simp) (by simp [Tryd.f12]) ⟨by decide, by decide⟩ ?_; simp -implicitDefEqProofs only [push_cast, Tryd.f12, Int.reduceBEq, Int.reduceBNe, Int.reduceEq, Int.reduceNe, Int.reducePow, Nat.reduceAdd, Nat.reduceMul, Nat.reduceSub, Nat.reduceLT, Nat.reduceLeDiff, Nat.reduceEqDiff, Nat.reduceBEq, Int.reduceLT, Int.reduceLE, Int.reduceAdd, Int.reduceSub, Int.reduceMul, Int.reduceToNat, Int.reduceNeg, reduceIte, reduceCtorEq, reduceBEq])
  refine callE_pure hn (by rfl) (by rfl) (by rfl) (by decide) (by rfl) (fun _ => by rfl) (by first | rfl | simp [gdOk, newToks]) ?_
  simp -implicitDefEqProofs only [push_cast, Int.reduceBEq, Int.reduceBNe, Int.reduceEq, Int.reduceNe, Int.reducePow, Nat.reduceAdd, Nat.reduceMul, Nat.reduceSub, Nat.reduceLT, Nat.reduceLeDiff, Nat.reduceEqDiff, Nat.reduceBEq, Int.reduceLT, Int.reduceLE, Int.reduceAdd, Int.reduceSub, Int.reduceMul, Int.reduceToNat, Int.reduceNeg, reduceIte, reduceCtorEq, reduceBEq]
  refine callE_pure ha (by rfl) (by rfl) (by rfl) (by decide) (by rfl) (fun _ => by rfl) (by first | rfl | simp [gdOk, newToks]) ?_
  simp -implicitDefEqProofs only [push_cast, Int.reduceBEq, Int.reduceBNe, Int.reduceEq, Int.reduceNe, Int.reducePow, Nat.reduceAdd, Nat.reduceMul, Nat.reduceSub, Nat.reduceLT, Nat.reduceLeDiff, Nat.reduceEqDiff, Nat.reduceBEq, Int.reduceLT, Int.reduceLE, Int.reduceAdd, Int.reduceSub, Int.reduceMul, Int.reduceToNat, Int.reduceNeg, reduceIte, reduceCtorEq, reduceBEq]
  refine callE_pure hw (by rfl) (by rfl) (by rfl) (by decide) (by rfl) (fun _ => by rfl) (by first | rfl | simp [gdOk, newToks]) ?_
  simp -implicitDefEqProofs only [push_cast, Int.reduceBEq, Int.reduceBNe, Int.reduceEq, Int.reduceNe, Int.reducePow, Nat.reduceAdd, Nat.reduceMul, Nat.reduceSub, Nat.reduceLT, Nat.reduceLeDiff, Nat.reduceEqDiff, Nat.reduceBEq, Int.reduceLT, Int.reduceLE, Int.reduceAdd, Int.reduceSub, Int.reduceMul, Int.reduceToNat, Int.reduceNeg, reduceIte, reduceCtorEq, reduceBEq]
  (repeat (first | refine ⟨by omega, ?_⟩ | refine ⟨by (unfold drawOk; kernel_rfl), ?_⟩))
  trace_state
  refine callE_pure hs (by rfl) (by rfl) (by rfl) (by decide) (by rfl) (fun _ => by rfl) (by first | rfl | simp [gdOk, newToks]) ?_
  simp -implicitDefEqProofs only [push_cast, Int.reduceBEq, Int.reduceBNe, Int.reduceEq, Int.reduceNe, Int.reducePow, Nat.reduceAdd, Nat.reduceMul, Nat.reduceSub, Nat.reduceLT, Nat.reduceLeDiff, Nat.reduceEqDiff, Nat.reduceBEq, Int.reduceLT, Int.reduceLE, Int.reduceAdd, Int.reduceSub, Int.reduceMul, Int.reduceToNat, Int.reduceNeg, reduceIte, reduceCtorEq, reduceBEq]
  trace_state
  refine callE_pure w1 (by rfl) (by rfl) (by rfl) (by decide) (by rfl) (fun _ => by rfl) (by first | rfl | simp [gdOk, newToks]) ?_
  simp -implicitDefEqProofs only [push_cast, Int.reduceBEq, Int.reduceBNe, Int.reduceEq, Int.reduceNe, Int.reducePow, Nat.reduceAdd, Nat.reduceMul, Nat.reduceSub, Nat.reduceLT, Nat.reduceLeDiff, Nat.reduceEqDiff, Nat.reduceBEq, Int.reduceLT, Int.reduceLE, Int.reduceAdd, Int.reduceSub, Int.reduceMul, Int.reduceToNat, Int.reduceNeg, reduceIte, reduceCtorEq, reduceBEq]
  refine callE_pure w2 (by rfl) (by rfl) (by rfl) (by decide) (by rfl) (fun _ => by rfl) (by first | rfl | simp [gdOk, newToks]) ?_
  simp -implicitDefEqProofs only [push_cast, Int.reduceBEq, Int.reduceBNe, Int.reduceEq, Int.reduceNe, Int.reducePow, Nat.reduceAdd, Nat.reduceMul, Nat.reduceSub, Nat.reduceLT, Nat.reduceLeDiff, Nat.reduceEqDiff, Nat.reduceBEq, Int.reduceLT, Int.reduceLE, Int.reduceAdd, Int.reduceSub, Int.reduceMul, Int.reduceToNat, Int.reduceNeg, reduceIte, reduceCtorEq, reduceBEq]
  trace_state
theorem stubWide_fs (l w : Int) : Fsp Tryd.prog 3 [] 0 [.int .i64 l, .int .i64 w] [] 0 (.bool true) := by
  have hw := wide_fs l w
  have hr := refWide_fs l w
  have hwd := wideS_d l w
  generalize wideS l w = n at *
  (refine Fsp.of (nx := 0) mixed Tryd.func3 rfl (by decide) (by first | exact Nat.le_refl _ | simp) (by simp [Tryd.f3]) ⟨by decide, by decide⟩ ?_; simp -implicitDefEqProofs only [push_cast, Tryd.f3, Int.reduceBEq, Int.reduceBNe, Int.reduceEq, Int.reduceNe, Int.reducePow, Nat.reduceAdd, Nat.reduceMul, Nat.reduceSub, Nat.reduceLT, Nat.reduceLeDiff, Nat.reduceEqDiff, Nat.reduceBEq, Int.reduceLT, Int.reduceLE, Int.reduceAdd, Int.reduceSub, Int.reduceMul, Int.reduceToNat, Int.reduceNeg, reduceIte, reduceCtorEq, reduceBEq])
  refine callE_pure hw (by rfl) (by rfl) (by rfl) (by decide) (by rfl) (fun _ => by rfl) (by first | rfl | simp [gdOk, newToks]) ?_
  simp -implicitDefEqProofs only [push_cast, Int.reduceBEq, Int.reduceBNe, Int.reduceEq, Int.reduceNe, Int.reducePow, Nat.reduceAdd, Nat.reduceMul, Nat.reduceSub, Nat.reduceLT, Nat.reduceLeDiff, Nat.reduceEqDiff, Nat.reduceBEq, Int.reduceLT, Int.reduceLE, Int.reduceAdd, Int.reduceSub, Int.reduceMul, Int.reduceToNat, Int.reduceNeg, reduceIte, reduceCtorEq, reduceBEq]
  refine condC_split (fun g1 => ?_) (fun g1 => ?_)
  · simp -implicitDefEqProofs only [push_cast, Int.reduceBEq, Int.reduceBNe, Int.reduceEq, Int.reduceNe, Int.reducePow, Nat.reduceAdd, Nat.reduceMul, Nat.reduceSub, Nat.reduceLT, Nat.reduceLeDiff, Nat.reduceEqDiff, Nat.reduceBEq, Int.reduceLT, Int.reduceLE, Int.reduceAdd, Int.reduceSub, Int.reduceMul, Int.reduceToNat, Int.reduceNeg, reduceIte, reduceCtorEq, reduceBEq]
    refine callE_pure awake_fs (by rfl) (by rfl) (by rfl) (by decide) (by rfl) (fun _ => by rfl) (by first | rfl | simp [gdOk, newToks]) ?_
    simp -implicitDefEqProofs only [push_cast, Int.reduceBEq, Int.reduceBNe, Int.reduceEq, Int.reduceNe, Int.reducePow, Nat.reduceAdd, Nat.reduceMul, Nat.reduceSub, Nat.reduceLT, Nat.reduceLeDiff, Nat.reduceEqDiff, Nat.reduceBEq, Int.reduceLT, Int.reduceLE, Int.reduceAdd, Int.reduceSub, Int.reduceMul, Int.reduceToNat, Int.reduceNeg, reduceIte, reduceCtorEq, reduceBEq]
    refine callE_pure hr (by rfl) (by rfl) (by rfl) (by decide) (by rfl) (fun _ => by rfl) (by first | rfl | simp [gdOk, newToks]) ?_
    simp -implicitDefEqProofs only [push_cast, g1, Int.reduceBEq, Int.reduceBNe, Int.reduceEq, Int.reduceNe, Int.reducePow, Nat.reduceAdd, Nat.reduceMul, Nat.reduceSub, Nat.reduceLT, Nat.reduceLeDiff, Nat.reduceEqDiff, Nat.reduceBEq, Int.reduceLT, Int.reduceLE, Int.reduceAdd, Int.reduceSub, Int.reduceMul, Int.reduceToNat, Int.reduceNeg, reduceIte, reduceCtorEq, reduceBEq]
    trace_state
  · have h0 : 0 ≤ n := by simp at g1; omega
    obtain ⟨h1, h2⟩ := hwd h0
    have h3 : IntKind.i64.wrap (n - l) = n - l := wrap_i64_id (by omega) (by omega)
    have h4 : decide (n - l < 65536) = true := by simp; omega
    simp -implicitDefEqProofs only [push_cast, Int.reduceBEq, Int.reduceBNe, Int.reduceEq, Int.reduceNe, Int.reducePow, Nat.reduceAdd, Nat.reduceMul, Nat.reduceSub, Nat.reduceLT, Nat.reduceLeDiff, Nat.reduceEqDiff, Nat.reduceBEq, Int.reduceLT, Int.reduceLE, Int.reduceAdd, Int.reduceSub, Int.reduceMul, Int.reduceToNat, Int.reduceNeg, reduceIte, reduceCtorEq, reduceBEq]
    refine callE_pure awake_fs (by rfl) (by rfl) (by rfl) (by decide) (by rfl) (fun _ => by rfl) (by first | rfl | simp [gdOk, newToks]) ?_
    simp -implicitDefEqProofs only [push_cast, Int.reduceBEq, Int.reduceBNe, Int.reduceEq, Int.reduceNe, Int.reducePow, Nat.reduceAdd, Nat.reduceMul, Nat.reduceSub, Nat.reduceLT, Nat.reduceLeDiff, Nat.reduceEqDiff, Nat.reduceBEq, Int.reduceLT, Int.reduceLE, Int.reduceAdd, Int.reduceSub, Int.reduceMul, Int.reduceToNat, Int.reduceNeg, reduceIte, reduceCtorEq, reduceBEq]
    refine callE_pure hr (by rfl) (by rfl) (by rfl) (by decide) (by rfl) (fun _ => by rfl) (by first | rfl | simp [gdOk, newToks]) ?_
    simp -implicitDefEqProofs only [push_cast, h3, h4, Int.reduceBEq, Int.reduceBNe, Int.reduceEq, Int.reduceNe, Int.reducePow, Nat.reduceAdd, Nat.reduceMul, Nat.reduceSub, Nat.reduceLT, Nat.reduceLeDiff, Nat.reduceEqDiff, Nat.reduceBEq, Int.reduceLT, Int.reduceLE, Int.reduceAdd, Int.reduceSub, Int.reduceMul, Int.reduceToNat, Int.reduceNeg, reduceIte, reduceCtorEq, reduceBEq]
    trace_state

end Go.Proofs.Sh
