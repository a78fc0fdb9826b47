/- strings.Builder: Len, WriteByte, WriteString. -/
import Derived.Test.YtafleenajffpkaaDoorShTypes
import Derived.Test.YtafleenajffpkaaDoorPvYa
set_option maxRecDepth 100000
set_option linter.unusedSimpArgs false
set_option linter.unusedVariables false
namespace Go.Proofs.Sh
open Go.Pv


theorem len_fs (l : List UInt8) : Fsp Tryd.prog 72 [[.nbp 121 0, .bsl 5 (bs l) 0]] 1 [.box 0 0] [[.nbp 121 0, .bsl 5 (bs l) 0]] 1 (.int .i64 l.length) := by
  (refine Fsp.of (nx := 1) mixed Tryd.func72 rfl (by decide) (by first | exact Nat.le_refl _ | simp) (by simp [Tryd.f72]) ⟨by simp, by simp⟩ ?_; simp -implicitDefEqProofs only [push_cast, Tryd.f72, Int.reduceBEq, Int.reduceBNe, Int.reduceEq, Int.reduceNe, Int.reducePow, Nat.reduceAdd, Nat.reduceMul, Nat.reduceSub, Nat.reduceLT, Nat.reduceLeDiff, Nat.reduceEqDiff, Nat.reduceBEq, Int.reduceLT, Int.reduceLE, Int.reduceAdd, Int.reduceSub, Int.reduceMul, Int.reduceToNat, Int.reduceNeg, reduceIte, reduceCtorEq, reduceBEq])
  rw [bs_length]
  exact endK_box1 [0] rfl rfl (by simp [PS.lv, lkp_hit, lkp_miss, lkp_nil]) (by simp [PS.obj, lkp_hit, lkp_miss, lkp_nil]; rfl) (by simp [wkL, res1, PV.weak]) ⟨by simp [resOk, PS.get, lkp_hit, lkp_miss, PS.ev], by simp [resPV, PS.get, lkp_hit, lkp_miss, PS.ev], by simp [resOf, resPV, one', res3, res2, res1, PS.get, lkp_hit, lkp_miss, PS.ev, PV.weak, PV.el, wkL]⟩

theorem writeString_fs (l s : List UInt8) (h : l.length + s.length ≤ 140737488355328) : Fsp Tryd.prog 69 [[.nbp 121 0, .bsl 5 (bs l) 0]] 1 [.box 0 0, .str s] [[.nbp 121 0, .bsl 5 (bs (l ++ s)) 0]] 1 (.tup [.int .i64 s.length, .nilif]) := by
  have hc := check_fs (.bsl 5 (bs l) 0) 1
  have hb : (bs l).length + (List.map (fun b => PV.int .u8 (b.toNat : Int)) s).length ≤ 140737488355328 := by rw [bs_length, List.length_map]; exact h
  (refine Fsp.of (nx := 1) mixed Tryd.func69 rfl (by decide) (by first | exact Nat.le_refl _ | simp) (by simp [Tryd.f69]) ⟨by simp, by simp⟩ ?_; simp -implicitDefEqProofs only [push_cast, Tryd.f69, Int.reduceBEq, Int.reduceBNe, Int.reduceEq, Int.reduceNe, Int.reducePow, Nat.reduceAdd, Nat.reduceMul, Nat.reduceSub, Nat.reduceLT, Nat.reduceLeDiff, Nat.reduceEqDiff, Nat.reduceBEq, Int.reduceLT, Int.reduceLE, Int.reduceAdd, Int.reduceSub, Int.reduceMul, Int.reduceToNat, Int.reduceNeg, reduceIte, reduceCtorEq, reduceBEq])
  refine callE_box hc [0] [0] (by rfl) (by rfl) (by rfl) (by rfl) (by rfl) (by rfl) (fun i j cs h1 h2 => by (rcases i with _ | _ | _ | i <;> simp at h1 h2 <;> (subst h1; subst h2; exact ⟨_, rfl, (by (repeat' (first | exact wkL_nil | refine wkL_cons ?_ ?_)); all_goals (first | exact .inl ⟨_, _, _, _, rfl, rfl, rfl⟩ | exact .inr (.inr (.inr (.inr (.inl ⟨_, _, _, rfl, rfl, rfl⟩)))) | exact .inr (.inr (.inr (.inr (.inr ⟨_, _, _, _, rfl, rfl, rfl⟩)))) | exact .inr (.inl rfl) | exact .inr (.inr (.inl ⟨_, _, _, rfl, rfl, rfl⟩))))⟩))) (by simp [PS.lv, lkp_hit, lkp_miss, lkp_nil]) (by (repeat' (first | exact wkL_nil | refine wkL_cons ?_ ?_)); all_goals (first | exact .inl ⟨_, _, _, rfl, rfl, rfl⟩ | exact .inr (.inl rfl) | exact .inr (.inr (.inl ⟨_, _, _, _, rfl, rfl, rfl⟩)))) (by decide) (by simp) (by rfl) (by simp [tokLt1]) (fun _ => by rfl) (by first | rfl | simp [gdOk, newToks]) ?_
  simp -implicitDefEqProofs only [push_cast, Int.reduceBEq, Int.reduceBNe, Int.reduceEq, Int.reduceNe, Int.reducePow, Nat.reduceAdd, Nat.reduceMul, Nat.reduceSub, Nat.reduceLT, Nat.reduceLeDiff, Nat.reduceEqDiff, Nat.reduceBEq, Int.reduceLT, Int.reduceLE, Int.reduceAdd, Int.reduceSub, Int.reduceMul, Int.reduceToNat, Int.reduceNeg, reduceIte, reduceCtorEq, reduceBEq]
  refine ⟨by omega, by omega, ?_⟩
  rw [show bs l ++ List.map (fun b => PV.int .u8 (b.toNat : Int)) s = bs (l ++ s) from (bs_append l s).symm]
  exact endK_box1 [41] rfl rfl (by simp [PS.lv, lkp_hit, lkp_miss, lkp_nil]) (by simp [PS.obj, lkp_hit, lkp_miss, lkp_nil]; rfl) (by simp [wkL, res1, PV.weak]) ⟨by simp [resOk, PS.get, lkp_hit, lkp_miss, PS.ev], by simp [resPV, PS.get, lkp_hit, lkp_miss, PS.ev], by simp [resOf, resPV, one', res3, res2, res1, PS.get, lkp_hit, lkp_miss, PS.ev, PV.weak, PV.el, wkL]⟩

theorem writeByte_fs (l : List UInt8) (h : l.length + 1 ≤ 140737488355328) : Fsp Tryd.prog 73 [[.nbp 121 0, .bsl 5 (bs l) 0]] 1 [.box 0 0, .int .u8 0] [[.nbp 121 0, .bsl 5 (bs (l ++ [0])) 0]] 1 .nilif := by
  have hc := check_fs (.bsl 5 (bs l) 0) 1
  have hb : (bs l).length + 1 ≤ 140737488355328 := by rw [bs_length]; exact h
  (refine Fsp.of (nx := 1) mixed Tryd.func73 rfl (by decide) (by first | exact Nat.le_refl _ | simp) (by simp [Tryd.f73]) ⟨by simp, by simp⟩ ?_; simp -implicitDefEqProofs only [push_cast, Tryd.f73, Int.reduceBEq, Int.reduceBNe, Int.reduceEq, Int.reduceNe, Int.reducePow, Nat.reduceAdd, Nat.reduceMul, Nat.reduceSub, Nat.reduceLT, Nat.reduceLeDiff, Nat.reduceEqDiff, Nat.reduceBEq, Int.reduceLT, Int.reduceLE, Int.reduceAdd, Int.reduceSub, Int.reduceMul, Int.reduceToNat, Int.reduceNeg, reduceIte, reduceCtorEq, reduceBEq])
  refine callE_box hc [0] [0] (by rfl) (by rfl) (by rfl) (by rfl) (by rfl) (by rfl) (fun i j cs h1 h2 => by (rcases i with _ | _ | _ | i <;> simp at h1 h2 <;> (subst h1; subst h2; exact ⟨_, rfl, (by (repeat' (first | exact wkL_nil | refine wkL_cons ?_ ?_)); all_goals (first | exact .inl ⟨_, _, _, _, rfl, rfl, rfl⟩ | exact .inr (.inr (.inr (.inr (.inl ⟨_, _, _, rfl, rfl, rfl⟩)))) | exact .inr (.inr (.inr (.inr (.inr ⟨_, _, _, _, rfl, rfl, rfl⟩)))) | exact .inr (.inl rfl) | exact .inr (.inr (.inl ⟨_, _, _, rfl, rfl, rfl⟩))))⟩))) (by simp [PS.lv, lkp_hit, lkp_miss, lkp_nil]) (by (repeat' (first | exact wkL_nil | refine wkL_cons ?_ ?_)); all_goals (first | exact .inl ⟨_, _, _, rfl, rfl, rfl⟩ | exact .inr (.inl rfl) | exact .inr (.inr (.inl ⟨_, _, _, _, rfl, rfl, rfl⟩)))) (by decide) (by simp) (by rfl) (by simp [tokLt1]) (fun _ => by rfl) (by first | rfl | simp [gdOk, newToks]) ?_
  simp -implicitDefEqProofs only [push_cast, Int.reduceBEq, Int.reduceBNe, Int.reduceEq, Int.reduceNe, Int.reducePow, Nat.reduceAdd, Nat.reduceMul, Nat.reduceSub, Nat.reduceLT, Nat.reduceLeDiff, Nat.reduceEqDiff, Nat.reduceBEq, Int.reduceLT, Int.reduceLE, Int.reduceAdd, Int.reduceSub, Int.reduceMul, Int.reduceToNat, Int.reduceNeg, reduceIte, reduceCtorEq, reduceBEq]
  refine ⟨by omega, by omega, ?_⟩
  rw [show bs l ++ [PV.int .u8 0] = bs (l ++ [0]) from (bs_append l [0]).symm]
  exact endK_box1 [41] rfl rfl (by simp [PS.lv, lkp_hit, lkp_miss, lkp_nil]) (by simp [PS.obj, lkp_hit, lkp_miss, lkp_nil]; rfl) (by simp [wkL, res1, PV.weak]) ⟨by simp [resOk, PS.get, lkp_hit, lkp_miss, PS.ev], by simp [resPV, PS.get, lkp_hit, lkp_miss, PS.ev], by simp [resOf, resPV, one', res3, res2, res1, PS.get, lkp_hit, lkp_miss, PS.ev, PV.weak, PV.el, wkL]⟩

end Go.Proofs.Sh
