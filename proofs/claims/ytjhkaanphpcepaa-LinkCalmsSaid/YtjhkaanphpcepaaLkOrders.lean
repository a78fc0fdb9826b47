/- A line's step, whole; LinkOrders. -/
import Derived.Test.YtjhkaanphpcepaaLkSt7
import Derived.Test.YtjhkaanphpcepaaLkAwake
set_option maxRecDepth 100000
set_option linter.unusedSimpArgs false
set_option linter.unusedVariables false
namespace Go.Proofs.Lk
open Go.Pv

def Ln.cs (l : Ln) : List PV := [.int .i64 l.A.most, pcs l.A.way, .int .i64 l.A.next, .str l.A.rest, .int .i64 l.A.exp, .str (l.A.aside 0), .str (l.A.aside 1), .str (l.A.aside 2), .str (l.A.aside 3), .str (l.A.aside 4), .str (l.A.aside 5), .str (l.A.aside 6), .str (l.A.aside 7), .str (l.A.aside 8), .str (l.A.aside 9), .str (l.A.aside 10), .str (l.A.aside 11), .str (l.A.aside 12), .str (l.A.aside 13), .str (l.A.aside 14), .str (l.A.aside 15), .str l.A.read, .bool l.A.ack, .int .i64 l.B.most, pcs l.B.way, .int .i64 l.B.next, .str l.B.rest, .int .i64 l.B.exp, .str (l.B.aside 0), .str (l.B.aside 1), .str (l.B.aside 2), .str (l.B.aside 3), .str (l.B.aside 4), .str (l.B.aside 5), .str (l.B.aside 6), .str (l.B.aside 7), .str (l.B.aside 8), .str (l.B.aside 9), .str (l.B.aside 10), .str (l.B.aside 11), .str (l.B.aside 12), .str (l.B.aside 13), .str (l.B.aside 14), .str (l.B.aside 15), .str l.B.read, .bool l.B.ack, strs l.T, strs l.K, .str l.S, .str l.R, .str l.C, .str l.D]
theorem step_fs (l : Ln) {i : Nat} (p : Nat) (hp : p < 256) (h : LnOk i l) (hi : i ≤ 300) (ha : l.A.read = []) (hb : l.B.read = []) : Fsp Try.prog 16 [] 0 [l.pv, .int .u8 (p : Int)] [] 0 (.tup [(l.step p).pv, .bool true]) := by
  have hm : p % 8 = 0 ∨ p % 8 = 1 ∨ p % 8 = 2 ∨ p % 8 = 3 ∨ p % 8 = 4 ∨ p % 8 = 5 ∨ p % 8 = 6 ∨ p % 8 = 7 := by omega
  rcases hm with hm | hm | hm | hm | hm | hm | hm | hm
  · exact step0_fs l p hp hm h hi ha hb
  · exact step1_fs l p hp hm h hi ha hb
  · exact step2_fs l p hp hm h hi ha hb
  · exact step3_fs l p hp hm h hi ha hb
  · exact step4_fs l p hp hm h hi ha hb
  · exact step5_fs l p hp hm h hi ha hb
  · exact step6_fs l p hp hm h hi ha hb
  · exact step7_fs l p hp hm h hi ha hb
theorem lbegins_fs (s w : List UInt8) (h : w <+: s) : Fsp Try.prog 17 [] 0 [.str s, .str w] [] 0 (.bool true) := by
  have hl := h.length_le
  have h1 : decide ((w.length : Int) ≤ (s.length : Int)) = true := by simp; omega
  have h2 : List.take w.length s = w := (List.prefix_iff_eq_take.1 h).symm
  (refine Fsp.of (nx := 0) mixed Try.func17 rfl (by decide) (by first | exact Nat.le_refl _ | simp) (by simp [Try.f17]) ⟨by decide, by decide⟩ ?_; simp -implicitDefEqProofs only [push_cast, Try.f17, h1, h2, beq_self_eq_true, Int.reduceBEq, Int.reduceBNe, Int.reduceEq, Int.reduceNe, Int.reducePow, Nat.reduceAdd, Nat.reduceMul, Nat.reduceSub, Nat.reduceLT, Nat.reduceLeDiff, Nat.reduceEqDiff, Nat.reduceBEq, Int.reduceLT, Int.reduceLE, Int.reduceAdd, Int.reduceSub, Int.reduceMul, Int.reduceToNat, Int.reduceNeg, reduceIte, reduceCtorEq, reduceBEq])
  (repeat (first | refine ⟨by omega, ?_⟩ | refine ⟨by (unfold drawOk; kernel_rfl), ?_⟩ | refine ⟨by simp only [List.length_map, List.length_append, List.length_take, List.length_drop]; omega, ?_⟩))
  all_goals first | done | exact hl
def ln0 (a b : Nat) : Ln := ⟨{ End0 with most := ((1 + a % 5 : Nat) : Int) }, { End0 with most := ((1 + b % 5 : Nat) : Int) }, [], [], [], [], [], []⟩
theorem ln0_ok (a b : Nat) : LnOk 0 (ln0 a b) := new_ok _ _ (by omega) (by omega) (by omega) (by omega)
theorem line_fs (a b : Nat) (ha : a < 256) (hb : b < 256) : Fsp Try.prog 15 [] 0 [.int .u8 (a : Int), .int .u8 (b : Int)] [] 0 (.tup [(ln0 a b).pv, .bool true]) := by
  obtain ⟨x, hx⟩ : ∃ x, x = 1 + a % 5 := ⟨_, rfl⟩
  obtain ⟨y, hy⟩ : ∃ y, y = 1 + b % 5 := ⟨_, rfl⟩
  have hx5 : 1 ≤ x ∧ x ≤ 5 := by omega
  have hy5 : 1 ≤ y ∧ y ≤ 5 := by omega
  have w1 : Int.tmod (a : Int) 5 = ((x - 1 : Nat) : Int) := by rw [Int.tmod_eq_emod_of_nonneg (by omega)]; omega
  have w2 : Int.tmod (b : Int) 5 = ((y - 1 : Nat) : Int) := by rw [Int.tmod_eq_emod_of_nonneg (by omega)]; omega
  have v1 : IntKind.i64.wrap ((x - 1 : Nat) : Int) = ((x - 1 : Nat) : Int) := by rw [wrap_i64_id (by omega) (by omega)]
  have v2 : IntKind.i64.wrap ((y - 1 : Nat) : Int) = ((y - 1 : Nat) : Int) := by rw [wrap_i64_id (by omega) (by omega)]
  have u1 : IntKind.i64.wrap (1 + ((x - 1 : Nat) : Int)) = (x : Int) := by rw [wrap_i64_id (by omega) (by omega)]; omega
  have u2 : IntKind.i64.wrap (1 + ((y - 1 : Nat) : Int)) = (y : Int) := by rw [wrap_i64_id (by omega) (by omega)]; omega
  obtain ⟨x', hx'⟩ : ∃ x', x' = x - 1 := ⟨_, rfl⟩
  obtain ⟨y', hy'⟩ : ∃ y', y' = y - 1 := ⟨_, rfl⟩
  rw [← hx'] at w1 v1 u1
  rw [← hy'] at w2 v2 u2
  have hn1 := new_fs (x : Int)
  rw [newR, if_neg (by simp; omega)] at hn1
  have hn2 := new_fs (y : Int)
  rw [newR, if_neg (by simp; omega)] at hn2
  simp only [En.pv, En.cs, pcs, End0, List.map_nil] at hn1 hn2
  rw [ln0, ← hx, ← hy]
  simp only [Ln.pv, strs, pcs, End0, List.map_nil]
  (refine Fsp.of (nx := 0) mixed Try.func15 rfl (by decide) (by first | exact Nat.le_refl _ | simp) (by simp [Try.f15]) ⟨by decide, by decide⟩ ?_; simp -implicitDefEqProofs only [push_cast, Try.f15, w1, w2, v1, v2, u1, u2, Int.reduceBEq, Int.reduceBNe, Int.reduceEq, Int.reduceNe, Int.reducePow, Nat.reduceAdd, Nat.reduceMul, Nat.reduceSub, Nat.reduceLT, Nat.reduceLeDiff, Nat.reduceEqDiff, Nat.reduceBEq, Int.reduceLT, Int.reduceLE, Int.reduceAdd, Int.reduceSub, Int.reduceMul, Int.reduceToNat, Int.reduceNeg, reduceIte, reduceCtorEq, reduceBEq])
  refine callE_pure hn1 (by rfl) (by rfl) (by rfl) (by decide) (by rfl) (fun _ => by rfl) (by first | rfl | simp [gdOk, newToks]) ?_
  simp -implicitDefEqProofs only [push_cast, w2, v2, u2, Int.reduceBEq, Int.reduceBNe, Int.reduceEq, Int.reduceNe, Int.reducePow, Nat.reduceAdd, Nat.reduceMul, Nat.reduceSub, Nat.reduceLT, Nat.reduceLeDiff, Nat.reduceEqDiff, Nat.reduceBEq, Int.reduceLT, Int.reduceLE, Int.reduceAdd, Int.reduceSub, Int.reduceMul, Int.reduceToNat, Int.reduceNeg, reduceIte, reduceCtorEq, reduceBEq]
  refine callE_pure hn2 (by rfl) (by rfl) (by rfl) (by decide) (by rfl) (fun _ => by rfl) (by first | rfl | simp [gdOk, newToks]) ?_
  simp -implicitDefEqProofs only [push_cast, Int.reduceBEq, Int.reduceBNe, Int.reduceEq, Int.reduceNe, Int.reducePow, Nat.reduceAdd, Nat.reduceMul, Nat.reduceSub, Nat.reduceLT, Nat.reduceLeDiff, Nat.reduceEqDiff, Nat.reduceBEq, Int.reduceLT, Int.reduceLE, Int.reduceAdd, Int.reduceSub, Int.reduceMul, Int.reduceToNat, Int.reduceNeg, reduceIte, reduceCtorEq, reduceBEq]
  (repeat (first | refine ⟨by omega, ?_⟩ | refine ⟨by (unfold drawOk; kernel_rfl), ?_⟩ | refine ⟨by simp only [List.length_map, List.length_append, List.length_take, List.length_drop]; omega, ?_⟩))
  all_goals exact ⟨_, rfl, by simp [wkL, res2, res1, PV.weak, PV.el, pcs, strs]⟩
def u8s (l : List Nat) : List PV := l.map fun n : Nat => PV.int .u8 (n : Int)
theorem u8s_at {l : List Nat} {i : Nat} (h : i < l.length) : (u8s l)[i]? = some (.int .u8 (l.getD i 0 : Nat)) := by
  rw [u8s, List.getElem?_map, List.getElem?_eq_getElem h, List.getD_eq_getElem?_getD, List.getElem?_eq_getElem h]; rfl
structure OrS (ps : List Nat) where
  i : Nat
  hi : i ≤ ps.length
  l : Ln
  h : LnOk i l
  ha : l.A.read = []
  hb : l.B.read = []
def OrS.st (a b : Nat) {ps : List Nat} (s : OrS ps) : PS := { n := 56, env := [(7, .int .i64 s.i), (6, .bool true), (5, .box 52 0), (4, .bool false), (1, .sl 1 (u8s ps))], objs := [(52, some s.l.cs)], live := [], nxt := 60 }
set_option maxHeartbeats 8000000 in
theorem linkOrders_fs (a b : Nat) (ps : List Nat) (ha : a < 256) (hb : b < 256) (hps : ∀ p ∈ ps, p < 256) : Fsp Try.prog 5 [] 0 [.agg [.int .u8 (a : Int), .int .u8 (b : Int)], .sl 1 (u8s ps)] [] 0 (.bool true) := by
  have hul : ((u8s ps).length : Int) = (ps.length : Int) := by rw [u8s, List.length_map]
  cases h0 : decide ((300 : Int) < (ps.length : Int))
  · have hpl : ps.length ≤ 300 := by simp at h0; omega
    have hln := line_fs a b ha hb
    obtain ⟨l0, hl0⟩ : ∃ l0, l0 = ln0 a b := ⟨_, rfl⟩
    have hok := ln0_ok a b
    have hra : (ln0 a b).A.read = [] := rfl
    have hrb : (ln0 a b).B.read = [] := rfl
    rw [← hl0] at hln hok hra hrb
    simp only [Ln.pv, strs, pcs] at hln
    (refine Fsp.of (nx := 0) mixed Try.func5 rfl (by decide) (by first | exact Nat.le_refl _ | simp) (by simp [Try.f5]) ⟨by decide, by decide⟩ ?_; simp -implicitDefEqProofs only [push_cast, Try.f5, hul, h0, Int.reduceBEq, Int.reduceBNe, Int.reduceEq, Int.reduceNe, Int.reducePow, Nat.reduceAdd, Nat.reduceMul, Nat.reduceSub, Nat.reduceLT, Nat.reduceLeDiff, Nat.reduceEqDiff, Nat.reduceBEq, Int.reduceLT, Int.reduceLE, Int.reduceAdd, Int.reduceSub, Int.reduceMul, Int.reduceToNat, Int.reduceNeg, reduceIte, reduceCtorEq, reduceBEq])
    (repeat (first | refine ⟨by omega, ?_⟩ | refine ⟨by (unfold drawOk; kernel_rfl), ?_⟩ | refine ⟨by simp only [List.length_map, List.length_append, List.length_take, List.length_drop]; omega, ?_⟩))
    refine callE_pure hln (by rfl) (by rfl) (by rfl) (by decide) (by rfl) (fun _ => by rfl) (by first | rfl | simp [gdOk, newToks]) ?_
    simp -implicitDefEqProofs only [push_cast, Int.reduceBEq, Int.reduceBNe, Int.reduceEq, Int.reduceNe, Int.reducePow, Nat.reduceAdd, Nat.reduceMul, Nat.reduceSub, Nat.reduceLT, Nat.reduceLeDiff, Nat.reduceEqDiff, Nat.reduceBEq, Int.reduceLT, Int.reduceLE, Int.reduceAdd, Int.reduceSub, Int.reduceMul, Int.reduceToNat, Int.reduceNeg, reduceIte, reduceCtorEq, reduceBEq]
    refine loopC_of (α := OrS ps) (OrS.st a b) (fun s => ps.length - s.i) ⟨0, by omega, l0, hok, hra, hrb⟩ ?_ ?_
    · (simp only [OrS.st, Ln.cs, strs, pcs]; exact Wk.by _ _ _ [(52, 52)] [] [] (by simp) (by simp [wkV, PV.el, PV.weak, PS.get, PS.obj, PS.lv, lkp_hit, lkp_miss, lkp_nil, lko]) (by simp [PS.get, PS.obj, PS.lv, lkp_hit, lkp_miss, lkp_nil, lko, wkL, wkC, PV.weak]) (by simp [PS.get, PS.obj, PS.lv, lkp_hit, lkp_miss, lkp_nil, lko]) (by rfl) (by rfl) (by simp [lko]) (by simp) (by simp) (by simp) (fun i hi => absurd hi (Nat.not_lt_zero i)))
    · rintro ⟨i, hi, l, h, hA, hB⟩
      simp -implicitDefEqProofs only [push_cast, OrS.st, Ln.cs, strs, pcs, hul, Int.reduceBEq, Int.reduceBNe, Int.reduceEq, Int.reduceNe, Int.reducePow, Nat.reduceAdd, Nat.reduceMul, Nat.reduceSub, Nat.reduceLT, Nat.reduceLeDiff, Nat.reduceEqDiff, Nat.reduceBEq, Int.reduceLT, Int.reduceLE, Int.reduceAdd, Int.reduceSub, Int.reduceMul, Int.reduceToNat, Int.reduceNeg, reduceIte, reduceCtorEq, reduceBEq]
      cases h1 : decide ((i : Int) < (ps.length : Int))
      · have hii : ¬ i < ps.length := by simp at h1; omega
        simp -implicitDefEqProofs only [push_cast, h1, Int.reduceBEq, Int.reduceBNe, Int.reduceEq, Int.reduceNe, Int.reducePow, Nat.reduceAdd, Nat.reduceMul, Nat.reduceSub, Nat.reduceLT, Nat.reduceLeDiff, Nat.reduceEqDiff, Nat.reduceBEq, Int.reduceLT, Int.reduceLE, Int.reduceAdd, Int.reduceSub, Int.reduceMul, Int.reduceToNat, Int.reduceNeg, reduceIte, reduceCtorEq, reduceBEq]
        (repeat (first | refine ⟨by omega, ?_⟩ | refine ⟨by (unfold drawOk; kernel_rfl), ?_⟩ | refine ⟨by simp only [List.length_map, List.length_append, List.length_take, List.length_drop]; omega, ?_⟩))
        refine callE_pure awake_fs (by rfl) (by rfl) (by rfl) (by decide) (by rfl) (fun _ => by rfl) (by first | rfl | simp [gdOk, newToks]) ?_
        simp -implicitDefEqProofs only [push_cast, Int.reduceBEq, Int.reduceBNe, Int.reduceEq, Int.reduceNe, Int.reducePow, Nat.reduceAdd, Nat.reduceMul, Nat.reduceSub, Nat.reduceLT, Nat.reduceLeDiff, Nat.reduceEqDiff, Nat.reduceBEq, Int.reduceLT, Int.reduceLE, Int.reduceAdd, Int.reduceSub, Int.reduceMul, Int.reduceToNat, Int.reduceNeg, reduceIte, reduceCtorEq, reduceBEq]
      · have hlt : i < ps.length := by simp at h1; omega
        have hg := u8s_at hlt
        have hgd : (u8s ps).getD i PV.any = .int .u8 (ps.getD i 0 : Nat) := by rw [List.getD_eq_getElem?_getD, hg]; rfl
        have hp : ps.getD i 0 < 256 := by
          rw [List.getD_eq_getElem?_getD, List.getElem?_eq_getElem hlt]
          exact hps _ (List.getElem_mem hlt)
        have hst := step_fs l (ps.getD i 0) hp h (by omega) hA hB
        obtain ⟨k1, k2, k3⟩ := step_ok h (by omega) (ps.getD i 0) hA hB
        obtain ⟨b1, b2⟩ := k1.begins
        have hbe1 := lbegins_fs _ _ b1
        have hbe2 := lbegins_fs _ _ b2
        have hwr : IntKind.i64.wrap ((i : Int) + 1) = ((i + 1 : Nat) : Int) := by (rw [wrap_i64_id (by omega) (by omega)]; rfl)
        simp only [Ln.pv, strs, pcs] at hst
        generalize ps.getD i 0 = q at *
        generalize l.step q = X at *
        simp -implicitDefEqProofs only [push_cast, h1, hg, hgd, Int.reduceBEq, Int.reduceBNe, Int.reduceEq, Int.reduceNe, Int.reducePow, Nat.reduceAdd, Nat.reduceMul, Nat.reduceSub, Nat.reduceLT, Nat.reduceLeDiff, Nat.reduceEqDiff, Nat.reduceBEq, Int.reduceLT, Int.reduceLE, Int.reduceAdd, Int.reduceSub, Int.reduceMul, Int.reduceToNat, Int.reduceNeg, reduceIte, reduceCtorEq, reduceBEq]
        (repeat (first | refine ⟨by omega, ?_⟩ | refine ⟨by (unfold drawOk; kernel_rfl), ?_⟩ | refine ⟨by simp only [List.length_map, List.length_append, List.length_take, List.length_drop]; omega, ?_⟩))
        refine callE_pure hst (by rfl) (by rfl) (by rfl) (by decide) (by rfl) (fun _ => by rfl) (by first | rfl | simp [gdOk, newToks]) ?_
        simp -implicitDefEqProofs only [push_cast, Int.reduceBEq, Int.reduceBNe, Int.reduceEq, Int.reduceNe, Int.reducePow, Nat.reduceAdd, Nat.reduceMul, Nat.reduceSub, Nat.reduceLT, Nat.reduceLeDiff, Nat.reduceEqDiff, Nat.reduceBEq, Int.reduceLT, Int.reduceLE, Int.reduceAdd, Int.reduceSub, Int.reduceMul, Int.reduceToNat, Int.reduceNeg, reduceIte, reduceCtorEq, reduceBEq]
        (repeat (first | refine ⟨by omega, ?_⟩ | refine ⟨by (unfold drawOk; kernel_rfl), ?_⟩ | refine ⟨by simp only [List.length_map, List.length_append, List.length_take, List.length_drop]; omega, ?_⟩))
        refine callE_pure hbe1 (by rfl) (by rfl) (by rfl) (by decide) (by rfl) (fun _ => by rfl) (by first | rfl | simp [gdOk, newToks]) ?_
        simp -implicitDefEqProofs only [push_cast, Int.reduceBEq, Int.reduceBNe, Int.reduceEq, Int.reduceNe, Int.reducePow, Nat.reduceAdd, Nat.reduceMul, Nat.reduceSub, Nat.reduceLT, Nat.reduceLeDiff, Nat.reduceEqDiff, Nat.reduceBEq, Int.reduceLT, Int.reduceLE, Int.reduceAdd, Int.reduceSub, Int.reduceMul, Int.reduceToNat, Int.reduceNeg, reduceIte, reduceCtorEq, reduceBEq]
        (repeat (first | refine ⟨by omega, ?_⟩ | refine ⟨by (unfold drawOk; kernel_rfl), ?_⟩ | refine ⟨by simp only [List.length_map, List.length_append, List.length_take, List.length_drop]; omega, ?_⟩))
        refine callE_pure hbe2 (by rfl) (by rfl) (by rfl) (by decide) (by rfl) (fun _ => by rfl) (by first | rfl | simp [gdOk, newToks]) ?_
        simp -implicitDefEqProofs only [push_cast, hwr, Int.reduceBEq, Int.reduceBNe, Int.reduceEq, Int.reduceNe, Int.reducePow, Nat.reduceAdd, Nat.reduceMul, Nat.reduceSub, Nat.reduceLT, Nat.reduceLeDiff, Nat.reduceEqDiff, Nat.reduceBEq, Int.reduceLT, Int.reduceLE, Int.reduceAdd, Int.reduceSub, Int.reduceMul, Int.reduceToNat, Int.reduceNeg, reduceIte, reduceCtorEq, reduceBEq]
        (repeat (first | refine ⟨by omega, ?_⟩ | refine ⟨by (unfold drawOk; kernel_rfl), ?_⟩ | refine ⟨by simp only [List.length_map, List.length_append, List.length_take, List.length_drop]; omega, ?_⟩))
        refine ⟨⟨i + 1, by omega, X, k1, k2, k3⟩, by simp only; omega, ?_⟩
        (simp only [OrS.st, Ln.cs, strs, pcs]; exact Wk.by _ _ _ [(52, 52)] [] [] (by simp) (by simp [wkV, PV.el, PV.weak, PS.get, PS.obj, PS.lv, lkp_hit, lkp_miss, lkp_nil, lko]) (by simp [PS.get, PS.obj, PS.lv, lkp_hit, lkp_miss, lkp_nil, lko, wkL, wkC, PV.weak]) (by simp [PS.get, PS.obj, PS.lv, lkp_hit, lkp_miss, lkp_nil, lko]) (by rfl) (by rfl) (by simp [lko]) (by simp) (by simp) (by simp) (fun i hi => absurd hi (Nat.not_lt_zero i)))
  · (refine Fsp.of (nx := 0) mixed Try.func5 rfl (by decide) (by first | exact Nat.le_refl _ | simp) (by simp [Try.f5]) ⟨by decide, by decide⟩ ?_; simp -implicitDefEqProofs only [push_cast, Try.f5, hul, h0, Int.reduceBEq, Int.reduceBNe, Int.reduceEq, Int.reduceNe, Int.reducePow, Nat.reduceAdd, Nat.reduceMul, Nat.reduceSub, Nat.reduceLT, Nat.reduceLeDiff, Nat.reduceEqDiff, Nat.reduceBEq, Int.reduceLT, Int.reduceLE, Int.reduceAdd, Int.reduceSub, Int.reduceMul, Int.reduceToNat, Int.reduceNeg, reduceIte, reduceCtorEq, reduceBEq])
    (repeat (first | refine ⟨by omega, ?_⟩ | refine ⟨by (unfold drawOk; kernel_rfl), ?_⟩ | refine ⟨by simp only [List.length_map, List.length_append, List.length_take, List.length_drop]; omega, ?_⟩))
    refine callE_pure awake_fs (by rfl) (by rfl) (by rfl) (by decide) (by rfl) (fun _ => by rfl) (by first | rfl | simp [gdOk, newToks]) ?_
    simp -implicitDefEqProofs only [push_cast, Int.reduceBEq, Int.reduceBNe, Int.reduceEq, Int.reduceNe, Int.reducePow, Nat.reduceAdd, Nat.reduceMul, Nat.reduceSub, Nat.reduceLT, Nat.reduceLeDiff, Nat.reduceEqDiff, Nat.reduceBEq, Int.reduceLT, Int.reduceLE, Int.reduceAdd, Int.reduceSub, Int.reduceMul, Int.reduceToNat, Int.reduceNeg, reduceIte, reduceCtorEq, reduceBEq]

end Go.Proofs.Lk
