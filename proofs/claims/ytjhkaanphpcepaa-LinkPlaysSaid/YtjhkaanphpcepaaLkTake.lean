/- take: a piece that came. -/
import Derived.Test.YtjhkaanphpcepaaLkAckn
set_option maxRecDepth 100000
set_option linter.unusedSimpArgs false
set_option linter.unusedVariables false
namespace Go.Proofs.Lk
open Go.Pv


def En.shift (e : En) : En := { e with read := e.read ++ e.aside 0, aside := fun j => e.aside (j + 1), exp := e.exp + 1 }
def shL : Nat → En → En
  | 0, e => e
  | k + 1, e => if (e.aside 0 != []) = true then shL k e.shift else e
def En.lay (e : En) (k : Nat) (b : List UInt8) : En := { e with aside := fun j => if j = k then b else e.aside j }
def En.acked (e : En) : En := { e with ack := true }
def En.took (e : En) (n : Int) (b : List UInt8) : En :=
  if decide (n < e.exp) = true then e.acked else if (e.aside (n - e.exp).toNat != []) = true then e.acked else shL 17 (e.acked.lay (n - e.exp).toNat b)
theorem at_aside (a0 a1 a2 a3 a4 : PV) (f : Nat → List UInt8) (x y : PV) {k : Nat} (hk : k < 16) : (List.drop (5 + k * 1) [a0, a1, a2, a3, a4, .str (f 0), .str (f 1), .str (f 2), .str (f 3), .str (f 4), .str (f 5), .str (f 6), .str (f 7), .str (f 8), .str (f 9), .str (f 10), .str (f 11), .str (f 12), .str (f 13), .str (f 14), .str (f 15), x, y]).getD 0 .any = .str (f k) := by
  have : k = 0 ∨ k = 1 ∨ k = 2 ∨ k = 3 ∨ k = 4 ∨ k = 5 ∨ k = 6 ∨ k = 7 ∨ k = 8 ∨ k = 9 ∨ k = 10 ∨ k = 11 ∨ k = 12 ∨ k = 13 ∨ k = 14 ∨ k = 15 := by omega
  rcases this with rfl | rfl | rfl | rfl | rfl | rfl | rfl | rfl | rfl | rfl | rfl | rfl | rfl | rfl | rfl | rfl <;> rfl
theorem set_aside (a0 a1 a2 a3 a4 : PV) (f : Nat → List UInt8) (x y : PV) (b : List UInt8) {k : Nat} (hk : k < 16) : List.take (5 + k * 1) [a0, a1, a2, a3, a4, .str (f 0), .str (f 1), .str (f 2), .str (f 3), .str (f 4), .str (f 5), .str (f 6), .str (f 7), .str (f 8), .str (f 9), .str (f 10), .str (f 11), .str (f 12), .str (f 13), .str (f 14), .str (f 15), x, y] ++ .str b :: List.drop (5 + k * 1) [a1, a2, a3, a4, .str (f 0), .str (f 1), .str (f 2), .str (f 3), .str (f 4), .str (f 5), .str (f 6), .str (f 7), .str (f 8), .str (f 9), .str (f 10), .str (f 11), .str (f 12), .str (f 13), .str (f 14), .str (f 15), x, y] = [a0, a1, a2, a3, a4, .str (if 0 = k then b else f 0), .str (if 1 = k then b else f 1), .str (if 2 = k then b else f 2), .str (if 3 = k then b else f 3), .str (if 4 = k then b else f 4), .str (if 5 = k then b else f 5), .str (if 6 = k then b else f 6), .str (if 7 = k then b else f 7), .str (if 8 = k then b else f 8), .str (if 9 = k then b else f 9), .str (if 10 = k then b else f 10), .str (if 11 = k then b else f 11), .str (if 12 = k then b else f 12), .str (if 13 = k then b else f 13), .str (if 14 = k then b else f 14), .str (if 15 = k then b else f 15), x, y] := by
  have : k = 0 ∨ k = 1 ∨ k = 2 ∨ k = 3 ∨ k = 4 ∨ k = 5 ∨ k = 6 ∨ k = 7 ∨ k = 8 ∨ k = 9 ∨ k = 10 ∨ k = 11 ∨ k = 12 ∨ k = 13 ∨ k = 14 ∨ k = 15 := by omega
  rcases this with rfl | rfl | rfl | rfl | rfl | rfl | rfl | rfl | rfl | rfl | rfl | rfl | rfl | rfl | rfl | rfl <;> rfl
structure TkS (d : En) where
  t : Nat
  ht : t ≤ 16
  c : En
  h : shL (17 - t) c = shL 17 d
  ha : ∀ j, c.aside j = d.aside (j + t)
  he : c.exp = d.exp + t
  hr : c.read.length ≤ d.read.length + t * 1000000
def TkS.st {d : En} (a : TkS d) : PS := { n := 71, env := [(0, .box 0 0)], objs := [(0, some (a.c.own 50))], live := [(50, true)], nxt := 60 }
theorem take_fs (e : En) (n : Int) (b : List UInt8) (h0 : 0 ≤ n) (h1 : n ≤ e.exp + 15) (h2x : 0 ≤ e.exp) (h3x : e.exp ≤ 1000000000) (ha : ∀ j, 16 ≤ j → e.aside j = []) (hb : b.length ≤ 1000000) (hal : ∀ j, (e.aside j).length ≤ 1000000) (hrl : e.read.length ≤ 1000000000) :
    Fsp Try.prog 39 [e.own 0] 1 [.box 0 0, .int .i64 n, .str b] [(e.took n b).own 0] 1 (.tup []) := by
  (refine Fsp.of (nx := 1) mixed Try.func39 rfl (by decide) (Nat.le_refl _) (by simp [Try.f39]) ⟨by simp, by simp⟩ ?_; simp -implicitDefEqProofs only [push_cast, Try.f39, En.own, En.cs, Int.reduceBEq, Int.reduceBNe, Int.reduceEq, Int.reduceNe, Int.reducePow, Nat.reduceAdd, Nat.reduceMul, Nat.reduceSub, Nat.reduceLT, Nat.reduceLeDiff, Nat.reduceEqDiff, Nat.reduceBEq, Int.reduceLT, Int.reduceLE, Int.reduceAdd, Int.reduceSub, Int.reduceMul, Int.reduceToNat, Int.reduceNeg, reduceIte, reduceCtorEq, reduceBEq])
  refine condC_split (fun h => ?_) (fun h => ?_)
  · rw [show e.took n b = e.acked by rw [En.took, if_pos h]]
    simp -implicitDefEqProofs only [push_cast, En.own, En.cs, En.acked, Int.reduceBEq, Int.reduceBNe, Int.reduceEq, Int.reduceNe, Int.reducePow, Nat.reduceAdd, Nat.reduceMul, Nat.reduceSub, Nat.reduceLT, Nat.reduceLeDiff, Nat.reduceEqDiff, Nat.reduceBEq, Int.reduceLT, Int.reduceLE, Int.reduceAdd, Int.reduceSub, Int.reduceMul, Int.reduceToNat, Int.reduceNeg, reduceIte, reduceCtorEq, reduceBEq]
    refine endK_box1 [0] rfl rfl (by simp [PS.lv, lkp_hit]) (by simp [PS.obj, lkp_hit]; rfl) (by simp [wkL, res1, PV.weak, En.acked]) ⟨by simp [resOk], by simp [resPV], by simp [resOf, resPV, one', res3, wkL]⟩
  · have hn : e.exp ≤ n := by simp at h; omega
    obtain ⟨k, hk⟩ := Int.eq_ofNat_of_zero_le (show 0 ≤ n - e.exp by omega)
    have hk16 : k < 16 := by omega
    have hw : IntKind.i64.wrap (n - e.exp) = (k : Int) := by rw [wrap_i64_id (by omega) (by omega), hk]
    have hk0 : ((k : Nat) : Int) < 16 := by omega
    have hle : 5 + k * 1 + 1 ≤ 23 := by omega
    have hle1 : 1 ≤ 23 - (5 + k * 1) := by omega
    simp -implicitDefEqProofs only [push_cast, hw, hk0, hk16, hle, hle1, at_aside, set_aside, Int.reduceBEq, Int.reduceBNe, Int.reduceEq, Int.reduceNe, Int.reducePow, Nat.reduceAdd, Nat.reduceMul, Nat.reduceSub, Nat.reduceLT, Nat.reduceLeDiff, Nat.reduceEqDiff, Nat.reduceBEq, Int.reduceLT, Int.reduceLE, Int.reduceAdd, Int.reduceSub, Int.reduceMul, Int.reduceToNat, Int.reduceNeg, reduceIte, reduceCtorEq, reduceBEq]
    refine ⟨by unfold drawOk; kernel_rfl, by simp; omega, ?_⟩
    have hkn : (n - e.exp).toNat = k := by omega
    refine condC_split (fun h2 => ?_) (fun h2 => ?_)
    · rw [show e.took n b = e.acked by rw [En.took, if_neg (by rw [h]; exact Bool.false_ne_true), hkn, if_pos h2]]
      simp -implicitDefEqProofs only [push_cast, En.own, En.cs, En.acked, Int.reduceBEq, Int.reduceBNe, Int.reduceEq, Int.reduceNe, Int.reducePow, Nat.reduceAdd, Nat.reduceMul, Nat.reduceSub, Nat.reduceLT, Nat.reduceLeDiff, Nat.reduceEqDiff, Nat.reduceBEq, Int.reduceLT, Int.reduceLE, Int.reduceAdd, Int.reduceSub, Int.reduceMul, Int.reduceToNat, Int.reduceNeg, reduceIte, reduceCtorEq, reduceBEq]
      refine endK_box1 [0] rfl rfl (by simp [PS.lv, lkp_hit]) (by simp [PS.obj, lkp_hit]; rfl) (by simp [wkL, res1, PV.weak, En.acked]) ⟨by simp [resOk], by simp [resPV], by simp [resOf, resPV, one', res3, wkL]⟩
    · rw [show e.took n b = shL 17 (e.acked.lay k b) by rw [En.took, if_neg (by rw [h]; exact Bool.false_ne_true), hkn, if_neg (by rw [h2]; exact Bool.false_ne_true)]]
      generalize hR : shL 17 (e.acked.lay k b) = R
      simp -implicitDefEqProofs only [push_cast, En.own, En.cs, hw, hk0, hk16, hle, hle1, at_aside, set_aside, Int.reduceBEq, Int.reduceBNe, Int.reduceEq, Int.reduceNe, Int.reducePow, Nat.reduceAdd, Nat.reduceMul, Nat.reduceSub, Nat.reduceLT, Nat.reduceLeDiff, Nat.reduceEqDiff, Nat.reduceBEq, Int.reduceLT, Int.reduceLE, Int.reduceAdd, Int.reduceSub, Int.reduceMul, Int.reduceToNat, Int.reduceNeg, reduceIte, reduceCtorEq, reduceBEq]
      refine loopC_of (α := TkS (e.acked.lay k b)) TkS.st (fun a => 17 - a.t) ⟨0, by omega, e.acked.lay k b, rfl, fun j => rfl, by simp, by simp⟩ ?_ ?_
      · (simp only [TkS.st, En.own, En.cs, En.lay, En.acked]; exact Wk.by _ _ _ [(0, 0)] [(50, 0)] [] (by simp) (by simp [wkV, PV.el, PV.weak, PS.get, PS.obj, PS.lv, lkp_hit, lkp_miss, lkp_nil, lko]) (by simp [PS.get, PS.obj, PS.lv, lkp_hit, lkp_miss, lkp_nil, lko, wkL, wkC, PV.weak]) (by simp [PS.get, PS.obj, PS.lv, lkp_hit, lkp_miss, lkp_nil, lko]) (by rfl) (by rfl) (by simp [lko]) (by simp) (by simp) (by simp) (fun i hi => by cases Nat.lt_one_iff.1 hi; rfl))
      · rintro ⟨t, ht, c, hc, hca, hce, hcr⟩
        have hdl : ∀ j, ((e.acked.lay k b).aside j).length ≤ 1000000 := by
          intro j; simp only [En.lay, En.acked]; split
          · exact hb
          · exact hal j
        simp -implicitDefEqProofs only [push_cast, TkS.st, En.own, En.cs, Int.reduceBEq, Int.reduceBNe, Int.reduceEq, Int.reduceNe, Int.reducePow, Nat.reduceAdd, Nat.reduceMul, Nat.reduceSub, Nat.reduceLT, Nat.reduceLeDiff, Nat.reduceEqDiff, Nat.reduceBEq, Int.reduceLT, Int.reduceLE, Int.reduceAdd, Int.reduceSub, Int.reduceMul, Int.reduceToNat, Int.reduceNeg, reduceIte, reduceCtorEq, reduceBEq]
        refine condC_split (fun h3 => ?_) (fun h3 => ?_)
        · simp -implicitDefEqProofs only [push_cast, Int.reduceBEq, Int.reduceBNe, Int.reduceEq, Int.reduceNe, Int.reducePow, Nat.reduceAdd, Nat.reduceMul, Nat.reduceSub, Nat.reduceLT, Nat.reduceLeDiff, Nat.reduceEqDiff, Nat.reduceBEq, Int.reduceLT, Int.reduceLE, Int.reduceAdd, Int.reduceSub, Int.reduceMul, Int.reduceToNat, Int.reduceNeg, reduceIte, reduceCtorEq, reduceBEq]
          have hd16 : ∀ j, 16 ≤ j → (e.acked.lay k b).aside j = [] := by
            intro j hj; simp only [En.lay, En.acked]; rw [if_neg (by omega)]; exact ha j hj
          have ht16 : t < 16 := by
            rcases Nat.lt_or_ge t 16 with h4 | h4
            · exact h4
            · have := hca 0
              rw [Nat.zero_add, hd16 t h4] at this
              rw [this] at h3
              cases h3
          have hl0 : (c.aside 0).length ≤ 1000000 := by rw [hca 0]; exact hdl _
          have hdr : (e.acked.lay k b).read.length ≤ 1000000000 := hrl
          have h16 : c.aside 16 = [] := by rw [hca 16]; exact hd16 _ (by omega)
          have hdx : (e.acked.lay k b).exp ≤ 1000000000 := h3x
          have hdx0 : 0 ≤ (e.acked.lay k b).exp := h2x
          refine ⟨by omega, by unfold drawOk; kernel_rfl, by unfold drawOk; kernel_rfl, ?_⟩
          rw [wrap_i64_id (n := c.exp + 1) (by omega) (by omega)]
          refine ⟨⟨t + 1, by omega, c.shift, ?_, ?_, ?_, ?_⟩, by simp only; omega, ?_⟩
          · rw [← hc]
            obtain ⟨m, hm⟩ : ∃ m, 17 - t = m + 1 := ⟨16 - t, by omega⟩
            rw [hm, shL, if_pos h3, show 17 - (t + 1) = m by omega]
          · intro j
            show c.aside (j + 1) = _
            rw [hca, show j + 1 + t = j + (t + 1) by omega]
          · show c.exp + 1 = _
            omega
          · simp only [En.shift, List.length_append]; omega
          · (simp only [TkS.st, En.own, En.cs, En.shift]; exact Wk.by _ _ _ [(0, 0)] [(50, 50)] [] (by simp) (by simp [wkV, PV.el, PV.weak, PS.get, PS.obj, PS.lv, lkp_hit, lkp_miss, lkp_nil, lko, h16]) (by simp [PS.get, PS.obj, PS.lv, lkp_hit, lkp_miss, lkp_nil, lko, wkL, wkC, PV.weak, h16]) (by simp [PS.get, PS.obj, PS.lv, lkp_hit, lkp_miss, lkp_nil, lko]) (by rfl) (by rfl) (by simp [lko]) (by simp) (by simp) (by simp) (fun i hi => by cases Nat.lt_one_iff.1 hi; rfl))
        · simp -implicitDefEqProofs only [push_cast, Int.reduceBEq, Int.reduceBNe, Int.reduceEq, Int.reduceNe, Int.reducePow, Nat.reduceAdd, Nat.reduceMul, Nat.reduceSub, Nat.reduceLT, Nat.reduceLeDiff, Nat.reduceEqDiff, Nat.reduceBEq, Int.reduceLT, Int.reduceLE, Int.reduceAdd, Int.reduceSub, Int.reduceMul, Int.reduceToNat, Int.reduceNeg, reduceIte, reduceCtorEq, reduceBEq]
          have hcc : R = c := by
            rw [← hR, ← hc]
            obtain ⟨m, hm⟩ : ∃ m, 17 - t = m + 1 := ⟨16 - t, by omega⟩
            rw [hm, shL, if_neg (by rw [h3]; exact Bool.false_ne_true)]
          subst hcc
          refine endK_box1 [50] rfl rfl (by simp [PS.lv, lkp_hit]) (by simp [PS.obj, lkp_hit]; rfl) (by simp [wkL, res1, PV.weak]) ⟨by simp [resOk], by simp [resPV], by simp [resOf, resPV, one', res3, wkL]⟩
end Go.Proofs.Lk
