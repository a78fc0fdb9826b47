/- The document's layer 2: Val, take, noughts. -/
import Derived.Test.YtafleenajffpkaaDoorTlRfE
import Derived.Test.YtafleenajffpkaaDoorPkGet
import Derived.Test.YtafleenajffpkaaDoorTlTrip
set_option maxRecDepth 100000
set_option linter.unusedSimpArgs false
set_option linter.unusedVariables false
namespace Go.Proofs.Sh
open Go.Pv

/-- The number that bytes tell, the greatest first. -/
def wv (l : List UInt8) : Nat := l.foldl (fun v x => 256 * v + x.toNat) 0
theorem wv_snoc (l : List UInt8) (x : UInt8) : wv (l ++ [x]) = 256 * wv l + x.toNat := by simp [wv]
theorem wv_rev : ∀ l : List UInt8, wv l.reverse = little l
  | [] => rfl
  | x :: l => by rw [List.reverse_cons, wv_snoc, wv_rev l, little]; omega
def seqB (o : Int) (b : List UInt8) : List UInt8 := if (o == 1) = true then b else b.reverse
theorem seqB_len (o : Int) (b : List UInt8) : (seqB o b).length = b.length := by unfold seqB; split <;> simp
theorem wv_seq (o : Int) (b : List UInt8) : wv (seqB o b) = decU o b := by
  unfold seqB decU
  split
  · rw [← wv_rev, List.reverse_reverse]
  · rw [wv_rev]
theorem wv_take {l : List UInt8} {i : Nat} (h : i < l.length) : wv (l.take (i + 1)) = 256 * wv (l.take i) + (l.getD i 0).toNat := by
  rw [List.take_succ_eq_append_getElem h, wv_snoc, List.getD_eq_getElem?_getD, List.getElem?_eq_getElem h]; rfl
theorem wv_lt : ∀ (i : Nat) {l : List UInt8}, i ≤ l.length → wv (l.take i) < 256 ^ i
  | 0, l, _ => by simp [wv]
  | i + 1, l, h => by
    rw [wv_take (by omega)]
    have h1 := wv_lt i (l := l) (by omega)
    have h2 := (l.getD i 0).toNat_lt
    rw [Nat.pow_succ]
    omega
def p256 (i : Nat) : Nat := 256 ^ i
structure VaS (n : Nat) where
  i : Nat
  hi : i ≤ n
def VaS.st (o s : Int) (b : List UInt8) {n : Nat} (a : VaS n) : PS := { n := 47, env := [(10, .int .i64 a.i), (9, .int .i64 (p256 a.i : Nat)), (8, .int .i64 (wv ((seqB o b).take a.i) : Nat)), (7, .int .i64 n), (2, .str b), (1, .int .i64 s), (0, .int .i64 o)], objs := [], live := [], nxt := 60 }
set_option maxHeartbeats 4000000 in
theorem rval_fs {o s : Int} (ho : isOrder o) (hs : isSize s) (b : List UInt8) (h : b.length = wid s) : Fsp Tryd.prog 28 [] 0 [.int .i64 o, .int .i64 s, .str b] [] 0 (.int .i64 (readV o s b)) := by
  have hby := rbytes_fs hs
  have hw4 := wid_pos hs
  unfold readV
  (refine Fsp.of (nx := 0) mixed Tryd.func28 rfl (by decide) (by first | exact Nat.le_refl _ | simp) (by simp [Tryd.f28]) ⟨by decide, by decide⟩ ?_; simp -implicitDefEqProofs only [push_cast, Tryd.f28, Int.reduceBEq, Int.reduceBNe, Int.reduceEq, Int.reduceNe, Int.reducePow, Nat.reduceAdd, Nat.reduceMul, Nat.reduceSub, Nat.reduceLT, Nat.reduceLeDiff, Nat.reduceEqDiff, Nat.reduceBEq, Int.reduceLT, Int.reduceLE, Int.reduceAdd, Int.reduceSub, Int.reduceMul, Int.reduceToNat, Int.reduceNeg, reduceIte, reduceCtorEq, reduceBEq])
  refine callE_pure hby (by rfl) (by rfl) (by rfl) (by decide) (by rfl) (fun _ => by rfl) (by first | rfl | simp [gdOk, newToks]) ?_
  simp -implicitDefEqProofs only [push_cast, Int.reduceBEq, Int.reduceBNe, Int.reduceEq, Int.reduceNe, Int.reducePow, Nat.reduceAdd, Nat.reduceMul, Nat.reduceSub, Nat.reduceLT, Nat.reduceLeDiff, Nat.reduceEqDiff, Nat.reduceBEq, Int.reduceLT, Int.reduceLE, Int.reduceAdd, Int.reduceSub, Int.reduceMul, Int.reduceToNat, Int.reduceNeg, reduceIte, reduceCtorEq, reduceBEq]
  refine loopC_of (α := VaS (wid s)) (VaS.st o s b) (fun a => wid s - a.i) ⟨0, by omega⟩ ?_ ?_
  · (simp only [VaS.st]; exact Wk.by _ _ _ [] [] [] (by simp) (by simp [wkV, PV.el, PV.weak, PS.get, PS.obj, PS.lv, lkp_hit, lkp_miss, lkp_nil, lko, wv, p256]) (by simp [PS.get, PS.obj, PS.lv, lkp_hit, lkp_miss, lkp_nil, lko, wkL, wkC, PV.weak, wv, p256]) (by simp [PS.get, PS.obj, PS.lv, lkp_hit, lkp_miss, lkp_nil, lko]) (by rfl) (by rfl) (by simp [lko]) (by simp) (by simp) (by simp) (fun i hi => absurd hi (Nat.not_lt_zero i)))
  · rintro ⟨i, hi⟩
    simp -implicitDefEqProofs only [push_cast, VaS.st, Int.reduceBEq, Int.reduceBNe, Int.reduceEq, Int.reduceNe, Int.reducePow, Nat.reduceAdd, Nat.reduceMul, Nat.reduceSub, Nat.reduceLT, Nat.reduceLeDiff, Nat.reduceEqDiff, Nat.reduceBEq, Int.reduceLT, Int.reduceLE, Int.reduceAdd, Int.reduceSub, Int.reduceMul, Int.reduceToNat, Int.reduceNeg, reduceIte, reduceCtorEq, reduceBEq]
    refine condC_split (fun h3 => ?_) (fun h3 => ?_)
    · have hlt : i < wid s := by simp at h3; omega
      have hp : p256 i ≤ 256 ^ 3 := Nat.pow_le_pow_right (by omega) (by omega)
      have hwl : wv ((seqB o b).take i) < p256 i := wv_lt i (l := seqB o b) (by rw [seqB_len]; omega)
      have hws := wv_take (l := seqB o b) (i := i) (by rw [seqB_len]; omega)
      have hps : p256 (i + 1) = 256 * p256 i := by unfold p256; rw [Nat.pow_succ]; omega
      have hw1 : IntKind.i64.wrap ((i : Int) + 1) = ((i + 1 : Nat) : Int) := by (rw [wrap_i64_id (by omega) (by omega)]; rfl)
      have hw2 : IntKind.i64.wrap (256 * (p256 i : Int)) = (p256 (i + 1) : Int) := by (rw [wrap_i64_id (by omega) (by omega)]; omega)
      have hw3 : IntKind.i64.wrap (256 * (wv ((seqB o b).take i) : Int)) = 256 * (wv ((seqB o b).take i) : Int) := by (rw [wrap_i64_id (by omega) (by omega)])
      have hw4' : IntKind.i64.wrap ((wid s : Int) - 1) = (wid s : Int) - 1 := by (rw [wrap_i64_id (by omega) (by omega)])
      have hw5 : IntKind.i64.wrap ((wid s : Int) - 1 - (i : Int)) = ((wid s - 1 - i : Nat) : Int) := by (rw [wrap_i64_id (by omega) (by omega)]; omega)
      have hw6 : IntKind.i64.wrap (((seqB o b).getD i 0).toNat : Int) = (((seqB o b).getD i 0).toNat : Int) := by
        have := ((seqB o b).getD i 0).toNat_lt
        rw [wrap_i64_id (by omega) (by omega)]
      have hw7 : IntKind.i64.wrap (256 * (wv ((seqB o b).take i) : Int) + (((seqB o b).getD i 0).toNat : Int)) = (wv ((seqB o b).take (i + 1)) : Int) := by
        have := ((seqB o b).getD i 0).toNat_lt
        rw [wrap_i64_id (by omega) (by omega)]; omega
      obtain ⟨at', hat⟩ : ∃ at', at' = wid s - 1 - i := ⟨_, rfl⟩
      rw [← hat] at hw5
      have hget : (seqB o b).getD i 0 = b.getD (if o = 1 then i else at') 0 := by
        rcases ho with rfl | rfl
        · rw [if_neg (by decide)]
          show (if ((0 : Int) == 1) = true then b else b.reverse).getD i 0 = _
          rw [if_neg (by decide), List.getD_eq_getElem?_getD, List.getElem?_reverse (by omega), List.getD_eq_getElem?_getD, h, ← hat]
        · rw [if_pos rfl]; rfl
      generalize hx : (seqB o b).getD i 0 = x at *
      rcases ho with rfl | rfl
      · rw [if_neg (by decide)] at hget
        have hgb : b[at']? = some x := by rw [hget, List.getD_eq_getElem?_getD, List.getElem?_eq_getElem (by omega)]; rfl
        simp -implicitDefEqProofs only [push_cast, hw1, hw2, hw3, hw4', hw5, hget.symm, hw6, hw7, Int.reduceBEq, Int.reduceBNe, Int.reduceEq, Int.reduceNe, Int.reducePow, Nat.reduceAdd, Nat.reduceMul, Nat.reduceSub, Nat.reduceLT, Nat.reduceLeDiff, Nat.reduceEqDiff, Nat.reduceBEq, Int.reduceLT, Int.reduceLE, Int.reduceAdd, Int.reduceSub, Int.reduceMul, Int.reduceToNat, Int.reduceNeg, reduceIte, reduceCtorEq, reduceBEq]
        refine ⟨by omega, ?_⟩
        refine ⟨⟨i + 1, by omega⟩, by simp only; omega, ?_⟩
        (simp only [VaS.st]; exact Wk.by _ _ _ [] [] [] (by simp) (by simp [wkV, PV.el, PV.weak, PS.get, PS.obj, PS.lv, lkp_hit, lkp_miss, lkp_nil, lko]) (by simp [PS.get, PS.obj, PS.lv, lkp_hit, lkp_miss, lkp_nil, lko, wkL, wkC, PV.weak]) (by simp [PS.get, PS.obj, PS.lv, lkp_hit, lkp_miss, lkp_nil, lko]) (by rfl) (by rfl) (by simp [lko]) (by simp) (by simp) (by simp) (fun i hi => absurd hi (Nat.not_lt_zero i)))
      · rw [if_pos rfl] at hget
        have hgb : b[i]? = some x := by rw [hget, List.getD_eq_getElem?_getD, List.getElem?_eq_getElem (by omega)]; rfl
        simp -implicitDefEqProofs only [push_cast, hw1, hw2, hw3, hw4', hw5, hget.symm, hw6, hw7, Int.reduceBEq, Int.reduceBNe, Int.reduceEq, Int.reduceNe, Int.reducePow, Nat.reduceAdd, Nat.reduceMul, Nat.reduceSub, Nat.reduceLT, Nat.reduceLeDiff, Nat.reduceEqDiff, Nat.reduceBEq, Int.reduceLT, Int.reduceLE, Int.reduceAdd, Int.reduceSub, Int.reduceMul, Int.reduceToNat, Int.reduceNeg, reduceIte, reduceCtorEq, reduceBEq]
        refine ⟨by omega, ?_⟩
        refine ⟨⟨i + 1, by omega⟩, by simp only; omega, ?_⟩
        (simp only [VaS.st]; exact Wk.by _ _ _ [] [] [] (by simp) (by simp [wkV, PV.el, PV.weak, PS.get, PS.obj, PS.lv, lkp_hit, lkp_miss, lkp_nil, lko]) (by simp [PS.get, PS.obj, PS.lv, lkp_hit, lkp_miss, lkp_nil, lko, wkL, wkC, PV.weak]) (by simp [PS.get, PS.obj, PS.lv, lkp_hit, lkp_miss, lkp_nil, lko]) (by rfl) (by rfl) (by simp [lko]) (by simp) (by simp) (by simp) (fun i hi => absurd hi (Nat.not_lt_zero i)))
    · have he : i = wid s := by simp at h3; omega
      subst he
      have hsl : (seqB o b).take (wid s) = seqB o b := List.take_of_length_le (by rw [seqB_len]; omega)
      have hlt := wv_lt (wid s) (l := seqB o b) (by rw [seqB_len]; omega)
      rw [hsl, wv_seq] at *
      generalize decU o b = d at *
      rcases hs with rfl | rfl | rfl | rfl | rfl | rfl
      · have hlt : d < 256 := hlt
        rw [show high (1) = 255 by decide, show (256 : Int) ^ wid (1) = 256 by decide]
        rw [if_neg (by simp; omega)]
        simp -implicitDefEqProofs only [push_cast, Int.reduceBEq, Int.reduceBNe, Int.reduceEq, Int.reduceNe, Int.reducePow, Nat.reduceAdd, Nat.reduceMul, Nat.reduceSub, Nat.reduceLT, Nat.reduceLeDiff, Nat.reduceEqDiff, Nat.reduceBEq, Int.reduceLT, Int.reduceLE, Int.reduceAdd, Int.reduceSub, Int.reduceMul, Int.reduceToNat, Int.reduceNeg, reduceIte, reduceCtorEq, reduceBEq]
        skip
      · have hlt : d < 65536 := hlt
        rw [show high (2) = 65535 by decide, show (256 : Int) ^ wid (2) = 65536 by decide]
        rw [if_neg (by simp; omega)]
        simp -implicitDefEqProofs only [push_cast, Int.reduceBEq, Int.reduceBNe, Int.reduceEq, Int.reduceNe, Int.reducePow, Nat.reduceAdd, Nat.reduceMul, Nat.reduceSub, Nat.reduceLT, Nat.reduceLeDiff, Nat.reduceEqDiff, Nat.reduceBEq, Int.reduceLT, Int.reduceLE, Int.reduceAdd, Int.reduceSub, Int.reduceMul, Int.reduceToNat, Int.reduceNeg, reduceIte, reduceCtorEq, reduceBEq]
        skip
      · have hlt : d < 4294967296 := hlt
        rw [show high (4) = 4294967295 by decide, show (256 : Int) ^ wid (4) = 4294967296 by decide]
        rw [if_neg (by simp; omega)]
        simp -implicitDefEqProofs only [push_cast, Int.reduceBEq, Int.reduceBNe, Int.reduceEq, Int.reduceNe, Int.reducePow, Nat.reduceAdd, Nat.reduceMul, Nat.reduceSub, Nat.reduceLT, Nat.reduceLeDiff, Nat.reduceEqDiff, Nat.reduceBEq, Int.reduceLT, Int.reduceLE, Int.reduceAdd, Int.reduceSub, Int.reduceMul, Int.reduceToNat, Int.reduceNeg, reduceIte, reduceCtorEq, reduceBEq]
        skip
      · have hlt : d < 256 := hlt
        rw [show high (-1) = 127 by decide, show (256 : Int) ^ wid (-1) = 256 by decide]
        have hal : (p256 (wid (-1)) : Int) = 256 := by decide
        have htd : IntKind.i64.wrap (Int.tdiv 256 2) = 128 := by decide
        simp -implicitDefEqProofs only [push_cast, hal, htd, Int.reduceBEq, Int.reduceBNe, Int.reduceEq, Int.reduceNe, Int.reducePow, Nat.reduceAdd, Nat.reduceMul, Nat.reduceSub, Nat.reduceLT, Nat.reduceLeDiff, Nat.reduceEqDiff, Nat.reduceBEq, Int.reduceLT, Int.reduceLE, Int.reduceAdd, Int.reduceSub, Int.reduceMul, Int.reduceToNat, Int.reduceNeg, reduceIte, reduceCtorEq, reduceBEq]
        refine condC_split (fun h2 => ?_) (fun h2 => ?_)
        · rw [if_pos (by simp at h2 ⊢; omega)]
          have hw : IntKind.i64.wrap ((d : Int) - 256) = (d : Int) - 256 := wrap_i64_id (by omega) (by omega)
          simp -implicitDefEqProofs only [push_cast, hal, hw, Int.reduceBEq, Int.reduceBNe, Int.reduceEq, Int.reduceNe, Int.reducePow, Nat.reduceAdd, Nat.reduceMul, Nat.reduceSub, Nat.reduceLT, Nat.reduceLeDiff, Nat.reduceEqDiff, Nat.reduceBEq, Int.reduceLT, Int.reduceLE, Int.reduceAdd, Int.reduceSub, Int.reduceMul, Int.reduceToNat, Int.reduceNeg, reduceIte, reduceCtorEq, reduceBEq]
        · rw [if_neg (by simp at h2 ⊢; omega)]
          simp -implicitDefEqProofs only [push_cast, Int.reduceBEq, Int.reduceBNe, Int.reduceEq, Int.reduceNe, Int.reducePow, Nat.reduceAdd, Nat.reduceMul, Nat.reduceSub, Nat.reduceLT, Nat.reduceLeDiff, Nat.reduceEqDiff, Nat.reduceBEq, Int.reduceLT, Int.reduceLE, Int.reduceAdd, Int.reduceSub, Int.reduceMul, Int.reduceToNat, Int.reduceNeg, reduceIte, reduceCtorEq, reduceBEq]
      · have hlt : d < 65536 := hlt
        rw [show high (-2) = 32767 by decide, show (256 : Int) ^ wid (-2) = 65536 by decide]
        have hal : (p256 (wid (-2)) : Int) = 65536 := by decide
        have htd : IntKind.i64.wrap (Int.tdiv 65536 2) = 32768 := by decide
        simp -implicitDefEqProofs only [push_cast, hal, htd, Int.reduceBEq, Int.reduceBNe, Int.reduceEq, Int.reduceNe, Int.reducePow, Nat.reduceAdd, Nat.reduceMul, Nat.reduceSub, Nat.reduceLT, Nat.reduceLeDiff, Nat.reduceEqDiff, Nat.reduceBEq, Int.reduceLT, Int.reduceLE, Int.reduceAdd, Int.reduceSub, Int.reduceMul, Int.reduceToNat, Int.reduceNeg, reduceIte, reduceCtorEq, reduceBEq]
        refine condC_split (fun h2 => ?_) (fun h2 => ?_)
        · rw [if_pos (by simp at h2 ⊢; omega)]
          have hw : IntKind.i64.wrap ((d : Int) - 65536) = (d : Int) - 65536 := wrap_i64_id (by omega) (by omega)
          simp -implicitDefEqProofs only [push_cast, hal, hw, Int.reduceBEq, Int.reduceBNe, Int.reduceEq, Int.reduceNe, Int.reducePow, Nat.reduceAdd, Nat.reduceMul, Nat.reduceSub, Nat.reduceLT, Nat.reduceLeDiff, Nat.reduceEqDiff, Nat.reduceBEq, Int.reduceLT, Int.reduceLE, Int.reduceAdd, Int.reduceSub, Int.reduceMul, Int.reduceToNat, Int.reduceNeg, reduceIte, reduceCtorEq, reduceBEq]
        · rw [if_neg (by simp at h2 ⊢; omega)]
          simp -implicitDefEqProofs only [push_cast, Int.reduceBEq, Int.reduceBNe, Int.reduceEq, Int.reduceNe, Int.reducePow, Nat.reduceAdd, Nat.reduceMul, Nat.reduceSub, Nat.reduceLT, Nat.reduceLeDiff, Nat.reduceEqDiff, Nat.reduceBEq, Int.reduceLT, Int.reduceLE, Int.reduceAdd, Int.reduceSub, Int.reduceMul, Int.reduceToNat, Int.reduceNeg, reduceIte, reduceCtorEq, reduceBEq]
      · have hlt : d < 4294967296 := hlt
        rw [show high (-4) = 2147483647 by decide, show (256 : Int) ^ wid (-4) = 4294967296 by decide]
        have hal : (p256 (wid (-4)) : Int) = 4294967296 := by decide
        have htd : IntKind.i64.wrap (Int.tdiv 4294967296 2) = 2147483648 := by decide
        simp -implicitDefEqProofs only [push_cast, hal, htd, Int.reduceBEq, Int.reduceBNe, Int.reduceEq, Int.reduceNe, Int.reducePow, Nat.reduceAdd, Nat.reduceMul, Nat.reduceSub, Nat.reduceLT, Nat.reduceLeDiff, Nat.reduceEqDiff, Nat.reduceBEq, Int.reduceLT, Int.reduceLE, Int.reduceAdd, Int.reduceSub, Int.reduceMul, Int.reduceToNat, Int.reduceNeg, reduceIte, reduceCtorEq, reduceBEq]
        refine condC_split (fun h2 => ?_) (fun h2 => ?_)
        · rw [if_pos (by simp at h2 ⊢; omega)]
          have hw : IntKind.i64.wrap ((d : Int) - 4294967296) = (d : Int) - 4294967296 := wrap_i64_id (by omega) (by omega)
          simp -implicitDefEqProofs only [push_cast, hal, hw, Int.reduceBEq, Int.reduceBNe, Int.reduceEq, Int.reduceNe, Int.reducePow, Nat.reduceAdd, Nat.reduceMul, Nat.reduceSub, Nat.reduceLT, Nat.reduceLeDiff, Nat.reduceEqDiff, Nat.reduceBEq, Int.reduceLT, Int.reduceLE, Int.reduceAdd, Int.reduceSub, Int.reduceMul, Int.reduceToNat, Int.reduceNeg, reduceIte, reduceCtorEq, reduceBEq]
        · rw [if_neg (by simp at h2 ⊢; omega)]
          simp -implicitDefEqProofs only [push_cast, Int.reduceBEq, Int.reduceBNe, Int.reduceEq, Int.reduceNe, Int.reducePow, Nat.reduceAdd, Nat.reduceMul, Nat.reduceSub, Nat.reduceLT, Nat.reduceLeDiff, Nat.reduceEqDiff, Nat.reduceBEq, Int.reduceLT, Int.reduceLE, Int.reduceAdd, Int.reduceSub, Int.reduceMul, Int.reduceToNat, Int.reduceNeg, reduceIte, reduceCtorEq, reduceBEq]

/-- The document's cursor: takes so many bytes. -/
def tak (s : List UInt8) (n : Nat) (c : Cu) : List UInt8 × Cu :=
  if c.e = 0 then (if s.length < c.a + n then ([], ⟨c.a, 3⟩) else ((s.drop c.a).take n, ⟨c.a + n, 0⟩)) else ([], c)
theorem tak_le {s : List UInt8} {n : Nat} {c : Cu} (h : c.a ≤ s.length) : (tak s n c).2.a ≤ s.length := by
  unfold tak
  split
  · split
    · exact h
    · simp only; omega
  · exact h
set_option maxHeartbeats 2000000 in
theorem rtake_fs (s : List UInt8) (hs : s.length ≤ 1000000) (c : Cu) (hc : c.a ≤ s.length) (n : Nat) (hn : n ≤ 4294967296) : Fsp Tryd.prog 49 [[.str s, .int .i64 c.a, .int .i64 c.e]] 0 [.box 0 0, .int .i64 n] [[.str s, .int .i64 (tak s n c).2.a, .int .i64 (tak s n c).2.e]] 0 (.str (tak s n c).1) := by
  obtain ⟨a, e⟩ := c
  simp only at hc
  have hw1 : IntKind.i64.wrap ((s.length : Int) - (a : Int)) = (s.length : Int) - a := wrap_i64_id (by omega) (by omega)
  have hw2 : IntKind.i64.wrap ((a : Int) + (n : Int)) = ((a + n : Nat) : Int) := by (rw [wrap_i64_id (by omega) (by omega)]; rfl)
  unfold tak
  cases h1 : (e == 0)
  · have he : ¬ e = 0 := by simpa using h1
    have he' : (e != 0) = true := by simpa using h1
    rw [if_neg he]
    (refine Fsp.of (nx := 1) mixed Tryd.func49 rfl (by decide) (by first | exact Nat.le_refl _ | simp) (by simp [Tryd.f49]) ⟨by simp, by simp⟩ ?_; simp -implicitDefEqProofs only [push_cast, Tryd.f49, h1, he', Int.reduceBEq, Int.reduceBNe, Int.reduceEq, Int.reduceNe, Int.reducePow, Nat.reduceAdd, Nat.reduceMul, Nat.reduceSub, Nat.reduceLT, Nat.reduceLeDiff, Nat.reduceEqDiff, Nat.reduceBEq, Int.reduceLT, Int.reduceLE, Int.reduceAdd, Int.reduceSub, Int.reduceMul, Int.reduceToNat, Int.reduceNeg, reduceIte, reduceCtorEq, reduceBEq])
    (repeat (first | refine ⟨by omega, ?_⟩ | refine ⟨by (unfold drawOk; kernel_rfl), ?_⟩))
    skip
    exact endK_box [] [0] rfl rfl (by simp [PS.lv, lkp_hit, lkp_miss, lkp_nil]) rfl rfl (by rfl) (fun i j ps h1 h2 => by (rcases i with _ | i <;> simp at h1 h2 <;> (subst h1; subst h2; exact ⟨_, rfl, (by (repeat' (first | exact wkL_nil | refine wkL_cons ?_ ?_)); all_goals (first | rfl | exact ⟨rfl, rfl⟩ | exact ⟨rfl, rfl, rfl⟩ | exact .inl rfl))⟩))) ⟨by simp [resOk, PS.get, lkp_hit, lkp_miss, PS.ev], by simp [resPV, PS.get, lkp_hit, lkp_miss, PS.ev], by simp [resOf, resPV, one', res3, res2, res1, PS.get, lkp_hit, lkp_miss, PS.ev, PV.weak, PV.el, wkL]⟩
  · obtain rfl : e = 0 := by simpa using h1
    rw [if_pos rfl]
    cases h2 : decide ((s.length : Int) - a < n)
    · have h2' : ¬ s.length < a + n := by simp at h2; omega
      rw [if_neg h2']
      (refine Fsp.of (nx := 1) mixed Tryd.func49 rfl (by decide) (by first | exact Nat.le_refl _ | simp) (by simp [Tryd.f49]) ⟨by simp, by simp⟩ ?_; simp -implicitDefEqProofs only [push_cast, Tryd.f49, hw1, h2, Int.reduceBEq, Int.reduceBNe, Int.reduceEq, Int.reduceNe, Int.reducePow, Nat.reduceAdd, Nat.reduceMul, Nat.reduceSub, Nat.reduceLT, Nat.reduceLeDiff, Nat.reduceEqDiff, Nat.reduceBEq, Int.reduceLT, Int.reduceLE, Int.reduceAdd, Int.reduceSub, Int.reduceMul, Int.reduceToNat, Int.reduceNeg, reduceIte, reduceCtorEq, reduceBEq])
      (repeat (first | refine ⟨by omega, ?_⟩ | refine ⟨by (unfold drawOk; kernel_rfl), ?_⟩))
      simp -implicitDefEqProofs only [push_cast, hw1, h2, hw2, Int.reduceBEq, Int.reduceBNe, Int.reduceEq, Int.reduceNe, Int.reducePow, Nat.reduceAdd, Nat.reduceMul, Nat.reduceSub, Nat.reduceLT, Nat.reduceLeDiff, Nat.reduceEqDiff, Nat.reduceBEq, Int.reduceLT, Int.reduceLE, Int.reduceAdd, Int.reduceSub, Int.reduceMul, Int.reduceToNat, Int.reduceNeg, reduceIte, reduceCtorEq, reduceBEq]
      (repeat (first | refine ⟨by omega, ?_⟩ | refine ⟨by (unfold drawOk; kernel_rfl), ?_⟩))
      rw [show ((a : Int) + (n : Int)).toNat - a = n by omega]
      skip
      exact endK_box [] [0] rfl rfl (by simp [PS.lv, lkp_hit, lkp_miss, lkp_nil]) rfl rfl (by rfl) (fun i j ps h1 h2 => by (rcases i with _ | i <;> simp at h1 h2 <;> (subst h1; subst h2; exact ⟨_, rfl, (by (repeat' (first | exact wkL_nil | refine wkL_cons ?_ ?_)); all_goals (first | rfl | exact ⟨rfl, rfl⟩ | exact ⟨rfl, rfl, rfl⟩ | exact .inl rfl))⟩))) ⟨by simp [resOk, PS.get, lkp_hit, lkp_miss, PS.ev], by simp [resPV, PS.get, lkp_hit, lkp_miss, PS.ev], by simp [resOf, resPV, one', res3, res2, res1, PS.get, lkp_hit, lkp_miss, PS.ev, PV.weak, PV.el, wkL]⟩
    · have h2' : s.length < a + n := by simp at h2; omega
      rw [if_pos h2']
      (refine Fsp.of (nx := 1) mixed Tryd.func49 rfl (by decide) (by first | exact Nat.le_refl _ | simp) (by simp [Tryd.f49]) ⟨by simp, by simp⟩ ?_; simp -implicitDefEqProofs only [push_cast, Tryd.f49, hw1, h2, Int.reduceBEq, Int.reduceBNe, Int.reduceEq, Int.reduceNe, Int.reducePow, Nat.reduceAdd, Nat.reduceMul, Nat.reduceSub, Nat.reduceLT, Nat.reduceLeDiff, Nat.reduceEqDiff, Nat.reduceBEq, Int.reduceLT, Int.reduceLE, Int.reduceAdd, Int.reduceSub, Int.reduceMul, Int.reduceToNat, Int.reduceNeg, reduceIte, reduceCtorEq, reduceBEq])
      (repeat (first | refine ⟨by omega, ?_⟩ | refine ⟨by (unfold drawOk; kernel_rfl), ?_⟩))
      skip
      exact endK_box [] [0] rfl rfl (by simp [PS.lv, lkp_hit, lkp_miss, lkp_nil]) rfl rfl (by rfl) (fun i j ps h1 h2 => by (rcases i with _ | i <;> simp at h1 h2 <;> (subst h1; subst h2; exact ⟨_, rfl, (by (repeat' (first | exact wkL_nil | refine wkL_cons ?_ ?_)); all_goals (first | rfl | exact ⟨rfl, rfl⟩ | exact ⟨rfl, rfl, rfl⟩ | exact .inl rfl))⟩))) ⟨by simp [resOk, PS.get, lkp_hit, lkp_miss, PS.ev], by simp [resPV, PS.get, lkp_hit, lkp_miss, PS.ev], by simp [resOf, resPV, one', res3, res2, res1, PS.get, lkp_hit, lkp_miss, PS.ev, PV.weak, PV.el, wkL]⟩

end Go.Proofs.Sh

/- The document's layer 2: noughts, Get. -/
set_option maxRecDepth 100000
set_option linter.unusedSimpArgs false
set_option linter.unusedVariables false
namespace Go.Proofs.Sh
open Go.Pv

/-- The document's noughts: it goes behind the byte that is none. -/
def rfilP (s : List UInt8) : Nat → Nat → Cu
  | 0, a => ⟨a, 0⟩
  | k + 1, a => if a = s.length then ⟨a, 3⟩ else if s.getD a 0 = 0 then rfilP s k (a + 1) else ⟨a + 1, 2⟩
def rfil (s : List UInt8) (c : Cu) : Cu := if c.e = 0 then rfilP s (padN c.a) c.a else c
theorem rfil_bad {s : List UInt8} {c : Cu} (h : c.e ≠ 0) : rfil s c = c := by rw [rfil, if_neg h]
theorem rfil_end {s : List UInt8} {a : Nat} (h : a % 4 = 0) : rfil s ⟨a, 0⟩ = ⟨a, 0⟩ := by rw [rfil, if_pos rfl, padN_0.2 h]; rfl
theorem rfil_short {s : List UInt8} {a : Nat} (h : a % 4 ≠ 0) (ha : a = s.length) : rfil s ⟨a, 0⟩ = ⟨a, 3⟩ := by rw [rfil, if_pos rfl, padN_s h, rfilP, if_pos ha]
theorem rfil_form {s : List UInt8} {a : Nat} (h : a % 4 ≠ 0) (ha : a ≠ s.length) (hs : s.getD a 0 ≠ 0) : rfil s ⟨a, 0⟩ = ⟨a + 1, 2⟩ := by rw [rfil, if_pos rfl, padN_s h, rfilP, if_neg ha, if_neg hs]
theorem rfil_step {s : List UInt8} {a : Nat} (h : a % 4 ≠ 0) (ha : a ≠ s.length) (hs : s.getD a 0 = 0) : rfil s ⟨a, 0⟩ = rfil s ⟨a + 1, 0⟩ := by rw [rfil, if_pos rfl, padN_s h, rfilP, if_neg ha, if_pos hs, rfil, if_pos rfl]
/-- Two places say the same: what is wrong, and where, if nothing is. -/
def Cu.as (c d : Cu) : Prop := c.e = d.e ∧ (c.e = 0 → c.a = d.a)
theorem rfilP_as (s : List UInt8) : ∀ k a, (rfilP s k a).as (filP s k a)
  | 0, a => ⟨rfl, fun _ => rfl⟩
  | k + 1, a => by
    unfold rfilP filP
    split
    · exact ⟨rfl, fun _ => rfl⟩
    · split
      · exact rfilP_as s k (a + 1)
      · exact ⟨rfl, fun h => absurd (show (2 : Int) = 0 from h) (by decide)⟩
theorem Cu.as.eq {c d : Cu} (h : c.as d) (h0 : c.e = 0) : c = d := by
  obtain ⟨a, e⟩ := c
  obtain ⟨b, f⟩ := d
  obtain ⟨h1, h2⟩ := h
  simp only at h1 h2 h0
  rw [h1, h2 h0]
theorem rfil_as {s : List UInt8} {c d : Cu} (h : c.as d) : (rfil s c).as (fil s d) := by
  by_cases h0 : c.e = 0
  · obtain rfl := h.eq h0
    rw [rfil, fil, if_pos h0, if_pos h0]
    exact rfilP_as s _ _
  · have h1 : ¬ d.e = 0 := by rw [← h.1]; exact h0
    rw [rfil, fil, if_neg h0, if_neg h1]
    exact h
theorem rfilP_le {s : List UInt8} : ∀ (k a : Nat), a ≤ s.length → (rfilP s k a).a ≤ s.length
  | 0, a, h => h
  | k + 1, a, h => by
    unfold rfilP
    split
    · exact h
    · split
      · exact rfilP_le k (a + 1) (by omega)
      · simp only; omega
theorem rfil_le {s : List UInt8} {c : Cu} (h : c.a ≤ s.length) : (rfil s c).a ≤ s.length := by
  unfold rfil
  split
  · exact rfilP_le _ _ h
  · exact h
structure NoS (s : List UInt8) (r : Cu) where
  c : Cu
  h : c.a ≤ s.length
  e : rfil s c = r
def NoS.st {s : List UInt8} {r : Cu} (x : NoS s r) : PS := { n := 30, env := [(0, .box 0 0)], objs := [(0, some [.str s, .int .i64 x.c.a, .int .i64 x.c.e])], live := [], nxt := 60 }
set_option maxHeartbeats 4000000 in
theorem noughts_fs (s : List UInt8) (hl : s.length ≤ 1000000) (c : Cu) (hc : c.a ≤ s.length) :
    Fsp Tryd.prog 51 [[.str s, .int .i64 c.a, .int .i64 c.e]] 0 [.box 0 0] [[.str s, .int .i64 (rfil s c).a, .int .i64 (rfil s c).e]] 0 (.tup []) := by
  (refine Fsp.of (nx := 1) mixed Tryd.func51 rfl (by decide) (by first | exact Nat.le_refl _ | simp) (by simp [Tryd.f51]) ⟨by simp, by simp⟩ ?_; simp -implicitDefEqProofs only [push_cast, Tryd.f51, Int.reduceBEq, Int.reduceBNe, Int.reduceEq, Int.reduceNe, Int.reducePow, Nat.reduceAdd, Nat.reduceMul, Nat.reduceSub, Nat.reduceLT, Nat.reduceLeDiff, Nat.reduceEqDiff, Nat.reduceBEq, Int.reduceLT, Int.reduceLE, Int.reduceAdd, Int.reduceSub, Int.reduceMul, Int.reduceToNat, Int.reduceNeg, reduceIte, reduceCtorEq, reduceBEq])
  refine loopC_of (α := NoS s (rfil s c)) NoS.st (fun x => if x.c.e = 0 then s.length - x.c.a + 1 else 0) ⟨c, hc, rfl⟩ ?_ ?_
  · (simp only [NoS.st]; exact Wk.by _ _ _ [(0, 0)] [] [] (by simp) (by simp [wkV, PV.el, PV.weak, PS.get, PS.obj, PS.lv, lkp_hit, lkp_miss, lkp_nil, lko]) (by simp [PS.get, PS.obj, PS.lv, lkp_hit, lkp_miss, lkp_nil, lko, wkL, wkC, PV.weak]) (by simp [PS.get, PS.obj, PS.lv, lkp_hit, lkp_miss, lkp_nil, lko]) (by rfl) (by rfl) (by simp [lko]) (by simp) (by simp) (by simp) (fun i hi => by cases Nat.lt_one_iff.1 hi; rfl))
  · rintro ⟨⟨a, e⟩, ha, he⟩
    simp only at ha
    cases h0 : (e == 0)
    · have hne : ¬ e = 0 := by simpa using h0
      have hr : rfil s c = ⟨a, e⟩ := by rw [← he, rfil_bad hne]
      simp -implicitDefEqProofs only [push_cast, NoS.st, h0, Int.reduceBEq, Int.reduceBNe, Int.reduceEq, Int.reduceNe, Int.reducePow, Nat.reduceAdd, Nat.reduceMul, Nat.reduceSub, Nat.reduceLT, Nat.reduceLeDiff, Nat.reduceEqDiff, Nat.reduceBEq, Int.reduceLT, Int.reduceLE, Int.reduceAdd, Int.reduceSub, Int.reduceMul, Int.reduceToNat, Int.reduceNeg, reduceIte, reduceCtorEq, reduceBEq]
      rw [hr]
      exact endK_box [] [0] rfl rfl (by simp [PS.lv, lkp_hit, lkp_miss, lkp_nil]) rfl rfl (by rfl) (fun i j ps h1 h2 => by (rcases i with _ | i <;> simp at h1 h2 <;> (subst h1; subst h2; exact ⟨_, rfl, (by (repeat' (first | exact wkL_nil | refine wkL_cons ?_ ?_)); all_goals (first | rfl | exact ⟨rfl, rfl⟩ | exact ⟨rfl, rfl, rfl⟩ | exact .inl rfl))⟩))) ⟨by simp [resOk, PS.get, lkp_hit, lkp_miss, PS.ev], by simp [resPV, PS.get, lkp_hit, lkp_miss, PS.ev], by simp [resOf, resPV, one', res3, res2, res1, PS.get, lkp_hit, lkp_miss, PS.ev, PV.weak, PV.el, wkL]⟩
    · obtain rfl : e = 0 := by simpa using h0
      obtain ⟨m, hm⟩ : ∃ m, m = a % 4 := ⟨_, rfl⟩
      have htm : Int.tmod (a : Int) 4 = (m : Int) := by rw [Int.tmod_eq_emod_of_nonneg (by omega)]; omega
      have hwm : IntKind.i64.wrap (m : Int) = (m : Int) := by rw [wrap_i64_id (by omega) (by omega)]
      cases h1 : ((m : Int) != 0)
      · have h1' : a % 4 = 0 := by simp at h1; omega
        have hr : rfil s c = ⟨a, 0⟩ := by rw [← he, rfil_end h1']
        simp -implicitDefEqProofs only [push_cast, NoS.st, htm, hwm, h1, Int.reduceBEq, Int.reduceBNe, Int.reduceEq, Int.reduceNe, Int.reducePow, Nat.reduceAdd, Nat.reduceMul, Nat.reduceSub, Nat.reduceLT, Nat.reduceLeDiff, Nat.reduceEqDiff, Nat.reduceBEq, Int.reduceLT, Int.reduceLE, Int.reduceAdd, Int.reduceSub, Int.reduceMul, Int.reduceToNat, Int.reduceNeg, reduceIte, reduceCtorEq, reduceBEq]
        rw [hr]
        exact endK_box [] [0] rfl rfl (by simp [PS.lv, lkp_hit, lkp_miss, lkp_nil]) rfl rfl (by rfl) (fun i j ps h1 h2 => by (rcases i with _ | i <;> simp at h1 h2 <;> (subst h1; subst h2; exact ⟨_, rfl, (by (repeat' (first | exact wkL_nil | refine wkL_cons ?_ ?_)); all_goals (first | rfl | exact ⟨rfl, rfl⟩ | exact ⟨rfl, rfl, rfl⟩ | exact .inl rfl))⟩))) ⟨by simp [resOk, PS.get, lkp_hit, lkp_miss, PS.ev], by simp [resPV, PS.get, lkp_hit, lkp_miss, PS.ev], by simp [resOf, resPV, one', res3, res2, res1, PS.get, lkp_hit, lkp_miss, PS.ev, PV.weak, PV.el, wkL]⟩
      · have h1' : a % 4 ≠ 0 := by simp at h1; omega
        have ht := rtake_fs s hl ⟨a, 0⟩ ha 1 (by omega)
        rw [tak, if_pos rfl] at ht
        by_cases h2 : a = s.length
        · rw [if_pos (by simp only; omega)] at ht
          simp only at ht
          simp -implicitDefEqProofs only [push_cast, NoS.st, htm, hwm, h1, Int.reduceBEq, Int.reduceBNe, Int.reduceEq, Int.reduceNe, Int.reducePow, Nat.reduceAdd, Nat.reduceMul, Nat.reduceSub, Nat.reduceLT, Nat.reduceLeDiff, Nat.reduceEqDiff, Nat.reduceBEq, Int.reduceLT, Int.reduceLE, Int.reduceAdd, Int.reduceSub, Int.reduceMul, Int.reduceToNat, Int.reduceNeg, reduceIte, reduceCtorEq, reduceBEq]
          refine callE_box ht [0] [] (by rfl) (by rfl) (by rfl) (by rfl) (by rfl) (by rfl) (fun i j cs h1 h2 => by (rcases i with _ | i <;> simp at h1 h2 <;> (subst h1; subst h2; exact ⟨_, rfl, (by (repeat' (first | exact wkL_nil | refine wkL_cons ?_ ?_)); all_goals (first | exact .inl ⟨_, _, _, _, rfl, rfl, rfl⟩ | exact .inr (.inr (.inr (.inr (.inl ⟨_, _, _, rfl, rfl, rfl⟩)))) | exact .inr (.inr (.inr (.inr (.inr ⟨_, _, _, _, rfl, rfl, rfl⟩)))) | exact .inr (.inl rfl) | exact .inr (.inr (.inl ⟨_, _, _, rfl, rfl, rfl⟩))))⟩))) (by simp [PS.lv, lkp_hit, lkp_miss, lkp_nil]) (by (repeat' (first | exact wkL_nil | refine wkL_cons ?_ ?_)); all_goals (first | exact .inl ⟨_, _, _, rfl, rfl, rfl⟩ | exact .inr (.inl rfl) | exact .inr (.inr (.inl ⟨_, _, _, _, rfl, rfl, rfl⟩)))) (by decide) (by simp) (by rfl) (by simp [tokLt1]) (fun _ => by rfl) (by first | rfl | simp [gdOk, newToks]) ?_
          simp -implicitDefEqProofs only [push_cast, Int.reduceBEq, Int.reduceBNe, Int.reduceEq, Int.reduceNe, Int.reducePow, Nat.reduceAdd, Nat.reduceMul, Nat.reduceSub, Nat.reduceLT, Nat.reduceLeDiff, Nat.reduceEqDiff, Nat.reduceBEq, Int.reduceLT, Int.reduceLE, Int.reduceAdd, Int.reduceSub, Int.reduceMul, Int.reduceToNat, Int.reduceNeg, reduceIte, reduceCtorEq, reduceBEq]
          refine ⟨⟨⟨a, 3⟩, ha, by rw [← he, rfil_short h1' h2, rfil_bad (by simp)]⟩, by simp, ?_⟩
          (simp only [NoS.st]; exact Wk.by _ _ _ [(0, 0)] [] [] (by simp) (by simp [wkV, PV.el, PV.weak, PS.get, PS.obj, PS.lv, lkp_hit, lkp_miss, lkp_nil, lko]) (by simp [PS.get, PS.obj, PS.lv, lkp_hit, lkp_miss, lkp_nil, lko, wkL, wkC, PV.weak]) (by simp [PS.get, PS.obj, PS.lv, lkp_hit, lkp_miss, lkp_nil, lko]) (by rfl) (by rfl) (by simp [lko]) (by simp) (by simp) (by simp) (fun i hi => by cases Nat.lt_one_iff.1 hi; rfl))
        · have hlt : a < s.length := by omega
          rw [if_neg (by simp only; omega)] at ht
          simp only at ht
          rw [show (s.drop a).take 1 = [s.getD a 0] by rw [List.drop_eq_getElem_cons hlt, List.take_succ_cons, List.take_zero, List.getD_eq_getElem?_getD, List.getElem?_eq_getElem hlt]; rfl] at ht
          cases h3 : ([s.getD a 0] != [0])
          · have h3' : s.getD a 0 = 0 := by simpa using h3
            rw [h3'] at ht
            simp -implicitDefEqProofs only [push_cast, NoS.st, htm, hwm, h1, Int.reduceBEq, Int.reduceBNe, Int.reduceEq, Int.reduceNe, Int.reducePow, Nat.reduceAdd, Nat.reduceMul, Nat.reduceSub, Nat.reduceLT, Nat.reduceLeDiff, Nat.reduceEqDiff, Nat.reduceBEq, Int.reduceLT, Int.reduceLE, Int.reduceAdd, Int.reduceSub, Int.reduceMul, Int.reduceToNat, Int.reduceNeg, reduceIte, reduceCtorEq, reduceBEq]
            refine callE_box ht [0] [] (by rfl) (by rfl) (by rfl) (by rfl) (by rfl) (by rfl) (fun i j cs h1 h2 => by (rcases i with _ | i <;> simp at h1 h2 <;> (subst h1; subst h2; exact ⟨_, rfl, (by (repeat' (first | exact wkL_nil | refine wkL_cons ?_ ?_)); all_goals (first | exact .inl ⟨_, _, _, _, rfl, rfl, rfl⟩ | exact .inr (.inr (.inr (.inr (.inl ⟨_, _, _, rfl, rfl, rfl⟩)))) | exact .inr (.inr (.inr (.inr (.inr ⟨_, _, _, _, rfl, rfl, rfl⟩)))) | exact .inr (.inl rfl) | exact .inr (.inr (.inl ⟨_, _, _, rfl, rfl, rfl⟩))))⟩))) (by simp [PS.lv, lkp_hit, lkp_miss, lkp_nil]) (by (repeat' (first | exact wkL_nil | refine wkL_cons ?_ ?_)); all_goals (first | exact .inl ⟨_, _, _, rfl, rfl, rfl⟩ | exact .inr (.inl rfl) | exact .inr (.inr (.inl ⟨_, _, _, _, rfl, rfl, rfl⟩)))) (by decide) (by simp) (by rfl) (by simp [tokLt1]) (fun _ => by rfl) (by first | rfl | simp [gdOk, newToks]) ?_
            simp -implicitDefEqProofs only [push_cast, bne_self_eq_false, Int.reduceBEq, Int.reduceBNe, Int.reduceEq, Int.reduceNe, Int.reducePow, Nat.reduceAdd, Nat.reduceMul, Nat.reduceSub, Nat.reduceLT, Nat.reduceLeDiff, Nat.reduceEqDiff, Nat.reduceBEq, Int.reduceLT, Int.reduceLE, Int.reduceAdd, Int.reduceSub, Int.reduceMul, Int.reduceToNat, Int.reduceNeg, reduceIte, reduceCtorEq, reduceBEq]
            refine ⟨⟨⟨a + 1, 0⟩, by simp only; omega, by rw [← he, rfil_step h1' h2 h3']⟩, by simp; omega, ?_⟩
            (simp only [NoS.st]; exact Wk.by _ _ _ [(0, 0)] [] [] (by simp) (by simp [wkV, PV.el, PV.weak, PS.get, PS.obj, PS.lv, lkp_hit, lkp_miss, lkp_nil, lko]) (by simp [PS.get, PS.obj, PS.lv, lkp_hit, lkp_miss, lkp_nil, lko, wkL, wkC, PV.weak]) (by simp [PS.get, PS.obj, PS.lv, lkp_hit, lkp_miss, lkp_nil, lko]) (by rfl) (by rfl) (by simp [lko]) (by simp) (by simp) (by simp) (fun i hi => by cases Nat.lt_one_iff.1 hi; rfl))
          · have h3' : s.getD a 0 ≠ 0 := by
              intro h
              rw [h] at h3; exact absurd h3 (by decide)
            simp -implicitDefEqProofs only [push_cast, NoS.st, htm, hwm, h1, Int.reduceBEq, Int.reduceBNe, Int.reduceEq, Int.reduceNe, Int.reducePow, Nat.reduceAdd, Nat.reduceMul, Nat.reduceSub, Nat.reduceLT, Nat.reduceLeDiff, Nat.reduceEqDiff, Nat.reduceBEq, Int.reduceLT, Int.reduceLE, Int.reduceAdd, Int.reduceSub, Int.reduceMul, Int.reduceToNat, Int.reduceNeg, reduceIte, reduceCtorEq, reduceBEq]
            refine callE_box ht [0] [] (by rfl) (by rfl) (by rfl) (by rfl) (by rfl) (by rfl) (fun i j cs h1 h2 => by (rcases i with _ | i <;> simp at h1 h2 <;> (subst h1; subst h2; exact ⟨_, rfl, (by (repeat' (first | exact wkL_nil | refine wkL_cons ?_ ?_)); all_goals (first | exact .inl ⟨_, _, _, _, rfl, rfl, rfl⟩ | exact .inr (.inr (.inr (.inr (.inl ⟨_, _, _, rfl, rfl, rfl⟩)))) | exact .inr (.inr (.inr (.inr (.inr ⟨_, _, _, _, rfl, rfl, rfl⟩)))) | exact .inr (.inl rfl) | exact .inr (.inr (.inl ⟨_, _, _, rfl, rfl, rfl⟩))))⟩))) (by simp [PS.lv, lkp_hit, lkp_miss, lkp_nil]) (by (repeat' (first | exact wkL_nil | refine wkL_cons ?_ ?_)); all_goals (first | exact .inl ⟨_, _, _, rfl, rfl, rfl⟩ | exact .inr (.inl rfl) | exact .inr (.inr (.inl ⟨_, _, _, _, rfl, rfl, rfl⟩)))) (by decide) (by simp) (by rfl) (by simp [tokLt1]) (fun _ => by rfl) (by first | rfl | simp [gdOk, newToks]) ?_
            simp -implicitDefEqProofs only [push_cast, h3, Int.reduceBEq, Int.reduceBNe, Int.reduceEq, Int.reduceNe, Int.reducePow, Nat.reduceAdd, Nat.reduceMul, Nat.reduceSub, Nat.reduceLT, Nat.reduceLeDiff, Nat.reduceEqDiff, Nat.reduceBEq, Int.reduceLT, Int.reduceLE, Int.reduceAdd, Int.reduceSub, Int.reduceMul, Int.reduceToNat, Int.reduceNeg, reduceIte, reduceCtorEq, reduceBEq]
            refine ⟨⟨⟨a + 1, 2⟩, by simp only; omega, by rw [← he, rfil_form h1' h2 h3', rfil_bad (by simp)]⟩, by simp, ?_⟩
            (simp only [NoS.st]; exact Wk.by _ _ _ [(0, 0)] [] [] (by simp) (by simp [wkV, PV.el, PV.weak, PS.get, PS.obj, PS.lv, lkp_hit, lkp_miss, lkp_nil, lko]) (by simp [PS.get, PS.obj, PS.lv, lkp_hit, lkp_miss, lkp_nil, lko, wkL, wkC, PV.weak]) (by simp [PS.get, PS.obj, PS.lv, lkp_hit, lkp_miss, lkp_nil, lko]) (by rfl) (by rfl) (by simp [lko]) (by simp) (by simp) (by simp) (fun i hi => by cases Nat.lt_one_iff.1 hi; rfl))

end Go.Proofs.Sh

/- The document's Get of layer 2 and package format's tell the same: plain. -/
set_option linter.unusedVariables false
namespace Go.Proofs.Sh
open Go.Pv
def rnums (o : Int) (s : List UInt8) : List Int → Cu → List Int × Cu
  | [], c => ([], c)
  | z :: F, c => if (tak s (wid z) c).2.e = 0 then (readV o z (tak s (wid z) c).1 :: (rnums o s F (tak s (wid z) c).2).1, (rnums o s F (tak s (wid z) c).2).2) else rnums o s F (tak s (wid z) c).2
theorem rnums_snoc (o : Int) (s : List UInt8) (z : Int) : ∀ (F : List Int) (c : Cu), rnums o s (F ++ [z]) c =
    if (tak s (wid z) (rnums o s F c).2).2.e = 0 then ((rnums o s F c).1 ++ [readV o z (tak s (wid z) (rnums o s F c).2).1], (tak s (wid z) (rnums o s F c).2).2) else ((rnums o s F c).1, (tak s (wid z) (rnums o s F c).2).2)
  | [], c => rfl
  | y :: F, c => by
    show (if (tak s (wid y) c).2.e = 0 then (readV o y (tak s (wid y) c).1 :: (rnums o s (F ++ [z]) (tak s (wid y) c).2).1, (rnums o s (F ++ [z]) (tak s (wid y) c).2).2) else rnums o s (F ++ [z]) (tak s (wid y) c).2) = _
    rw [rnums_snoc o s z F]
    by_cases h : (tak s (wid y) c).2.e = 0
    · have e : rnums o s (y :: F) c = (readV o y (tak s (wid y) c).1 :: (rnums o s F (tak s (wid y) c).2).1, (rnums o s F (tak s (wid y) c).2).2) := by rw [rnums, if_pos h]
      rw [if_pos h, e]
      split <;> rfl
    · have e : rnums o s (y :: F) c = rnums o s F (tak s (wid y) c).2 := by rw [rnums, if_neg h]
      rw [if_neg h, e]
theorem tak_bad {s : List UInt8} {n : Nat} {c : Cu} (h : c.e ≠ 0) : tak s n c = ([], c) := by rw [tak, if_neg h]
theorem rnums_bad {o : Int} {s : List UInt8} : ∀ (F : List Int) {c : Cu}, c.e ≠ 0 → rnums o s F c = ([], c)
  | [], c, h => rfl
  | z :: F, c, h => by
    rw [rnums, tak_bad h, if_neg h, rnums_bad F h]
theorem nums_bad' {o : Int} {s : List UInt8} : ∀ (F : List Int) {c : Cu}, c.e ≠ 0 → (nums o s F c).2 = c
  | [], c, h => rfl
  | z :: F, c, h => by
    have e : num o s z c = (0, c) := by rw [num, if_neg h]
    rw [nums, e]
    exact nums_bad' F h
theorem num_tak {o z : Int} {s : List UInt8} {c : Cu} : (num o s z c).2 = (tak s (wid z) c).2 ∧ ((tak s (wid z) c).2.e = 0 → (num o s z c).1 = readV o z (tak s (wid z) c).1) := by
  unfold num tak
  split
  · split
    · exact ⟨rfl, fun h => absurd (show (3 : Int) = 0 from h) (by decide)⟩
    · exact ⟨rfl, fun _ => rfl⟩
  · rename_i h
    exact ⟨rfl, fun h1 => absurd h1 h⟩
theorem rnums_nums {o : Int} {s : List UInt8} : ∀ (F : List Int) (c : Cu), (rnums o s F c).2 = (nums o s F c).2 ∧ ((rnums o s F c).2.e = 0 → (rnums o s F c).1 = (nums o s F c).1)
  | [], c => ⟨rfl, fun _ => rfl⟩
  | z :: F, c => by
    obtain ⟨h1, h2⟩ := num_tak (o := o) (z := z) (s := s) (c := c)
    obtain ⟨i1, i2⟩ := rnums_nums F (tak s (wid z) c).2
    rw [rnums, nums, h1]
    by_cases h : (tak s (wid z) c).2.e = 0
    · rw [if_pos h]
      exact ⟨i1, fun he => by rw [h2 h, i2 he]⟩
    · rw [if_neg h]
      refine ⟨i1, fun he => ?_⟩
      rw [rnums_bad F h] at he
      exact absurd he h
theorem rnums_le {o : Int} {s : List UInt8} : ∀ (F : List Int) {c : Cu}, c.a ≤ s.length → (rnums o s F c).2.a ≤ s.length
  | [], c, h => h
  | z :: F, c, h => by
    have := tak_le (n := wid z) h
    rw [rnums]
    split
    · exact rnums_le F this
    · exact rnums_le F this
theorem rnums_length {o : Int} {s : List UInt8} : ∀ (F : List Int) (c : Cu), (rnums o s F c).1.length ≤ F.length
  | [], c => Nat.le_refl _
  | z :: F, c => by
    have := rnums_length (o := o) (s := s) F (tak s (wid z) c).2
    rw [rnums]
    split
    · simp only [List.length_cons]; omega
    · simp only [List.length_cons]; omega
theorem rnums_stop {o z : Int} {s : List UInt8} : ∀ (i n : Nat) (c : Cu), i ≤ n → (rnums o s (List.replicate i z) c).2.e ≠ 0 → rnums o s (List.replicate n z) c = rnums o s (List.replicate i z) c
  | 0, n, c, _, h => rnums_bad (List.replicate n z) (show c.e ≠ 0 from h)
  | i + 1, 0, c, h, _ => by omega
  | i + 1, n + 1, c, h, he => by
    rw [List.replicate_succ, rnums] at he
    rw [List.replicate_succ, List.replicate_succ, rnums, rnums]
    by_cases h0 : (tak s (wid z) c).2.e = 0
    · rw [if_pos h0] at he
      rw [if_pos h0, if_pos h0, rnums_stop i n _ (by omega) he]
    · rw [if_neg h0] at he
      rw [if_neg h0, if_neg h0, rnums_stop i n _ (by omega) he]
theorem rnums_room {o z : Int} {s : List UInt8} : ∀ (n a : Nat), a ≤ s.length → (rnums o s (List.replicate n z) ⟨a, 0⟩).2.as (if s.length < a + n * wid z then ⟨a, 3⟩ else ⟨a + n * wid z, 0⟩)
  | 0, a, h => by rw [if_neg (by omega)]; exact ⟨rfl, fun _ => (by simp [rnums])⟩
  | n + 1, a, h => by
    have hm : (n + 1) * wid z = n * wid z + wid z := Nat.succ_mul ..
    rw [List.replicate_succ, rnums]
    by_cases h1 : s.length < a + wid z
    · have e : tak s (wid z) ⟨a, 0⟩ = ([], ⟨a, 3⟩) := by rw [tak, if_pos rfl, if_pos h1]
      rw [e, if_neg (show ¬ (3 : Int) = 0 by decide), rnums_bad _ (show (3 : Int) ≠ 0 by decide), if_pos (by omega)]
      exact ⟨rfl, fun _ => rfl⟩
    · have e : tak s (wid z) ⟨a, 0⟩ = ((s.drop a).take (wid z), ⟨a + wid z, 0⟩) := by rw [tak, if_pos rfl, if_neg h1]
      rw [e, if_pos rfl]
      have := rnums_room (o := o) (z := z) (s := s) n (a + wid z) (by omega)
      by_cases h2 : s.length < a + wid z + n * wid z
      · rw [if_pos h2] at this
        rw [if_pos (by omega)]
        exact ⟨this.1, fun h => absurd (this.1.symm.trans h) (show ¬ (3 : Int) = 0 by decide)⟩
      · rw [if_neg h2] at this
        rw [if_neg (by omega)]
        exact ⟨this.1, fun h => by have := this.2 h; simp only at this ⊢; omega⟩
def rB (o : Int) (s : List UInt8) (b : Bool) (c : Cu) : List UInt8 × Cu :=
  if b = true then
    if (tak s 4 c).2.e = 0 then ((tak s (readV o 4 (tak s 4 c).1).toNat (tak s 4 c).2).1, rfil s (tak s (readV o 4 (tak s 4 c).1).toNat (tak s 4 c).2).2)
    else ([], rfil s (tak s 4 c).2)
  else ([], c)
def rL (o : Int) (s : List UInt8) (z : Int) (c : Cu) : List Int × Cu :=
  if z = 0 then ([], c)
  else if (tak s 4 c).2.e = 0 then ((rnums o s (List.replicate (readV o 4 (tak s 4 c).1).toNat z) (tak s 4 c).2).1, rfil s (rnums o s (List.replicate (readV o 4 (tak s 4 c).1).toNat z) (tak s 4 c).2).2)
  else ([], rfil s (tak s 4 c).2)
def rbody (o : Int) (s : List UInt8) (f : Fm) : Fd × Cu :=
  (⟨(rnums o s f.F ⟨0, 0⟩).1, (rB o s f.B (rfil s (rnums o s f.F ⟨0, 0⟩).2)).1, (rL o s f.L (rB o s f.B (rfil s (rnums o s f.F ⟨0, 0⟩).2)).2).1⟩,
    (rL o s f.L (rB o s f.B (rfil s (rnums o s f.F ⟨0, 0⟩).2)).2).2)
theorem rB_bad {o : Int} {s : List UInt8} {b : Bool} {c : Cu} (h : c.e ≠ 0) : rB o s b c = ([], c) := by
  unfold rB
  rw [tak_bad h, if_neg h, rfil_bad h]
  split <;> rfl
theorem rL_bad {o z : Int} {s : List UInt8} {c : Cu} (h : c.e ≠ 0) : rL o s z c = ([], c) := by
  unfold rL
  rw [tak_bad h, if_neg h, rfil_bad h]
  split <;> rfl
theorem stL_bad {o z : Int} {s : List UInt8} {c : Cu} (h : c.e ≠ 0) : (stL o s z c).2 = c := by
  unfold stL
  rw [show num o s 4 c = (0, c) by rw [num, if_neg h]]
  split
  · rfl
  · rfl
theorem Cu.as.rfl' {c : Cu} : c.as c := ⟨rfl, fun _ => rfl⟩
theorem rL_as {o z : Int} (ho : isOrder o) {s : List UInt8} {c d : Cu} (hz : z = 0 ∨ isSize z) (h : c.as d) (hc : c.a ≤ s.length) : (rL o s z c).2.as (stL o s z d).2 ∧ ((rL o s z c).2.e = 0 → (rL o s z c).1 = (stL o s z d).1) := by
  by_cases h0 : c.e = 0
  · obtain rfl := h.eq h0
    obtain ⟨h1, h2⟩ := num_tak (o := o) (z := 4) (s := s) (c := c)
    have h4 := num4 (o := o) (s := s) ho c
    have w4 : wid 4 = 4 := rfl
    rw [w4] at h1 h2
    unfold rL stL
    rw [h1]
    by_cases hz0 : z = 0
    · rw [if_pos hz0, if_pos hz0]; exact ⟨Cu.as.rfl', fun _ => rfl⟩
    · rw [if_neg hz0, if_neg hz0]
      have hta := tak_le (n := 4) hc
      by_cases he : (tak s 4 c).2.e = 0
      · rw [if_pos he, if_pos he]
        have hv := h2 he
        rw [hv] at h4 ⊢
        generalize readV o 4 (tak s 4 c).1 = n at *
        obtain ⟨m, rfl⟩ := Int.eq_ofNat_of_zero_le h4.1
        generalize (tak s 4 c).2 = q at *
        obtain ⟨a, e⟩ := q
        simp only at he hta
        subst he
        simp only [Int.toNat_natCast]
        have hr := rnums_room (o := o) (z := z) (s := s) m a hta
        obtain ⟨n1, n2⟩ := rnums_nums (o := o) (s := s) (List.replicate m z) ⟨a, 0⟩
        have hcast : (m : Int) * (wid z : Int) = ((m * wid z : Nat) : Int) := (Int.natCast_mul _ _).symm
        by_cases hs : s.length < a + m * wid z
        · rw [if_pos (by rw [hcast]; omega)]
          rw [if_pos hs] at hr
          have hne : (rnums o s (List.replicate m z) ⟨a, 0⟩).2.e ≠ 0 := by rw [hr.1]; exact (show (3 : Int) ≠ 0 by decide)
          rw [rfil_bad hne]
          exact ⟨⟨hr.1, fun h => absurd h hne⟩, fun h => absurd h hne⟩
        · rw [if_neg (by rw [hcast]; omega)]
          rw [if_neg hs] at hr
          refine ⟨?_, fun _ => n2 hr.1⟩
          rw [← n1]
          exact rfil_as Cu.as.rfl'
      · rw [if_neg he, if_neg he, rfil_bad he]
        exact ⟨Cu.as.rfl', fun _ => rfl⟩
  · rw [rL_bad h0, stL_bad (by rw [← h.1]; exact h0)]
    exact ⟨h, fun h1 => absurd h1 h0⟩
theorem rB_le {o : Int} {s : List UInt8} {b : Bool} {c : Cu} (hc : c.a ≤ s.length) : (rB o s b c).2.a ≤ s.length := by
  unfold rB
  split
  · split
    · exact rfil_le (tak_le (tak_le hc))
    · exact rfil_le (tak_le hc)
  · exact hc
/-- The document's Get. -/
def rgetF (o : Int) (f : Fm) (s : List UInt8) : Fd × Int :=
  if 65536 < s.length then (fd0, 4)
  else if getX s (rbody o s f).2 = 0 then ((rbody o s f).1, 0) else (fd0, getX s (rbody o s f).2)
theorem rbody_body {o : Int} (ho : isOrder o) {f : Fm} (hf : f.Ok) {s : List UInt8} : (rbody o s f).2.as (body o s f ⟨0, 0⟩).2 ∧ ((rbody o s f).2.e = 0 → (rbody o s f).1 = (body o s f ⟨0, 0⟩).1) := by
  obtain ⟨n1, n2⟩ := rnums_nums (o := o) (s := s) f.F ⟨0, 0⟩
  have hle := rnums_le (o := o) (s := s) f.F (c := ⟨0, 0⟩) (Nat.zero_le _)
  have hbad : (rnums o s f.F ⟨0, 0⟩).2.e ≠ 0 → (rbody o s f).2.e ≠ 0 := fun h => by
    show (rL o s f.L (rB o s f.B (rfil s (rnums o s f.F ⟨0, 0⟩).2)).2).2.e ≠ 0
    rw [rfil_bad h, rB_bad h, rL_bad h]; exact h
  unfold rbody body at *
  rw [← n1]
  generalize rnums o s f.F ⟨0, 0⟩ = p at *
  have hc1 := rfil_le hle
  have has := rfil_as (s := s) (c := p.2) (d := p.2) Cu.as.rfl'
  generalize rfil s p.2 = c at *
  generalize fil s p.2 = d at *
  simp only at hbad ⊢
  have hn : ∀ e : Int, (p.2.e ≠ 0 → e ≠ 0) → e = 0 → p.1 = (nums o s f.F ⟨0, 0⟩).1 := fun e h h1 => n2 (by
    by_cases h2 : p.2.e = 0
    · exact h2
    · exact absurd h1 (h h2))
  cases hB : f.B
  · have e1 : rB o s false c = ([], c) := by rw [rB, if_neg Bool.false_ne_true]
    have e2 : stB o s false d = (true, [], d) := by rw [stB, if_neg Bool.false_ne_true]
    rw [hB, e1] at hbad
    rw [e1, e2, if_pos rfl]
    obtain ⟨l1, l2⟩ := rL_as ho hf.l has hc1
    exact ⟨l1, fun h => by rw [hn _ hbad h, l2 h]⟩
  · rw [hB] at hbad
    by_cases h0 : c.e = 0
    · obtain rfl := has.eq h0
      obtain ⟨h1, h2⟩ := num_tak (o := o) (z := 4) (s := s) (c := c)
      have h4 := num4 (o := o) (s := s) ho c
      have w4 : wid 4 = 4 := rfl
      rw [w4] at h1 h2
      have hta := tak_le (n := 4) hc1
      unfold stB
      rw [if_pos rfl, h1]
      by_cases he : (tak s 4 c).2.e = 0
      · have hv := h2 he
        rw [hv] at h4 ⊢
        have e1 : rB o s true c = ((tak s (readV o 4 (tak s 4 c).1).toNat (tak s 4 c).2).1, rfil s (tak s (readV o 4 (tak s 4 c).1).toNat (tak s 4 c).2).2) := by rw [rB, if_pos rfl, if_pos he]
        rw [e1] at hbad ⊢
        rw [if_pos he]
        generalize readV o 4 (tak s 4 c).1 = n at *
        obtain ⟨m, rfl⟩ := Int.eq_ofNat_of_zero_le h4.1
        generalize (tak s 4 c).2 = q at *
        obtain ⟨a, e⟩ := q
        simp only at he hta
        subst he
        simp only [Int.toNat_natCast] at *
        by_cases hs : s.length < a + m
        · have e2 : tak s m ⟨a, 0⟩ = ([], ⟨a, 3⟩) := by rw [tak, if_pos rfl, if_pos hs]
          have hh : ((s.length - a : Nat) : Int) < (m : Int) := by omega
          rw [if_pos hh, if_neg Bool.false_ne_true, e2]
          simp only
          rw [rfil_bad (show (3 : Int) ≠ 0 by decide), rL_bad (show (3 : Int) ≠ 0 by decide)]
          exact ⟨Cu.as.rfl', fun h => absurd (show (3 : Int) = 0 from h) (by decide)⟩
        · have e2 : tak s m ⟨a, 0⟩ = ((s.drop a).take m, ⟨a + m, 0⟩) := by rw [tak, if_pos rfl, if_neg hs]
          have hh : ¬ ((s.length - a : Nat) : Int) < (m : Int) := by omega
          rw [if_neg hh, if_pos rfl]
          rw [e2] at hbad ⊢
          simp only at hbad ⊢
          obtain ⟨l1, l2⟩ := rL_as (o := o) ho hf.l (rfil_as (s := s) (c := ⟨a + m, 0⟩) (d := ⟨a + m, 0⟩) Cu.as.rfl') (rfil_le (by simp only; omega))
          exact ⟨l1, fun h => by rw [hn _ hbad h, l2 h]⟩
      · have e1 : rB o s true c = ([], (tak s 4 c).2) := by rw [rB, if_pos rfl, if_neg he, rfil_bad he]
        rw [e1, if_neg he, if_neg Bool.false_ne_true]
        simp only
        rw [rL_bad he]
        exact ⟨Cu.as.rfl', fun h => absurd h he⟩
    · have hd : d.e ≠ 0 := by rw [← has.1]; exact h0
      have e2 : stB o s true d = (false, [], d) := by
        rw [stB, if_pos rfl, show num o s 4 d = (0, d) by rw [num, if_neg hd], if_neg hd]
      rw [rB_bad h0, rL_bad h0, e2, if_neg Bool.false_ne_true]
      exact ⟨has, fun h => absurd h h0⟩
theorem rgetF_eq {o : Int} (ho : isOrder o) {f : Fm} (hf : f.Ok) (s : List UInt8) : rgetF o f s = getF o f s := by
  obtain ⟨h1, h2⟩ := rbody_body ho hf (s := s)
  unfold rgetF getF
  split
  · rfl
  · by_cases h0 : (rbody o s f).2.e = 0
    · rw [h1.eq h0, h2 h0]
    · have h0' : (body o s f ⟨0, 0⟩).2.e ≠ 0 := by rw [← h1.1]; exact h0
      have e1 : getX s (rbody o s f).2 = (rbody o s f).2.e := by rw [getX, if_neg (fun h => h0 h.1)]
      have e2 : getX s (body o s f ⟨0, 0⟩).2 = (body o s f ⟨0, 0⟩).2.e := by rw [getX, if_neg (fun h => h0' h.1)]
      rw [e1, e2, ← h1.1, if_neg h0, if_neg h0]
end Go.Proofs.Sh

/- The document's layer 2: Get. -/
set_option maxRecDepth 100000
set_option linter.unusedSimpArgs false
set_option linter.unusedVariables false
namespace Go.Proofs.Sh
open Go.Pv

structure R1S (f : Fm) where
  k : Nat
  h : k ≤ f.F.length
def R1S.st (o : Int) (s : List UInt8) (f : Fm) (x : R1S f) : PS := { n := 166, env := [(11, .int .i64 x.k), (4, .box 0 0), (6, .box 1 0), (9, .box 2 0), (10, .box 3 0), (0, .int .i64 o), (2, .str s)], objs := [(0, some [.sl 1 (ints f.F), .bool f.B, .int .i64 f.L]), (1, some [.nilsl, .str [], .nilsl]), (2, some [.str s, .int .i64 ((rnums o s (f.F.take x.k) ⟨0, 0⟩).2).a, .int .i64 ((rnums o s (f.F.take x.k) ⟨0, 0⟩).2).e]), (3, some [.slt 1 (ints (rnums o s (f.F.take x.k) ⟨0, 0⟩).1) 50, .str [], .nilsl])], live := [(50, true)], nxt := 60 }
structure R2S (n : Nat) (P : Nat → Prop) where
  k : Nat
  h : k ≤ n
  r : P k
def R2S.st (o : Int) (s : List UInt8) (f : Fm) (ns : List Int) (bb : List UInt8) (c : Cu) {n : Nat} {P : Nat → Prop} (x : R2S n P) : PS := { n := 166, env := [(16, .int .i64 x.k), (15, .int .i64 n), (4, .box 0 0), (6, .box 1 0), (9, .box 2 0), (10, .box 3 0), (0, .int .i64 o), (2, .str s)], objs := [(0, some [.sl 1 (ints f.F), .bool f.B, .int .i64 f.L]), (1, some [.nilsl, .str [], .nilsl]), (2, some [.str s, .int .i64 ((rnums o s (List.replicate x.k f.L) c).2).a, .int .i64 ((rnums o s (List.replicate x.k f.L) c).2).e]), (3, some [.slt 1 (ints ns) 50, .str bb, .slt 1 (ints (rnums o s (List.replicate x.k f.L) c).1) 51])], live := [(50, true), (51, true)], nxt := 60 }
theorem ints_snoc' (l : List Int) (v : Int) : ints l ++ [.int .i64 v] = ints (l ++ [v]) := by simp [ints]
theorem tak_len {s : List UInt8} {n : Nat} {c : Cu} (he : (tak s n c).2.e = 0) : (tak s n c).1.length = n := by
  unfold tak at he ⊢
  split at he
  · split at he
    · exact absurd (show (3 : Int) = 0 from he) (by decide)
    · rename_i a1 a2
      rw [if_pos a1, if_neg a2]
      rw [List.length_take, List.length_drop]; omega
  · rename_i a1
    exact absurd he a1
theorem readV4 {o : Int} (ho : isOrder o) {b : List UInt8} (h : b.length = 4) : 0 ≤ readV o 4 b ∧ readV o 4 b < 4294967296 := by
  have := decU_le o h
  rw [readV, if_neg (by simp [high]; omega)]
  omega
def rgetR (o : Int) (f : Fm) (s : List UInt8) : PV := .tup [(rgetF o f s).1.pv, .int .i64 (rgetF o f s).2]
set_option maxHeartbeats 16000000 in
theorem rget_fs {o : Int} (ho : isOrder o) (f : Fm) (h : f.Ok) (s : List UInt8) (hl : s.length ≤ 1000000) : Fsp Tryd.prog 27 [] 0 [.int .i64 o, f.pv, .str s] [] 0 (rgetR o f s) := by
  have hck := rcheck_fs f h
  simp only [Fm.pv] at hck
  unfold rgetR
  (refine Fsp.of (nx := 0) mixed Tryd.func27 rfl (by decide) (by first | exact Nat.le_refl _ | simp) (by simp [Tryd.f27]) ⟨by decide, by decide⟩ ?_; simp -implicitDefEqProofs only [push_cast, Tryd.f27, Fm.pv, ints_length, Int.reduceBEq, Int.reduceBNe, Int.reduceEq, Int.reduceNe, Int.reducePow, Nat.reduceAdd, Nat.reduceMul, Nat.reduceSub, Nat.reduceLT, Nat.reduceLeDiff, Nat.reduceEqDiff, Nat.reduceBEq, Int.reduceLT, Int.reduceLE, Int.reduceAdd, Int.reduceSub, Int.reduceMul, Int.reduceToNat, Int.reduceNeg, reduceIte, reduceCtorEq, reduceBEq])
  refine condC_split (fun h1 => ?_) (fun h1 => ?_)
  · rcases ho with rfl | rfl <;> cases h1
  simp -implicitDefEqProofs only [push_cast, Int.reduceBEq, Int.reduceBNe, Int.reduceEq, Int.reduceNe, Int.reducePow, Nat.reduceAdd, Nat.reduceMul, Nat.reduceSub, Nat.reduceLT, Nat.reduceLeDiff, Nat.reduceEqDiff, Nat.reduceBEq, Int.reduceLT, Int.reduceLE, Int.reduceAdd, Int.reduceSub, Int.reduceMul, Int.reduceToNat, Int.reduceNeg, reduceIte, reduceCtorEq, reduceBEq]
  refine callE_pure hck (by rfl) (by rfl) (by rfl) (by decide) (by rfl) (fun _ => by rfl) (by first | rfl | simp [gdOk, newToks]) ?_
  simp -implicitDefEqProofs only [push_cast, ints_length, Int.reduceBEq, Int.reduceBNe, Int.reduceEq, Int.reduceNe, Int.reducePow, Nat.reduceAdd, Nat.reduceMul, Nat.reduceSub, Nat.reduceLT, Nat.reduceLeDiff, Nat.reduceEqDiff, Nat.reduceBEq, Int.reduceLT, Int.reduceLE, Int.reduceAdd, Int.reduceSub, Int.reduceMul, Int.reduceToNat, Int.reduceNeg, reduceIte, reduceCtorEq, reduceBEq]
  refine condC_split (fun h2 => ?_) (fun h2 => ?_)
  · rw [rgetF, if_pos (by simp at h2; omega)]
    simp -implicitDefEqProofs only [push_cast, Int.reduceBEq, Int.reduceBNe, Int.reduceEq, Int.reduceNe, Int.reducePow, Nat.reduceAdd, Nat.reduceMul, Nat.reduceSub, Nat.reduceLT, Nat.reduceLeDiff, Nat.reduceEqDiff, Nat.reduceBEq, Int.reduceLT, Int.reduceLE, Int.reduceAdd, Int.reduceSub, Int.reduceMul, Int.reduceToNat, Int.reduceNeg, reduceIte, reduceCtorEq, reduceBEq]
    exact ⟨_, rfl, by simp [wkL, res2, res1, PV.weak, PV.el, Fd.pv, fd0, ints]⟩
  have hl6 : ¬ 65536 < s.length := by simp at h2; omega
  simp -implicitDefEqProofs only [push_cast, Int.reduceBEq, Int.reduceBNe, Int.reduceEq, Int.reduceNe, Int.reducePow, Nat.reduceAdd, Nat.reduceMul, Nat.reduceSub, Nat.reduceLT, Nat.reduceLeDiff, Nat.reduceEqDiff, Nat.reduceBEq, Int.reduceLT, Int.reduceLE, Int.reduceAdd, Int.reduceSub, Int.reduceMul, Int.reduceToNat, Int.reduceNeg, reduceIte, reduceCtorEq, reduceBEq]
  refine loopC_of (α := R1S f) (R1S.st o s f) (fun x => f.F.length - x.k) ⟨0, by omega⟩ ?_ ?_
  · (simp only [R1S.st, List.take_zero, rnums]; exact Wk.by _ _ _ [(0, 0), (1, 4), (2, 76), (3, 88)] [] [50] (by simp) (by simp [wkV, PV.el, PV.weak, PS.get, PS.obj, PS.lv, lkp_hit, lkp_miss, lkp_nil, lko, wkL, wkC, res1, ints]) (by simp [PS.get, PS.obj, PS.lv, lkp_hit, lkp_miss, lkp_nil, lko, wkL, wkC, PV.weak, wkL, wkC, res1, ints]) (by simp [PS.get, PS.obj, PS.lv, lkp_hit, lkp_miss, lkp_nil, lko]) (by rfl) (by rfl) (by simp [lko]) (by simp) (by simp) (by simp) (fun i hi => absurd hi (Nat.not_lt_zero i)))
  · rintro ⟨k, hk⟩
    have hle := rnums_le (o := o) (s := s) (f.F.take k) (c := ⟨0, 0⟩) (Nat.zero_le _)
    have hnl := rnums_length (o := o) (s := s) (f.F.take k) ⟨0, 0⟩
    rw [List.length_take] at hnl
    simp -implicitDefEqProofs only [push_cast, R1S.st, ints_length, Int.reduceBEq, Int.reduceBNe, Int.reduceEq, Int.reduceNe, Int.reducePow, Nat.reduceAdd, Nat.reduceMul, Nat.reduceSub, Nat.reduceLT, Nat.reduceLeDiff, Nat.reduceEqDiff, Nat.reduceBEq, Int.reduceLT, Int.reduceLE, Int.reduceAdd, Int.reduceSub, Int.reduceMul, Int.reduceToNat, Int.reduceNeg, reduceIte, reduceCtorEq, reduceBEq]
    refine condC_split (fun h3 => ?_) (fun h3 => ?_)
    · have hlt : k < f.F.length := by simp at h3; omega
      have hg := ints_at hlt
      have hzs : isSize (f.F.getD k 0) := by
        rw [List.getD_eq_getElem?_getD, List.getElem?_eq_getElem hlt, Option.getD_some]
        exact h.s _ (List.getElem_mem hlt)
      have hby := rbytes_fs hzs
      have hwz := wid_pos hzs
      have hsn := rnums_snoc o s (f.F.getD k 0) (f.F.take k) ⟨0, 0⟩
      rw [show f.F.take k ++ [f.F.getD k 0] = f.F.take (k + 1) by rw [List.take_succ_eq_append_getElem hlt, List.getD_eq_getElem?_getD, List.getElem?_eq_getElem hlt]; rfl] at hsn
      have hk16 := h.n
      generalize rnums o s (f.F.take k) ⟨0, 0⟩ = p at *
      have hta := rtake_fs s hl p.2 hle (wid (f.F.getD k 0)) (by omega)
      have hva := tak_len (s := s) (n := wid (f.F.getD k 0)) (c := p.2)
      generalize f.F.getD k 0 = z at *
      generalize tak s (wid z) p.2 = t at *
      have hwr : IntKind.i64.wrap ((k : Int) + 1) = ((k + 1 : Nat) : Int) := by (rw [wrap_i64_id (by omega) (by omega)]; rfl)
      simp -implicitDefEqProofs only [push_cast, hg, ints_length, Int.reduceBEq, Int.reduceBNe, Int.reduceEq, Int.reduceNe, Int.reducePow, Nat.reduceAdd, Nat.reduceMul, Nat.reduceSub, Nat.reduceLT, Nat.reduceLeDiff, Nat.reduceEqDiff, Nat.reduceBEq, Int.reduceLT, Int.reduceLE, Int.reduceAdd, Int.reduceSub, Int.reduceMul, Int.reduceToNat, Int.reduceNeg, reduceIte, reduceCtorEq, reduceBEq]
      (repeat (first | refine ⟨by omega, ?_⟩ | refine ⟨by simp [maxLen, ints_length]; omega, ?_⟩ | refine ⟨by (unfold drawOk; kernel_rfl), ?_⟩))
      refine callE_pure hby (by rfl) (by rfl) (by rfl) (by decide) (by rfl) (fun _ => by rfl) (by first | rfl | simp [gdOk, newToks]) ?_
      simp -implicitDefEqProofs only [push_cast, hg, ints_length, Int.reduceBEq, Int.reduceBNe, Int.reduceEq, Int.reduceNe, Int.reducePow, Nat.reduceAdd, Nat.reduceMul, Nat.reduceSub, Nat.reduceLT, Nat.reduceLeDiff, Nat.reduceEqDiff, Nat.reduceBEq, Int.reduceLT, Int.reduceLE, Int.reduceAdd, Int.reduceSub, Int.reduceMul, Int.reduceToNat, Int.reduceNeg, reduceIte, reduceCtorEq, reduceBEq]
      refine callE_box hta [2] [] (by rfl) (by rfl) (by rfl) (by rfl) (by rfl) (by rfl) (fun i j cs h1 h2 => by (rcases i with _ | i <;> simp at h1 h2 <;> (subst h1; subst h2; exact ⟨_, rfl, (by (repeat' (first | exact wkL_nil | refine wkL_cons ?_ ?_)); all_goals (first | exact .inl ⟨_, _, _, _, rfl, rfl, rfl⟩ | exact .inr (.inr (.inr (.inr (.inl ⟨_, _, _, rfl, rfl, rfl⟩)))) | exact .inr (.inr (.inr (.inr (.inr ⟨_, _, _, _, rfl, rfl, rfl⟩)))) | exact .inr (.inl rfl) | exact .inr (.inr (.inl ⟨_, _, _, rfl, rfl, rfl⟩))))⟩))) (by simp [PS.lv, lkp_hit, lkp_miss, lkp_nil]) (by (repeat' (first | exact wkL_nil | refine wkL_cons ?_ ?_)); all_goals (first | exact .inl ⟨_, _, _, rfl, rfl, rfl⟩ | exact .inr (.inl rfl) | exact .inr (.inr (.inl ⟨_, _, _, _, rfl, rfl, rfl⟩)))) (by decide) (by simp) (by rfl) (by simp [tokLt1]) (fun _ => by rfl) (by first | rfl | simp [gdOk, newToks]) ?_
      simp -implicitDefEqProofs only [push_cast, hg, ints_length, Int.reduceBEq, Int.reduceBNe, Int.reduceEq, Int.reduceNe, Int.reducePow, Nat.reduceAdd, Nat.reduceMul, Nat.reduceSub, Nat.reduceLT, Nat.reduceLeDiff, Nat.reduceEqDiff, Nat.reduceBEq, Int.reduceLT, Int.reduceLE, Int.reduceAdd, Int.reduceSub, Int.reduceMul, Int.reduceToNat, Int.reduceNeg, reduceIte, reduceCtorEq, reduceBEq]
      refine condC_split (fun h4 => ?_) (fun h4 => ?_)
      · have he : t.2.e = 0 := by simpa using h4
        rw [if_pos he] at hsn
        have hv := rval_fs ho hzs t.1 (hva he)
        simp -implicitDefEqProofs only [push_cast, hg, ints_length, Int.reduceBEq, Int.reduceBNe, Int.reduceEq, Int.reduceNe, Int.reducePow, Nat.reduceAdd, Nat.reduceMul, Nat.reduceSub, Nat.reduceLT, Nat.reduceLeDiff, Nat.reduceEqDiff, Nat.reduceBEq, Int.reduceLT, Int.reduceLE, Int.reduceAdd, Int.reduceSub, Int.reduceMul, Int.reduceToNat, Int.reduceNeg, reduceIte, reduceCtorEq, reduceBEq]
        (repeat (first | refine ⟨by omega, ?_⟩ | refine ⟨by simp [maxLen, ints_length]; omega, ?_⟩ | refine ⟨by (unfold drawOk; kernel_rfl), ?_⟩))
        refine callE_pure hv (by rfl) (by rfl) (by rfl) (by decide) (by rfl) (fun _ => by rfl) (by first | rfl | simp [gdOk, newToks]) ?_
        simp -implicitDefEqProofs only [push_cast, hg, ints_length, Int.reduceBEq, Int.reduceBNe, Int.reduceEq, Int.reduceNe, Int.reducePow, Nat.reduceAdd, Nat.reduceMul, Nat.reduceSub, Nat.reduceLT, Nat.reduceLeDiff, Nat.reduceEqDiff, Nat.reduceBEq, Int.reduceLT, Int.reduceLE, Int.reduceAdd, Int.reduceSub, Int.reduceMul, Int.reduceToNat, Int.reduceNeg, reduceIte, reduceCtorEq, reduceBEq]
        (repeat (first | refine ⟨by omega, ?_⟩ | refine ⟨by simp [maxLen, ints_length]; omega, ?_⟩ | refine ⟨by (unfold drawOk; kernel_rfl), ?_⟩))
        rw [hwr]
        refine ⟨⟨k + 1, by omega⟩, by simp only; omega, ?_⟩
        (simp only [R1S.st, hsn, ← ints_snoc']; exact Wk.by _ _ _ [(0, 0), (1, 1), (2, 2), (3, 3)] [(50, 180)] [] (by simp) (by simp [wkV, PV.el, PV.weak, PS.get, PS.obj, PS.lv, lkp_hit, lkp_miss, lkp_nil, lko, wkL, wkC, res1, ints]) (by simp [PS.get, PS.obj, PS.lv, lkp_hit, lkp_miss, lkp_nil, lko, wkL, wkC, PV.weak, wkL, wkC, res1, ints]) (by simp [PS.get, PS.obj, PS.lv, lkp_hit, lkp_miss, lkp_nil, lko]) (by rfl) (by rfl) (by simp [lko]) (by simp) (by simp) (by simp) (fun i hi => absurd hi (Nat.not_lt_zero i)))
      · have he : ¬ t.2.e = 0 := by simpa using h4
        rw [if_neg he] at hsn
        simp -implicitDefEqProofs only [push_cast, hg, ints_length, Int.reduceBEq, Int.reduceBNe, Int.reduceEq, Int.reduceNe, Int.reducePow, Nat.reduceAdd, Nat.reduceMul, Nat.reduceSub, Nat.reduceLT, Nat.reduceLeDiff, Nat.reduceEqDiff, Nat.reduceBEq, Int.reduceLT, Int.reduceLE, Int.reduceAdd, Int.reduceSub, Int.reduceMul, Int.reduceToNat, Int.reduceNeg, reduceIte, reduceCtorEq, reduceBEq]
        rw [hwr]
        refine ⟨⟨k + 1, by omega⟩, by simp only; omega, ?_⟩
        (simp only [R1S.st, hsn]; exact Wk.by _ _ _ [(0, 0), (1, 1), (2, 2), (3, 3)] [(50, 50)] [] (by simp) (by simp [wkV, PV.el, PV.weak, PS.get, PS.obj, PS.lv, lkp_hit, lkp_miss, lkp_nil, lko, wkL, wkC, res1, ints]) (by simp [PS.get, PS.obj, PS.lv, lkp_hit, lkp_miss, lkp_nil, lko, wkL, wkC, PV.weak, wkL, wkC, res1, ints]) (by simp [PS.get, PS.obj, PS.lv, lkp_hit, lkp_miss, lkp_nil, lko]) (by rfl) (by rfl) (by simp [lko]) (by simp) (by simp) (by simp) (fun i hi => absurd hi (Nat.not_lt_zero i)))
    · have hke : k = f.F.length := by simp at h3; omega
      subst hke
      rw [List.take_length] at *
      simp -implicitDefEqProofs only [push_cast, ints_length, Int.reduceBEq, Int.reduceBNe, Int.reduceEq, Int.reduceNe, Int.reducePow, Nat.reduceAdd, Nat.reduceMul, Nat.reduceSub, Nat.reduceLT, Nat.reduceLeDiff, Nat.reduceEqDiff, Nat.reduceBEq, Int.reduceLT, Int.reduceLE, Int.reduceAdd, Int.reduceSub, Int.reduceMul, Int.reduceToNat, Int.reduceNeg, reduceIte, reduceCtorEq, reduceBEq]
      have hno := noughts_fs s hl (rnums o s f.F ⟨0, 0⟩).2 hle
      have hc1 := rfil_le hle
      have hRB : rbody o s f = (⟨(rnums o s f.F ⟨0, 0⟩).1, (rB o s f.B (rfil s (rnums o s f.F ⟨0, 0⟩).2)).1, (rL o s f.L (rB o s f.B (rfil s (rnums o s f.F ⟨0, 0⟩).2)).2).1⟩, (rL o s f.L (rB o s f.B (rfil s (rnums o s f.F ⟨0, 0⟩).2)).2).2) := rfl
      refine callE_box hno [2] [] (by rfl) (by rfl) (by rfl) (by rfl) (by rfl) (by rfl) (fun i j cs h1 h2 => by (rcases i with _ | i <;> simp at h1 h2 <;> (subst h1; subst h2; exact ⟨_, rfl, (by (repeat' (first | exact wkL_nil | refine wkL_cons ?_ ?_)); all_goals (first | exact .inl ⟨_, _, _, _, rfl, rfl, rfl⟩ | exact .inr (.inr (.inr (.inr (.inl ⟨_, _, _, rfl, rfl, rfl⟩)))) | exact .inr (.inr (.inr (.inr (.inr ⟨_, _, _, _, rfl, rfl, rfl⟩)))) | exact .inr (.inl rfl) | exact .inr (.inr (.inl ⟨_, _, _, rfl, rfl, rfl⟩))))⟩))) (by simp [PS.lv, lkp_hit, lkp_miss, lkp_nil]) (by (repeat' (first | exact wkL_nil | refine wkL_cons ?_ ?_)); all_goals (first | exact .inl ⟨_, _, _, rfl, rfl, rfl⟩ | exact .inr (.inl rfl) | exact .inr (.inr (.inl ⟨_, _, _, _, rfl, rfl, rfl⟩)))) (by decide) (by simp) (by rfl) (by simp [tokLt1]) (fun _ => by rfl) (by first | rfl | simp [gdOk, newToks]) ?_
      simp -implicitDefEqProofs only [push_cast, Int.reduceBEq, Int.reduceBNe, Int.reduceEq, Int.reduceNe, Int.reducePow, Nat.reduceAdd, Nat.reduceMul, Nat.reduceSub, Nat.reduceLT, Nat.reduceLeDiff, Nat.reduceEqDiff, Nat.reduceBEq, Int.reduceLT, Int.reduceLE, Int.reduceAdd, Int.reduceSub, Int.reduceMul, Int.reduceToNat, Int.reduceNeg, reduceIte, reduceCtorEq, reduceBEq]
      generalize rnums o s f.F ⟨0, 0⟩ = p at *
      generalize rfil s p.2 = c1 at *
      cases hB : f.B
      · rw [hB, show rB o s false c1 = ([], c1) by rw [rB, if_neg Bool.false_ne_true]] at hRB
        simp -implicitDefEqProofs only [push_cast, hB, Int.reduceBEq, Int.reduceBNe, Int.reduceEq, Int.reduceNe, Int.reducePow, Nat.reduceAdd, Nat.reduceMul, Nat.reduceSub, Nat.reduceLT, Nat.reduceLeDiff, Nat.reduceEqDiff, Nat.reduceBEq, Int.reduceLT, Int.reduceLE, Int.reduceAdd, Int.reduceSub, Int.reduceMul, Int.reduceToNat, Int.reduceNeg, reduceIte, reduceCtorEq, reduceBEq]
        cases hL : (f.L != 0)
        · have hL0 : f.L = 0 := by simpa using hL
          rw [show rL o s f.L c1 = ([], c1) by rw [rL, if_pos hL0]] at hRB
          simp -implicitDefEqProofs only [push_cast, hL, Int.reduceBEq, Int.reduceBNe, Int.reduceEq, Int.reduceNe, Int.reducePow, Nat.reduceAdd, Nat.reduceMul, Nat.reduceSub, Nat.reduceLT, Nat.reduceLeDiff, Nat.reduceEqDiff, Nat.reduceBEq, Int.reduceLT, Int.reduceLE, Int.reduceAdd, Int.reduceSub, Int.reduceMul, Int.reduceToNat, Int.reduceNeg, reduceIte, reduceCtorEq, reduceBEq]
          rw [show rgetF o f s = (if getX s c1 = 0 then (⟨p.1, [], []⟩, 0) else (fd0, getX s c1)) by rw [rgetF, if_neg hl6, hRB]]
          obtain ⟨a9, e9⟩ := c1
          cases h7 : (e9 == 0)
          · have hne7 : ¬ e9 = 0 := by simpa using h7
            have hne7' : (e9 != 0) = true := by simpa using h7
            rw [show getX s ⟨a9, e9⟩ = e9 by rw [getX, if_neg (fun h => hne7 h.1)], if_neg hne7]
            simp -implicitDefEqProofs only [push_cast, h7, hne7', Int.reduceBEq, Int.reduceBNe, Int.reduceEq, Int.reduceNe, Int.reducePow, Nat.reduceAdd, Nat.reduceMul, Nat.reduceSub, Nat.reduceLT, Nat.reduceLeDiff, Nat.reduceEqDiff, Nat.reduceBEq, Int.reduceLT, Int.reduceLE, Int.reduceAdd, Int.reduceSub, Int.reduceMul, Int.reduceToNat, Int.reduceNeg, reduceIte, reduceCtorEq, reduceBEq]
            (repeat (first | refine ⟨by omega, ?_⟩ | refine ⟨by simp [maxLen, ints_length]; omega, ?_⟩ | refine ⟨by (unfold drawOk; kernel_rfl), ?_⟩))
            exact ⟨_, rfl, by simp [wkL, res2, res1, PV.weak, PV.el, Fd.pv, fd0, ints]⟩
          · obtain rfl : e9 = 0 := by simpa using h7
            cases h10 : decide ((a9 : Int) < (s.length : Int))
            · have h10' : ¬ a9 < s.length := by simp at h10; omega
              rw [show getX s ⟨a9, 0⟩ = 0 by rw [getX, if_neg (fun h => h10' h.2)], if_pos rfl]
              simp -implicitDefEqProofs only [push_cast, h10, Int.reduceBEq, Int.reduceBNe, Int.reduceEq, Int.reduceNe, Int.reducePow, Nat.reduceAdd, Nat.reduceMul, Nat.reduceSub, Nat.reduceLT, Nat.reduceLeDiff, Nat.reduceEqDiff, Nat.reduceBEq, Int.reduceLT, Int.reduceLE, Int.reduceAdd, Int.reduceSub, Int.reduceMul, Int.reduceToNat, Int.reduceNeg, reduceIte, reduceCtorEq, reduceBEq]
              skip
              exact ⟨_, rfl, by simp [wkL, res2, res1, PV.weak, PV.el, Fd.pv, fd0, ints]⟩
            · have h10' : a9 < s.length := by simp at h10; omega
              rw [show getX s ⟨a9, 0⟩ = 2 by rw [getX, if_pos ⟨rfl, h10'⟩], if_neg (by decide)]
              simp -implicitDefEqProofs only [push_cast, h10, Int.reduceBEq, Int.reduceBNe, Int.reduceEq, Int.reduceNe, Int.reducePow, Nat.reduceAdd, Nat.reduceMul, Nat.reduceSub, Nat.reduceLT, Nat.reduceLeDiff, Nat.reduceEqDiff, Nat.reduceBEq, Int.reduceLT, Int.reduceLE, Int.reduceAdd, Int.reduceSub, Int.reduceMul, Int.reduceToNat, Int.reduceNeg, reduceIte, reduceCtorEq, reduceBEq]
              (repeat (first | refine ⟨by omega, ?_⟩ | refine ⟨by simp [maxLen, ints_length]; omega, ?_⟩ | refine ⟨by (unfold drawOk; kernel_rfl), ?_⟩))
              exact ⟨_, rfl, by simp [wkL, res2, res1, PV.weak, PV.el, Fd.pv, fd0, ints]⟩
        · have hL0 : ¬ f.L = 0 := by simpa using hL
          have hz : isSize f.L := by
            rcases h.l with e | e
            · exact absurd e hL0
            · exact e
          have hby5 := rbytes_fs hz
          have hwz := wid_pos hz
          have hm4 := rtake_fs s hl c1 hc1 4 (by omega)
          have hm4l := tak_le (n := 4) hc1
          have hma := tak_len (s := s) (n := 4) (c := c1)
          have hrl : rL o s f.L c1 = if (tak s 4 c1).2.e = 0 then ((rnums o s (List.replicate (readV o 4 (tak s 4 c1).1).toNat f.L) (tak s 4 c1).2).1, rfil s (rnums o s (List.replicate (readV o 4 (tak s 4 c1).1).toNat f.L) (tak s 4 c1).2).2) else ([], rfil s (tak s 4 c1).2) := by rw [rL, if_neg hL0]
          rw [hrl] at hRB
          clear hrl
          generalize tak s 4 c1 = t5 at *
          simp -implicitDefEqProofs only [push_cast, hL, Int.reduceBEq, Int.reduceBNe, Int.reduceEq, Int.reduceNe, Int.reducePow, Nat.reduceAdd, Nat.reduceMul, Nat.reduceSub, Nat.reduceLT, Nat.reduceLeDiff, Nat.reduceEqDiff, Nat.reduceBEq, Int.reduceLT, Int.reduceLE, Int.reduceAdd, Int.reduceSub, Int.reduceMul, Int.reduceToNat, Int.reduceNeg, reduceIte, reduceCtorEq, reduceBEq]
          refine callE_box hm4 [2] [] (by rfl) (by rfl) (by rfl) (by rfl) (by rfl) (by rfl) (fun i j cs h1 h2 => by (rcases i with _ | i <;> simp at h1 h2 <;> (subst h1; subst h2; exact ⟨_, rfl, (by (repeat' (first | exact wkL_nil | refine wkL_cons ?_ ?_)); all_goals (first | exact .inl ⟨_, _, _, _, rfl, rfl, rfl⟩ | exact .inr (.inr (.inr (.inr (.inl ⟨_, _, _, rfl, rfl, rfl⟩)))) | exact .inr (.inr (.inr (.inr (.inr ⟨_, _, _, _, rfl, rfl, rfl⟩)))) | exact .inr (.inl rfl) | exact .inr (.inr (.inl ⟨_, _, _, rfl, rfl, rfl⟩))))⟩))) (by simp [PS.lv, lkp_hit, lkp_miss, lkp_nil]) (by (repeat' (first | exact wkL_nil | refine wkL_cons ?_ ?_)); all_goals (first | exact .inl ⟨_, _, _, rfl, rfl, rfl⟩ | exact .inr (.inl rfl) | exact .inr (.inr (.inl ⟨_, _, _, _, rfl, rfl, rfl⟩)))) (by decide) (by simp) (by rfl) (by simp [tokLt1]) (fun _ => by rfl) (by first | rfl | simp [gdOk, newToks]) ?_
          simp -implicitDefEqProofs only [push_cast, hL, Int.reduceBEq, Int.reduceBNe, Int.reduceEq, Int.reduceNe, Int.reducePow, Nat.reduceAdd, Nat.reduceMul, Nat.reduceSub, Nat.reduceLT, Nat.reduceLeDiff, Nat.reduceEqDiff, Nat.reduceBEq, Int.reduceLT, Int.reduceLE, Int.reduceAdd, Int.reduceSub, Int.reduceMul, Int.reduceToNat, Int.reduceNeg, reduceIte, reduceCtorEq, reduceBEq]
          refine condC_split (fun h6 => ?_) (fun h6 => ?_)
          · have he5 : t5.2.e = 0 := by simpa using h6
            rw [if_pos he5] at hRB
            have hv5 := rval_fs ho (s := 4) (by unfold isSize; omega) t5.1 (hma he5)
            have hv50 := readV4 ho (hma he5)
            obtain ⟨m, hm⟩ := Int.eq_ofNat_of_zero_le hv50.1
            rw [hm] at hRB hv5 hv50
            simp only [Int.toNat_natCast] at hRB
            simp -implicitDefEqProofs only [push_cast, hL, Int.reduceBEq, Int.reduceBNe, Int.reduceEq, Int.reduceNe, Int.reducePow, Nat.reduceAdd, Nat.reduceMul, Nat.reduceSub, Nat.reduceLT, Nat.reduceLeDiff, Nat.reduceEqDiff, Nat.reduceBEq, Int.reduceLT, Int.reduceLE, Int.reduceAdd, Int.reduceSub, Int.reduceMul, Int.reduceToNat, Int.reduceNeg, reduceIte, reduceCtorEq, reduceBEq]
            refine callE_pure hv5 (by rfl) (by rfl) (by rfl) (by decide) (by rfl) (fun _ => by rfl) (by first | rfl | simp [gdOk, newToks]) ?_
            simp -implicitDefEqProofs only [push_cast, hL, Int.reduceBEq, Int.reduceBNe, Int.reduceEq, Int.reduceNe, Int.reducePow, Nat.reduceAdd, Nat.reduceMul, Nat.reduceSub, Nat.reduceLT, Nat.reduceLeDiff, Nat.reduceEqDiff, Nat.reduceBEq, Int.reduceLT, Int.reduceLE, Int.reduceAdd, Int.reduceSub, Int.reduceMul, Int.reduceToNat, Int.reduceNeg, reduceIte, reduceCtorEq, reduceBEq]
            refine loopC_of (α := R2S m (fun k => t5.2.a + k * wid f.L ≤ s.length + wid f.L)) (R2S.st o s f p.1 [] t5.2) (fun x => m - x.k) ⟨0, by omega, by (have := Nat.zero_mul (wid f.L); omega)⟩ ?_ ?_
            · (simp only [R2S.st, List.replicate_zero, rnums]; exact Wk.by _ _ _ [(0, 0), (1, 1), (2, 2), (3, 3)] [(50, 50)] [51] (by simp) (by simp [wkV, PV.el, PV.weak, PS.get, PS.obj, PS.lv, lkp_hit, lkp_miss, lkp_nil, lko, wkL, wkC, res1, ints, hB]) (by simp [PS.get, PS.obj, PS.lv, lkp_hit, lkp_miss, lkp_nil, lko, wkL, wkC, PV.weak, wkL, wkC, res1, ints, hB]) (by simp [PS.get, PS.obj, PS.lv, lkp_hit, lkp_miss, lkp_nil, lko]) (by rfl) (by rfl) (by simp [lko]) (by simp) (by simp) (by simp) (fun i hi => absurd hi (Nat.not_lt_zero i)))
            · rintro ⟨k, hk, hkl⟩
              have hkl' : k * 1 ≤ k * wid f.L := Nat.mul_le_mul_left _ hwz.1
              have hle2 := rnums_le (o := o) (s := s) (List.replicate k f.L) (c := t5.2) hm4l
              have hnl2 := rnums_length (o := o) (s := s) (List.replicate k f.L) t5.2
              rw [List.length_replicate] at hnl2
              cases h8 : ((rnums o s (List.replicate k f.L) t5.2).2.e == 0)
              · have hne8 : (rnums o s (List.replicate k f.L) t5.2).2.e ≠ 0 := by simpa using h8
                rw [rnums_stop k m t5.2 hk hne8] at hRB
                have hno3 := noughts_fs s hl (rnums o s (List.replicate k f.L) t5.2).2 hle2
                simp -implicitDefEqProofs only [push_cast, R2S.st, h8, ints_length, Int.reduceBEq, Int.reduceBNe, Int.reduceEq, Int.reduceNe, Int.reducePow, Nat.reduceAdd, Nat.reduceMul, Nat.reduceSub, Nat.reduceLT, Nat.reduceLeDiff, Nat.reduceEqDiff, Nat.reduceBEq, Int.reduceLT, Int.reduceLE, Int.reduceAdd, Int.reduceSub, Int.reduceMul, Int.reduceToNat, Int.reduceNeg, reduceIte, reduceCtorEq, reduceBEq]
                generalize rnums o s (List.replicate k f.L) t5.2 = q at *
                refine callE_box hno3 [2] [] (by rfl) (by rfl) (by rfl) (by rfl) (by rfl) (by rfl) (fun i j cs h1 h2 => by (rcases i with _ | i <;> simp at h1 h2 <;> (subst h1; subst h2; exact ⟨_, rfl, (by (repeat' (first | exact wkL_nil | refine wkL_cons ?_ ?_)); all_goals (first | exact .inl ⟨_, _, _, _, rfl, rfl, rfl⟩ | exact .inr (.inr (.inr (.inr (.inl ⟨_, _, _, rfl, rfl, rfl⟩)))) | exact .inr (.inr (.inr (.inr (.inr ⟨_, _, _, _, rfl, rfl, rfl⟩)))) | exact .inr (.inl rfl) | exact .inr (.inr (.inl ⟨_, _, _, rfl, rfl, rfl⟩))))⟩))) (by simp [PS.lv, lkp_hit, lkp_miss, lkp_nil]) (by (repeat' (first | exact wkL_nil | refine wkL_cons ?_ ?_)); all_goals (first | exact .inl ⟨_, _, _, rfl, rfl, rfl⟩ | exact .inr (.inl rfl) | exact .inr (.inr (.inl ⟨_, _, _, _, rfl, rfl, rfl⟩)))) (by decide) (by simp) (by rfl) (by simp [tokLt1]) (fun _ => by rfl) (by first | rfl | simp [gdOk, newToks]) ?_
                simp -implicitDefEqProofs only [push_cast, hL, Int.reduceBEq, Int.reduceBNe, Int.reduceEq, Int.reduceNe, Int.reducePow, Nat.reduceAdd, Nat.reduceMul, Nat.reduceSub, Nat.reduceLT, Nat.reduceLeDiff, Nat.reduceEqDiff, Nat.reduceBEq, Int.reduceLT, Int.reduceLE, Int.reduceAdd, Int.reduceSub, Int.reduceMul, Int.reduceToNat, Int.reduceNeg, reduceIte, reduceCtorEq, reduceBEq]
                generalize rfil s q.2 = c9 at *
                rw [show rgetF o f s = (if getX s c9 = 0 then (⟨p.1, [], q.1⟩, 0) else (fd0, getX s c9)) by rw [rgetF, if_neg hl6, hRB]]
                obtain ⟨a9, e9⟩ := c9
                cases h7 : (e9 == 0)
                · have hne7 : ¬ e9 = 0 := by simpa using h7
                  have hne7' : (e9 != 0) = true := by simpa using h7
                  rw [show getX s ⟨a9, e9⟩ = e9 by rw [getX, if_neg (fun h => hne7 h.1)], if_neg hne7]
                  simp -implicitDefEqProofs only [push_cast, h7, hne7', Int.reduceBEq, Int.reduceBNe, Int.reduceEq, Int.reduceNe, Int.reducePow, Nat.reduceAdd, Nat.reduceMul, Nat.reduceSub, Nat.reduceLT, Nat.reduceLeDiff, Nat.reduceEqDiff, Nat.reduceBEq, Int.reduceLT, Int.reduceLE, Int.reduceAdd, Int.reduceSub, Int.reduceMul, Int.reduceToNat, Int.reduceNeg, reduceIte, reduceCtorEq, reduceBEq]
                  (repeat (first | refine ⟨by omega, ?_⟩ | refine ⟨by simp [maxLen, ints_length]; omega, ?_⟩ | refine ⟨by (unfold drawOk; kernel_rfl), ?_⟩))
                  exact ⟨_, rfl, by simp [wkL, res2, res1, PV.weak, PV.el, Fd.pv, fd0, ints]⟩
                · obtain rfl : e9 = 0 := by simpa using h7
                  cases h10 : decide ((a9 : Int) < (s.length : Int))
                  · have h10' : ¬ a9 < s.length := by simp at h10; omega
                    rw [show getX s ⟨a9, 0⟩ = 0 by rw [getX, if_neg (fun h => h10' h.2)], if_pos rfl]
                    simp -implicitDefEqProofs only [push_cast, h10, Int.reduceBEq, Int.reduceBNe, Int.reduceEq, Int.reduceNe, Int.reducePow, Nat.reduceAdd, Nat.reduceMul, Nat.reduceSub, Nat.reduceLT, Nat.reduceLeDiff, Nat.reduceEqDiff, Nat.reduceBEq, Int.reduceLT, Int.reduceLE, Int.reduceAdd, Int.reduceSub, Int.reduceMul, Int.reduceToNat, Int.reduceNeg, reduceIte, reduceCtorEq, reduceBEq]
                    skip
                    exact ⟨_, rfl, by simp [wkL, res2, res1, PV.weak, PV.el, Fd.pv, fd0, ints]⟩
                  · have h10' : a9 < s.length := by simp at h10; omega
                    rw [show getX s ⟨a9, 0⟩ = 2 by rw [getX, if_pos ⟨rfl, h10'⟩], if_neg (by decide)]
                    simp -implicitDefEqProofs only [push_cast, h10, Int.reduceBEq, Int.reduceBNe, Int.reduceEq, Int.reduceNe, Int.reducePow, Nat.reduceAdd, Nat.reduceMul, Nat.reduceSub, Nat.reduceLT, Nat.reduceLeDiff, Nat.reduceEqDiff, Nat.reduceBEq, Int.reduceLT, Int.reduceLE, Int.reduceAdd, Int.reduceSub, Int.reduceMul, Int.reduceToNat, Int.reduceNeg, reduceIte, reduceCtorEq, reduceBEq]
                    (repeat (first | refine ⟨by omega, ?_⟩ | refine ⟨by simp [maxLen, ints_length]; omega, ?_⟩ | refine ⟨by (unfold drawOk; kernel_rfl), ?_⟩))
                    exact ⟨_, rfl, by simp [wkL, res2, res1, PV.weak, PV.el, Fd.pv, fd0, ints]⟩
              · have he8 : (rnums o s (List.replicate k f.L) t5.2).2.e = 0 := by simpa using h8
                simp -implicitDefEqProofs only [push_cast, R2S.st, h8, ints_length, Int.reduceBEq, Int.reduceBNe, Int.reduceEq, Int.reduceNe, Int.reducePow, Nat.reduceAdd, Nat.reduceMul, Nat.reduceSub, Nat.reduceLT, Nat.reduceLeDiff, Nat.reduceEqDiff, Nat.reduceBEq, Int.reduceLT, Int.reduceLE, Int.reduceAdd, Int.reduceSub, Int.reduceMul, Int.reduceToNat, Int.reduceNeg, reduceIte, reduceCtorEq, reduceBEq]
                refine condC_split (fun h9 => ?_) (fun h9 => ?_)
                · have hlt : k < m := by simp at h9; omega
                  have hsn := rnums_snoc o s f.L (List.replicate k f.L) t5.2
                  rw [← List.replicate_succ'] at hsn
                  have hroom := rnums_room (o := o) (z := f.L) (s := s) k t5.2.a hm4l
                  rw [show (⟨t5.2.a, 0⟩ : Cu) = t5.2 by rw [← he5]] at hroom
                  have hnx : t5.2.a + (k + 1) * wid f.L ≤ s.length + wid f.L := by
                    rw [Nat.succ_mul]
                    by_cases hh : s.length < t5.2.a + k * wid f.L
                    · rw [if_pos hh] at hroom
                      exact absurd (hroom.1.symm.trans he8) (show ¬ (3 : Int) = 0 by decide)
                    · omega
                  clear hroom
                  generalize rnums o s (List.replicate k f.L) t5.2 = q at *
                  have htq := rtake_fs s hl q.2 hle2 (wid f.L) (by omega)
                  have hqa := tak_len (s := s) (n := wid f.L) (c := q.2)
                  generalize tak s (wid f.L) q.2 = v at *
                  have hwr : IntKind.i64.wrap ((k : Int) + 1) = ((k + 1 : Nat) : Int) := by (rw [wrap_i64_id (by omega) (by omega)]; rfl)
                  simp -implicitDefEqProofs only [push_cast, ints_length, Int.reduceBEq, Int.reduceBNe, Int.reduceEq, Int.reduceNe, Int.reducePow, Nat.reduceAdd, Nat.reduceMul, Nat.reduceSub, Nat.reduceLT, Nat.reduceLeDiff, Nat.reduceEqDiff, Nat.reduceBEq, Int.reduceLT, Int.reduceLE, Int.reduceAdd, Int.reduceSub, Int.reduceMul, Int.reduceToNat, Int.reduceNeg, reduceIte, reduceCtorEq, reduceBEq]
                  refine callE_pure hby5 (by rfl) (by rfl) (by rfl) (by decide) (by rfl) (fun _ => by rfl) (by first | rfl | simp [gdOk, newToks]) ?_
                  simp -implicitDefEqProofs only [push_cast, ints_length, Int.reduceBEq, Int.reduceBNe, Int.reduceEq, Int.reduceNe, Int.reducePow, Nat.reduceAdd, Nat.reduceMul, Nat.reduceSub, Nat.reduceLT, Nat.reduceLeDiff, Nat.reduceEqDiff, Nat.reduceBEq, Int.reduceLT, Int.reduceLE, Int.reduceAdd, Int.reduceSub, Int.reduceMul, Int.reduceToNat, Int.reduceNeg, reduceIte, reduceCtorEq, reduceBEq]
                  refine callE_box htq [2] [] (by rfl) (by rfl) (by rfl) (by rfl) (by rfl) (by rfl) (fun i j cs h1 h2 => by (rcases i with _ | i <;> simp at h1 h2 <;> (subst h1; subst h2; exact ⟨_, rfl, (by (repeat' (first | exact wkL_nil | refine wkL_cons ?_ ?_)); all_goals (first | exact .inl ⟨_, _, _, _, rfl, rfl, rfl⟩ | exact .inr (.inr (.inr (.inr (.inl ⟨_, _, _, rfl, rfl, rfl⟩)))) | exact .inr (.inr (.inr (.inr (.inr ⟨_, _, _, _, rfl, rfl, rfl⟩)))) | exact .inr (.inl rfl) | exact .inr (.inr (.inl ⟨_, _, _, rfl, rfl, rfl⟩))))⟩))) (by simp [PS.lv, lkp_hit, lkp_miss, lkp_nil]) (by (repeat' (first | exact wkL_nil | refine wkL_cons ?_ ?_)); all_goals (first | exact .inl ⟨_, _, _, rfl, rfl, rfl⟩ | exact .inr (.inl rfl) | exact .inr (.inr (.inl ⟨_, _, _, _, rfl, rfl, rfl⟩)))) (by decide) (by simp) (by rfl) (by simp [tokLt1]) (fun _ => by rfl) (by first | rfl | simp [gdOk, newToks]) ?_
                  simp -implicitDefEqProofs only [push_cast, ints_length, Int.reduceBEq, Int.reduceBNe, Int.reduceEq, Int.reduceNe, Int.reducePow, Nat.reduceAdd, Nat.reduceMul, Nat.reduceSub, Nat.reduceLT, Nat.reduceLeDiff, Nat.reduceEqDiff, Nat.reduceBEq, Int.reduceLT, Int.reduceLE, Int.reduceAdd, Int.reduceSub, Int.reduceMul, Int.reduceToNat, Int.reduceNeg, reduceIte, reduceCtorEq, reduceBEq]
                  refine condC_split (fun h4 => ?_) (fun h4 => ?_)
                  · have he : v.2.e = 0 := by simpa using h4
                    rw [if_pos he] at hsn
                    have hvq := rval_fs ho hz v.1 (hqa he)
                    simp -implicitDefEqProofs only [push_cast, ints_length, Int.reduceBEq, Int.reduceBNe, Int.reduceEq, Int.reduceNe, Int.reducePow, Nat.reduceAdd, Nat.reduceMul, Nat.reduceSub, Nat.reduceLT, Nat.reduceLeDiff, Nat.reduceEqDiff, Nat.reduceBEq, Int.reduceLT, Int.reduceLE, Int.reduceAdd, Int.reduceSub, Int.reduceMul, Int.reduceToNat, Int.reduceNeg, reduceIte, reduceCtorEq, reduceBEq]
                    (repeat (first | refine ⟨by omega, ?_⟩ | refine ⟨by simp [maxLen, ints_length]; omega, ?_⟩ | refine ⟨by (unfold drawOk; kernel_rfl), ?_⟩))
                    refine callE_pure hvq (by rfl) (by rfl) (by rfl) (by decide) (by rfl) (fun _ => by rfl) (by first | rfl | simp [gdOk, newToks]) ?_
                    simp -implicitDefEqProofs only [push_cast, ints_length, Int.reduceBEq, Int.reduceBNe, Int.reduceEq, Int.reduceNe, Int.reducePow, Nat.reduceAdd, Nat.reduceMul, Nat.reduceSub, Nat.reduceLT, Nat.reduceLeDiff, Nat.reduceEqDiff, Nat.reduceBEq, Int.reduceLT, Int.reduceLE, Int.reduceAdd, Int.reduceSub, Int.reduceMul, Int.reduceToNat, Int.reduceNeg, reduceIte, reduceCtorEq, reduceBEq]
                    (repeat (first | refine ⟨by omega, ?_⟩ | refine ⟨by simp [maxLen, ints_length]; omega, ?_⟩ | refine ⟨by (unfold drawOk; kernel_rfl), ?_⟩))
                    rw [hwr]
                    skip
                    refine ⟨⟨k + 1, by omega, hnx⟩, by simp only; omega, ?_⟩
                    (simp only [R2S.st, hsn, ← ints_snoc']; exact Wk.by _ _ _ [(0, 0), (1, 1), (2, 2), (3, 3)] [(50, 50), (51, 176)] [] (by simp) (by simp [wkV, PV.el, PV.weak, PS.get, PS.obj, PS.lv, lkp_hit, lkp_miss, lkp_nil, lko, wkL, wkC, res1, ints]) (by simp [PS.get, PS.obj, PS.lv, lkp_hit, lkp_miss, lkp_nil, lko, wkL, wkC, PV.weak, wkL, wkC, res1, ints]) (by simp [PS.get, PS.obj, PS.lv, lkp_hit, lkp_miss, lkp_nil, lko]) (by rfl) (by rfl) (by simp [lko]) (by simp) (by simp) (by simp) (fun i hi => absurd hi (Nat.not_lt_zero i)))
                  · have he : ¬ v.2.e = 0 := by simpa using h4
                    rw [if_neg he] at hsn
                    simp -implicitDefEqProofs only [push_cast, ints_length, Int.reduceBEq, Int.reduceBNe, Int.reduceEq, Int.reduceNe, Int.reducePow, Nat.reduceAdd, Nat.reduceMul, Nat.reduceSub, Nat.reduceLT, Nat.reduceLeDiff, Nat.reduceEqDiff, Nat.reduceBEq, Int.reduceLT, Int.reduceLE, Int.reduceAdd, Int.reduceSub, Int.reduceMul, Int.reduceToNat, Int.reduceNeg, reduceIte, reduceCtorEq, reduceBEq]
                    rw [hwr]
                    refine ⟨⟨k + 1, by omega, hnx⟩, by simp only; omega, ?_⟩
                    (simp only [R2S.st, hsn]; exact Wk.by _ _ _ [(0, 0), (1, 1), (2, 2), (3, 3)] [(50, 50), (51, 51)] [] (by simp) (by simp [wkV, PV.el, PV.weak, PS.get, PS.obj, PS.lv, lkp_hit, lkp_miss, lkp_nil, lko, wkL, wkC, res1, ints]) (by simp [PS.get, PS.obj, PS.lv, lkp_hit, lkp_miss, lkp_nil, lko, wkL, wkC, PV.weak, wkL, wkC, res1, ints]) (by simp [PS.get, PS.obj, PS.lv, lkp_hit, lkp_miss, lkp_nil, lko]) (by rfl) (by rfl) (by simp [lko]) (by simp) (by simp) (by simp) (fun i hi => absurd hi (Nat.not_lt_zero i)))
                · have hke : k = m := by simp at h9; omega
                  subst hke
                  have hno3 := noughts_fs s hl (rnums o s (List.replicate k f.L) t5.2).2 hle2
                  simp -implicitDefEqProofs only [push_cast, ints_length, Int.reduceBEq, Int.reduceBNe, Int.reduceEq, Int.reduceNe, Int.reducePow, Nat.reduceAdd, Nat.reduceMul, Nat.reduceSub, Nat.reduceLT, Nat.reduceLeDiff, Nat.reduceEqDiff, Nat.reduceBEq, Int.reduceLT, Int.reduceLE, Int.reduceAdd, Int.reduceSub, Int.reduceMul, Int.reduceToNat, Int.reduceNeg, reduceIte, reduceCtorEq, reduceBEq]
                  generalize rnums o s (List.replicate k f.L) t5.2 = q at *
                  refine callE_box hno3 [2] [] (by rfl) (by rfl) (by rfl) (by rfl) (by rfl) (by rfl) (fun i j cs h1 h2 => by (rcases i with _ | i <;> simp at h1 h2 <;> (subst h1; subst h2; exact ⟨_, rfl, (by (repeat' (first | exact wkL_nil | refine wkL_cons ?_ ?_)); all_goals (first | exact .inl ⟨_, _, _, _, rfl, rfl, rfl⟩ | exact .inr (.inr (.inr (.inr (.inl ⟨_, _, _, rfl, rfl, rfl⟩)))) | exact .inr (.inr (.inr (.inr (.inr ⟨_, _, _, _, rfl, rfl, rfl⟩)))) | exact .inr (.inl rfl) | exact .inr (.inr (.inl ⟨_, _, _, rfl, rfl, rfl⟩))))⟩))) (by simp [PS.lv, lkp_hit, lkp_miss, lkp_nil]) (by (repeat' (first | exact wkL_nil | refine wkL_cons ?_ ?_)); all_goals (first | exact .inl ⟨_, _, _, rfl, rfl, rfl⟩ | exact .inr (.inl rfl) | exact .inr (.inr (.inl ⟨_, _, _, _, rfl, rfl, rfl⟩)))) (by decide) (by simp) (by rfl) (by simp [tokLt1]) (fun _ => by rfl) (by first | rfl | simp [gdOk, newToks]) ?_
                  simp -implicitDefEqProofs only [push_cast, hL, Int.reduceBEq, Int.reduceBNe, Int.reduceEq, Int.reduceNe, Int.reducePow, Nat.reduceAdd, Nat.reduceMul, Nat.reduceSub, Nat.reduceLT, Nat.reduceLeDiff, Nat.reduceEqDiff, Nat.reduceBEq, Int.reduceLT, Int.reduceLE, Int.reduceAdd, Int.reduceSub, Int.reduceMul, Int.reduceToNat, Int.reduceNeg, reduceIte, reduceCtorEq, reduceBEq]
                  generalize rfil s q.2 = c9 at *
                  rw [show rgetF o f s = (if getX s c9 = 0 then (⟨p.1, [], q.1⟩, 0) else (fd0, getX s c9)) by rw [rgetF, if_neg hl6, hRB]]
                  obtain ⟨a9, e9⟩ := c9
                  cases h7 : (e9 == 0)
                  · have hne7 : ¬ e9 = 0 := by simpa using h7
                    have hne7' : (e9 != 0) = true := by simpa using h7
                    rw [show getX s ⟨a9, e9⟩ = e9 by rw [getX, if_neg (fun h => hne7 h.1)], if_neg hne7]
                    simp -implicitDefEqProofs only [push_cast, h7, hne7', Int.reduceBEq, Int.reduceBNe, Int.reduceEq, Int.reduceNe, Int.reducePow, Nat.reduceAdd, Nat.reduceMul, Nat.reduceSub, Nat.reduceLT, Nat.reduceLeDiff, Nat.reduceEqDiff, Nat.reduceBEq, Int.reduceLT, Int.reduceLE, Int.reduceAdd, Int.reduceSub, Int.reduceMul, Int.reduceToNat, Int.reduceNeg, reduceIte, reduceCtorEq, reduceBEq]
                    (repeat (first | refine ⟨by omega, ?_⟩ | refine ⟨by simp [maxLen, ints_length]; omega, ?_⟩ | refine ⟨by (unfold drawOk; kernel_rfl), ?_⟩))
                    exact ⟨_, rfl, by simp [wkL, res2, res1, PV.weak, PV.el, Fd.pv, fd0, ints]⟩
                  · obtain rfl : e9 = 0 := by simpa using h7
                    cases h10 : decide ((a9 : Int) < (s.length : Int))
                    · have h10' : ¬ a9 < s.length := by simp at h10; omega
                      rw [show getX s ⟨a9, 0⟩ = 0 by rw [getX, if_neg (fun h => h10' h.2)], if_pos rfl]
                      simp -implicitDefEqProofs only [push_cast, h10, Int.reduceBEq, Int.reduceBNe, Int.reduceEq, Int.reduceNe, Int.reducePow, Nat.reduceAdd, Nat.reduceMul, Nat.reduceSub, Nat.reduceLT, Nat.reduceLeDiff, Nat.reduceEqDiff, Nat.reduceBEq, Int.reduceLT, Int.reduceLE, Int.reduceAdd, Int.reduceSub, Int.reduceMul, Int.reduceToNat, Int.reduceNeg, reduceIte, reduceCtorEq, reduceBEq]
                      skip
                      exact ⟨_, rfl, by simp [wkL, res2, res1, PV.weak, PV.el, Fd.pv, fd0, ints]⟩
                    · have h10' : a9 < s.length := by simp at h10; omega
                      rw [show getX s ⟨a9, 0⟩ = 2 by rw [getX, if_pos ⟨rfl, h10'⟩], if_neg (by decide)]
                      simp -implicitDefEqProofs only [push_cast, h10, Int.reduceBEq, Int.reduceBNe, Int.reduceEq, Int.reduceNe, Int.reducePow, Nat.reduceAdd, Nat.reduceMul, Nat.reduceSub, Nat.reduceLT, Nat.reduceLeDiff, Nat.reduceEqDiff, Nat.reduceBEq, Int.reduceLT, Int.reduceLE, Int.reduceAdd, Int.reduceSub, Int.reduceMul, Int.reduceToNat, Int.reduceNeg, reduceIte, reduceCtorEq, reduceBEq]
                      (repeat (first | refine ⟨by omega, ?_⟩ | refine ⟨by simp [maxLen, ints_length]; omega, ?_⟩ | refine ⟨by (unfold drawOk; kernel_rfl), ?_⟩))
                      exact ⟨_, rfl, by simp [wkL, res2, res1, PV.weak, PV.el, Fd.pv, fd0, ints]⟩
          · have he5 : ¬ t5.2.e = 0 := by simpa using h6
            rw [if_neg he5] at hRB
            have hno4 := noughts_fs s hl t5.2 hm4l
            simp -implicitDefEqProofs only [push_cast, hL, Int.reduceBEq, Int.reduceBNe, Int.reduceEq, Int.reduceNe, Int.reducePow, Nat.reduceAdd, Nat.reduceMul, Nat.reduceSub, Nat.reduceLT, Nat.reduceLeDiff, Nat.reduceEqDiff, Nat.reduceBEq, Int.reduceLT, Int.reduceLE, Int.reduceAdd, Int.reduceSub, Int.reduceMul, Int.reduceToNat, Int.reduceNeg, reduceIte, reduceCtorEq, reduceBEq]
            refine loopC_un 1 ?_
            simp -implicitDefEqProofs only [push_cast, hL, h6, Int.reduceBEq, Int.reduceBNe, Int.reduceEq, Int.reduceNe, Int.reducePow, Nat.reduceAdd, Nat.reduceMul, Nat.reduceSub, Nat.reduceLT, Nat.reduceLeDiff, Nat.reduceEqDiff, Nat.reduceBEq, Int.reduceLT, Int.reduceLE, Int.reduceAdd, Int.reduceSub, Int.reduceMul, Int.reduceToNat, Int.reduceNeg, reduceIte, reduceCtorEq, reduceBEq]
            refine callE_box hno4 [2] [] (by rfl) (by rfl) (by rfl) (by rfl) (by rfl) (by rfl) (fun i j cs h1 h2 => by (rcases i with _ | i <;> simp at h1 h2 <;> (subst h1; subst h2; exact ⟨_, rfl, (by (repeat' (first | exact wkL_nil | refine wkL_cons ?_ ?_)); all_goals (first | exact .inl ⟨_, _, _, _, rfl, rfl, rfl⟩ | exact .inr (.inr (.inr (.inr (.inl ⟨_, _, _, rfl, rfl, rfl⟩)))) | exact .inr (.inr (.inr (.inr (.inr ⟨_, _, _, _, rfl, rfl, rfl⟩)))) | exact .inr (.inl rfl) | exact .inr (.inr (.inl ⟨_, _, _, rfl, rfl, rfl⟩))))⟩))) (by simp [PS.lv, lkp_hit, lkp_miss, lkp_nil]) (by (repeat' (first | exact wkL_nil | refine wkL_cons ?_ ?_)); all_goals (first | exact .inl ⟨_, _, _, rfl, rfl, rfl⟩ | exact .inr (.inl rfl) | exact .inr (.inr (.inl ⟨_, _, _, _, rfl, rfl, rfl⟩)))) (by decide) (by simp) (by rfl) (by simp [tokLt1]) (fun _ => by rfl) (by first | rfl | simp [gdOk, newToks]) ?_
            simp -implicitDefEqProofs only [push_cast, hL, Int.reduceBEq, Int.reduceBNe, Int.reduceEq, Int.reduceNe, Int.reducePow, Nat.reduceAdd, Nat.reduceMul, Nat.reduceSub, Nat.reduceLT, Nat.reduceLeDiff, Nat.reduceEqDiff, Nat.reduceBEq, Int.reduceLT, Int.reduceLE, Int.reduceAdd, Int.reduceSub, Int.reduceMul, Int.reduceToNat, Int.reduceNeg, reduceIte, reduceCtorEq, reduceBEq]
            generalize rfil s t5.2 = c9 at *
            rw [show rgetF o f s = (if getX s c9 = 0 then (⟨p.1, [], []⟩, 0) else (fd0, getX s c9)) by rw [rgetF, if_neg hl6, hRB]]
            obtain ⟨a9, e9⟩ := c9
            cases h7 : (e9 == 0)
            · have hne7 : ¬ e9 = 0 := by simpa using h7
              have hne7' : (e9 != 0) = true := by simpa using h7
              rw [show getX s ⟨a9, e9⟩ = e9 by rw [getX, if_neg (fun h => hne7 h.1)], if_neg hne7]
              simp -implicitDefEqProofs only [push_cast, h7, hne7', Int.reduceBEq, Int.reduceBNe, Int.reduceEq, Int.reduceNe, Int.reducePow, Nat.reduceAdd, Nat.reduceMul, Nat.reduceSub, Nat.reduceLT, Nat.reduceLeDiff, Nat.reduceEqDiff, Nat.reduceBEq, Int.reduceLT, Int.reduceLE, Int.reduceAdd, Int.reduceSub, Int.reduceMul, Int.reduceToNat, Int.reduceNeg, reduceIte, reduceCtorEq, reduceBEq]
              (repeat (first | refine ⟨by omega, ?_⟩ | refine ⟨by simp [maxLen, ints_length]; omega, ?_⟩ | refine ⟨by (unfold drawOk; kernel_rfl), ?_⟩))
              exact ⟨_, rfl, by simp [wkL, res2, res1, PV.weak, PV.el, Fd.pv, fd0, ints]⟩
            · obtain rfl : e9 = 0 := by simpa using h7
              cases h10 : decide ((a9 : Int) < (s.length : Int))
              · have h10' : ¬ a9 < s.length := by simp at h10; omega
                rw [show getX s ⟨a9, 0⟩ = 0 by rw [getX, if_neg (fun h => h10' h.2)], if_pos rfl]
                simp -implicitDefEqProofs only [push_cast, h10, Int.reduceBEq, Int.reduceBNe, Int.reduceEq, Int.reduceNe, Int.reducePow, Nat.reduceAdd, Nat.reduceMul, Nat.reduceSub, Nat.reduceLT, Nat.reduceLeDiff, Nat.reduceEqDiff, Nat.reduceBEq, Int.reduceLT, Int.reduceLE, Int.reduceAdd, Int.reduceSub, Int.reduceMul, Int.reduceToNat, Int.reduceNeg, reduceIte, reduceCtorEq, reduceBEq]
                skip
                exact ⟨_, rfl, by simp [wkL, res2, res1, PV.weak, PV.el, Fd.pv, fd0, ints]⟩
              · have h10' : a9 < s.length := by simp at h10; omega
                rw [show getX s ⟨a9, 0⟩ = 2 by rw [getX, if_pos ⟨rfl, h10'⟩], if_neg (by decide)]
                simp -implicitDefEqProofs only [push_cast, h10, Int.reduceBEq, Int.reduceBNe, Int.reduceEq, Int.reduceNe, Int.reducePow, Nat.reduceAdd, Nat.reduceMul, Nat.reduceSub, Nat.reduceLT, Nat.reduceLeDiff, Nat.reduceEqDiff, Nat.reduceBEq, Int.reduceLT, Int.reduceLE, Int.reduceAdd, Int.reduceSub, Int.reduceMul, Int.reduceToNat, Int.reduceNeg, reduceIte, reduceCtorEq, reduceBEq]
                (repeat (first | refine ⟨by omega, ?_⟩ | refine ⟨by simp [maxLen, ints_length]; omega, ?_⟩ | refine ⟨by (unfold drawOk; kernel_rfl), ?_⟩))
                exact ⟨_, rfl, by simp [wkL, res2, res1, PV.weak, PV.el, Fd.pv, fd0, ints]⟩
      · have ht4 := rtake_fs s hl c1 hc1 4 (by omega)
        have ht4l := tak_le (n := 4) hc1
        have hva := tak_len (s := s) (n := 4) (c := c1)
        have hrb : rB o s true c1 = if (tak s 4 c1).2.e = 0 then ((tak s (readV o 4 (tak s 4 c1).1).toNat (tak s 4 c1).2).1, rfil s (tak s (readV o 4 (tak s 4 c1).1).toNat (tak s 4 c1).2).2) else ([], rfil s (tak s 4 c1).2) := by rw [rB, if_pos rfl]
        generalize tak s 4 c1 = t at *
        rw [hB, hrb] at hRB
        simp -implicitDefEqProofs only [push_cast, hB, Int.reduceBEq, Int.reduceBNe, Int.reduceEq, Int.reduceNe, Int.reducePow, Nat.reduceAdd, Nat.reduceMul, Nat.reduceSub, Nat.reduceLT, Nat.reduceLeDiff, Nat.reduceEqDiff, Nat.reduceBEq, Int.reduceLT, Int.reduceLE, Int.reduceAdd, Int.reduceSub, Int.reduceMul, Int.reduceToNat, Int.reduceNeg, reduceIte, reduceCtorEq, reduceBEq]
        refine callE_box ht4 [2] [] (by rfl) (by rfl) (by rfl) (by rfl) (by rfl) (by rfl) (fun i j cs h1 h2 => by (rcases i with _ | i <;> simp at h1 h2 <;> (subst h1; subst h2; exact ⟨_, rfl, (by (repeat' (first | exact wkL_nil | refine wkL_cons ?_ ?_)); all_goals (first | exact .inl ⟨_, _, _, _, rfl, rfl, rfl⟩ | exact .inr (.inr (.inr (.inr (.inl ⟨_, _, _, rfl, rfl, rfl⟩)))) | exact .inr (.inr (.inr (.inr (.inr ⟨_, _, _, _, rfl, rfl, rfl⟩)))) | exact .inr (.inl rfl) | exact .inr (.inr (.inl ⟨_, _, _, rfl, rfl, rfl⟩))))⟩))) (by simp [PS.lv, lkp_hit, lkp_miss, lkp_nil]) (by (repeat' (first | exact wkL_nil | refine wkL_cons ?_ ?_)); all_goals (first | exact .inl ⟨_, _, _, rfl, rfl, rfl⟩ | exact .inr (.inl rfl) | exact .inr (.inr (.inl ⟨_, _, _, _, rfl, rfl, rfl⟩)))) (by decide) (by simp) (by rfl) (by simp [tokLt1]) (fun _ => by rfl) (by first | rfl | simp [gdOk, newToks]) ?_
        simp -implicitDefEqProofs only [push_cast, hB, Int.reduceBEq, Int.reduceBNe, Int.reduceEq, Int.reduceNe, Int.reducePow, Nat.reduceAdd, Nat.reduceMul, Nat.reduceSub, Nat.reduceLT, Nat.reduceLeDiff, Nat.reduceEqDiff, Nat.reduceBEq, Int.reduceLT, Int.reduceLE, Int.reduceAdd, Int.reduceSub, Int.reduceMul, Int.reduceToNat, Int.reduceNeg, reduceIte, reduceCtorEq, reduceBEq]
        refine condC_split (fun h5 => ?_) (fun h5 => ?_)
        · have he : t.2.e = 0 := by simpa using h5
          rw [if_pos he] at hRB
          have hv4 := rval_fs ho (s := 4) (by unfold isSize; omega) t.1 (hva he)
          have hv0 := readV4 ho (hva he)
          obtain ⟨n, hn⟩ := Int.eq_ofNat_of_zero_le hv0.1
          rw [hn] at hRB hv4 hv0
          simp only [Int.toNat_natCast] at hRB
          have ht5 := rtake_fs s hl t.2 ht4l n (by omega)
          have ht5l := tak_le (n := n) ht4l
          generalize tak s n t.2 = u at *
          have hno2 := noughts_fs s hl u.2 ht5l
          have hc2 := rfil_le ht5l
          generalize rfil s u.2 = c2 at *
          simp -implicitDefEqProofs only [push_cast, hB, Int.reduceBEq, Int.reduceBNe, Int.reduceEq, Int.reduceNe, Int.reducePow, Nat.reduceAdd, Nat.reduceMul, Nat.reduceSub, Nat.reduceLT, Nat.reduceLeDiff, Nat.reduceEqDiff, Nat.reduceBEq, Int.reduceLT, Int.reduceLE, Int.reduceAdd, Int.reduceSub, Int.reduceMul, Int.reduceToNat, Int.reduceNeg, reduceIte, reduceCtorEq, reduceBEq]
          refine callE_pure hv4 (by rfl) (by rfl) (by rfl) (by decide) (by rfl) (fun _ => by rfl) (by first | rfl | simp [gdOk, newToks]) ?_
          simp -implicitDefEqProofs only [push_cast, hB, Int.reduceBEq, Int.reduceBNe, Int.reduceEq, Int.reduceNe, Int.reducePow, Nat.reduceAdd, Nat.reduceMul, Nat.reduceSub, Nat.reduceLT, Nat.reduceLeDiff, Nat.reduceEqDiff, Nat.reduceBEq, Int.reduceLT, Int.reduceLE, Int.reduceAdd, Int.reduceSub, Int.reduceMul, Int.reduceToNat, Int.reduceNeg, reduceIte, reduceCtorEq, reduceBEq]
          refine callE_box ht5 [2] [] (by rfl) (by rfl) (by rfl) (by rfl) (by rfl) (by rfl) (fun i j cs h1 h2 => by (rcases i with _ | i <;> simp at h1 h2 <;> (subst h1; subst h2; exact ⟨_, rfl, (by (repeat' (first | exact wkL_nil | refine wkL_cons ?_ ?_)); all_goals (first | exact .inl ⟨_, _, _, _, rfl, rfl, rfl⟩ | exact .inr (.inr (.inr (.inr (.inl ⟨_, _, _, rfl, rfl, rfl⟩)))) | exact .inr (.inr (.inr (.inr (.inr ⟨_, _, _, _, rfl, rfl, rfl⟩)))) | exact .inr (.inl rfl) | exact .inr (.inr (.inl ⟨_, _, _, rfl, rfl, rfl⟩))))⟩))) (by simp [PS.lv, lkp_hit, lkp_miss, lkp_nil]) (by (repeat' (first | exact wkL_nil | refine wkL_cons ?_ ?_)); all_goals (first | exact .inl ⟨_, _, _, rfl, rfl, rfl⟩ | exact .inr (.inl rfl) | exact .inr (.inr (.inl ⟨_, _, _, _, rfl, rfl, rfl⟩)))) (by decide) (by simp) (by rfl) (by simp [tokLt1]) (fun _ => by rfl) (by first | rfl | simp [gdOk, newToks]) ?_
          simp -implicitDefEqProofs only [push_cast, hB, Int.reduceBEq, Int.reduceBNe, Int.reduceEq, Int.reduceNe, Int.reducePow, Nat.reduceAdd, Nat.reduceMul, Nat.reduceSub, Nat.reduceLT, Nat.reduceLeDiff, Nat.reduceEqDiff, Nat.reduceBEq, Int.reduceLT, Int.reduceLE, Int.reduceAdd, Int.reduceSub, Int.reduceMul, Int.reduceToNat, Int.reduceNeg, reduceIte, reduceCtorEq, reduceBEq]
          refine callE_box hno2 [2] [] (by rfl) (by rfl) (by rfl) (by rfl) (by rfl) (by rfl) (fun i j cs h1 h2 => by (rcases i with _ | i <;> simp at h1 h2 <;> (subst h1; subst h2; exact ⟨_, rfl, (by (repeat' (first | exact wkL_nil | refine wkL_cons ?_ ?_)); all_goals (first | exact .inl ⟨_, _, _, _, rfl, rfl, rfl⟩ | exact .inr (.inr (.inr (.inr (.inl ⟨_, _, _, rfl, rfl, rfl⟩)))) | exact .inr (.inr (.inr (.inr (.inr ⟨_, _, _, _, rfl, rfl, rfl⟩)))) | exact .inr (.inl rfl) | exact .inr (.inr (.inl ⟨_, _, _, rfl, rfl, rfl⟩))))⟩))) (by simp [PS.lv, lkp_hit, lkp_miss, lkp_nil]) (by (repeat' (first | exact wkL_nil | refine wkL_cons ?_ ?_)); all_goals (first | exact .inl ⟨_, _, _, rfl, rfl, rfl⟩ | exact .inr (.inl rfl) | exact .inr (.inr (.inl ⟨_, _, _, _, rfl, rfl, rfl⟩)))) (by decide) (by simp) (by rfl) (by simp [tokLt1]) (fun _ => by rfl) (by first | rfl | simp [gdOk, newToks]) ?_
          simp -implicitDefEqProofs only [push_cast, hB, Int.reduceBEq, Int.reduceBNe, Int.reduceEq, Int.reduceNe, Int.reducePow, Nat.reduceAdd, Nat.reduceMul, Nat.reduceSub, Nat.reduceLT, Nat.reduceLeDiff, Nat.reduceEqDiff, Nat.reduceBEq, Int.reduceLT, Int.reduceLE, Int.reduceAdd, Int.reduceSub, Int.reduceMul, Int.reduceToNat, Int.reduceNeg, reduceIte, reduceCtorEq, reduceBEq]
          cases hL : (f.L != 0)
          · have hL0 : f.L = 0 := by simpa using hL
            rw [show rL o s f.L c2 = ([], c2) by rw [rL, if_pos hL0]] at hRB
            simp -implicitDefEqProofs only [push_cast, hL, Int.reduceBEq, Int.reduceBNe, Int.reduceEq, Int.reduceNe, Int.reducePow, Nat.reduceAdd, Nat.reduceMul, Nat.reduceSub, Nat.reduceLT, Nat.reduceLeDiff, Nat.reduceEqDiff, Nat.reduceBEq, Int.reduceLT, Int.reduceLE, Int.reduceAdd, Int.reduceSub, Int.reduceMul, Int.reduceToNat, Int.reduceNeg, reduceIte, reduceCtorEq, reduceBEq]
            rw [show rgetF o f s = (if getX s c2 = 0 then (⟨p.1, u.1, []⟩, 0) else (fd0, getX s c2)) by rw [rgetF, if_neg hl6, hRB]]
            obtain ⟨a9, e9⟩ := c2
            cases h7 : (e9 == 0)
            · have hne7 : ¬ e9 = 0 := by simpa using h7
              have hne7' : (e9 != 0) = true := by simpa using h7
              rw [show getX s ⟨a9, e9⟩ = e9 by rw [getX, if_neg (fun h => hne7 h.1)], if_neg hne7]
              simp -implicitDefEqProofs only [push_cast, h7, hne7', Int.reduceBEq, Int.reduceBNe, Int.reduceEq, Int.reduceNe, Int.reducePow, Nat.reduceAdd, Nat.reduceMul, Nat.reduceSub, Nat.reduceLT, Nat.reduceLeDiff, Nat.reduceEqDiff, Nat.reduceBEq, Int.reduceLT, Int.reduceLE, Int.reduceAdd, Int.reduceSub, Int.reduceMul, Int.reduceToNat, Int.reduceNeg, reduceIte, reduceCtorEq, reduceBEq]
              (repeat (first | refine ⟨by omega, ?_⟩ | refine ⟨by simp [maxLen, ints_length]; omega, ?_⟩ | refine ⟨by (unfold drawOk; kernel_rfl), ?_⟩))
              exact ⟨_, rfl, by simp [wkL, res2, res1, PV.weak, PV.el, Fd.pv, fd0, ints]⟩
            · obtain rfl : e9 = 0 := by simpa using h7
              cases h10 : decide ((a9 : Int) < (s.length : Int))
              · have h10' : ¬ a9 < s.length := by simp at h10; omega
                rw [show getX s ⟨a9, 0⟩ = 0 by rw [getX, if_neg (fun h => h10' h.2)], if_pos rfl]
                simp -implicitDefEqProofs only [push_cast, h10, Int.reduceBEq, Int.reduceBNe, Int.reduceEq, Int.reduceNe, Int.reducePow, Nat.reduceAdd, Nat.reduceMul, Nat.reduceSub, Nat.reduceLT, Nat.reduceLeDiff, Nat.reduceEqDiff, Nat.reduceBEq, Int.reduceLT, Int.reduceLE, Int.reduceAdd, Int.reduceSub, Int.reduceMul, Int.reduceToNat, Int.reduceNeg, reduceIte, reduceCtorEq, reduceBEq]
                skip
                exact ⟨_, rfl, by simp [wkL, res2, res1, PV.weak, PV.el, Fd.pv, fd0, ints]⟩
              · have h10' : a9 < s.length := by simp at h10; omega
                rw [show getX s ⟨a9, 0⟩ = 2 by rw [getX, if_pos ⟨rfl, h10'⟩], if_neg (by decide)]
                simp -implicitDefEqProofs only [push_cast, h10, Int.reduceBEq, Int.reduceBNe, Int.reduceEq, Int.reduceNe, Int.reducePow, Nat.reduceAdd, Nat.reduceMul, Nat.reduceSub, Nat.reduceLT, Nat.reduceLeDiff, Nat.reduceEqDiff, Nat.reduceBEq, Int.reduceLT, Int.reduceLE, Int.reduceAdd, Int.reduceSub, Int.reduceMul, Int.reduceToNat, Int.reduceNeg, reduceIte, reduceCtorEq, reduceBEq]
                (repeat (first | refine ⟨by omega, ?_⟩ | refine ⟨by simp [maxLen, ints_length]; omega, ?_⟩ | refine ⟨by (unfold drawOk; kernel_rfl), ?_⟩))
                exact ⟨_, rfl, by simp [wkL, res2, res1, PV.weak, PV.el, Fd.pv, fd0, ints]⟩
          · have hL0 : ¬ f.L = 0 := by simpa using hL
            have hz : isSize f.L := by
              rcases h.l with e | e
              · exact absurd e hL0
              · exact e
            have hby5 := rbytes_fs hz
            have hwz := wid_pos hz
            have hm4 := rtake_fs s hl c2 hc2 4 (by omega)
            have hm4l := tak_le (n := 4) hc2
            have hma := tak_len (s := s) (n := 4) (c := c2)
            have hrl : rL o s f.L c2 = if (tak s 4 c2).2.e = 0 then ((rnums o s (List.replicate (readV o 4 (tak s 4 c2).1).toNat f.L) (tak s 4 c2).2).1, rfil s (rnums o s (List.replicate (readV o 4 (tak s 4 c2).1).toNat f.L) (tak s 4 c2).2).2) else ([], rfil s (tak s 4 c2).2) := by rw [rL, if_neg hL0]
            rw [hrl] at hRB
            clear hrl
            generalize tak s 4 c2 = t5 at *
            simp -implicitDefEqProofs only [push_cast, hL, Int.reduceBEq, Int.reduceBNe, Int.reduceEq, Int.reduceNe, Int.reducePow, Nat.reduceAdd, Nat.reduceMul, Nat.reduceSub, Nat.reduceLT, Nat.reduceLeDiff, Nat.reduceEqDiff, Nat.reduceBEq, Int.reduceLT, Int.reduceLE, Int.reduceAdd, Int.reduceSub, Int.reduceMul, Int.reduceToNat, Int.reduceNeg, reduceIte, reduceCtorEq, reduceBEq]
            refine callE_box hm4 [2] [] (by rfl) (by rfl) (by rfl) (by rfl) (by rfl) (by rfl) (fun i j cs h1 h2 => by (rcases i with _ | i <;> simp at h1 h2 <;> (subst h1; subst h2; exact ⟨_, rfl, (by (repeat' (first | exact wkL_nil | refine wkL_cons ?_ ?_)); all_goals (first | exact .inl ⟨_, _, _, _, rfl, rfl, rfl⟩ | exact .inr (.inr (.inr (.inr (.inl ⟨_, _, _, rfl, rfl, rfl⟩)))) | exact .inr (.inr (.inr (.inr (.inr ⟨_, _, _, _, rfl, rfl, rfl⟩)))) | exact .inr (.inl rfl) | exact .inr (.inr (.inl ⟨_, _, _, rfl, rfl, rfl⟩))))⟩))) (by simp [PS.lv, lkp_hit, lkp_miss, lkp_nil]) (by (repeat' (first | exact wkL_nil | refine wkL_cons ?_ ?_)); all_goals (first | exact .inl ⟨_, _, _, rfl, rfl, rfl⟩ | exact .inr (.inl rfl) | exact .inr (.inr (.inl ⟨_, _, _, _, rfl, rfl, rfl⟩)))) (by decide) (by simp) (by rfl) (by simp [tokLt1]) (fun _ => by rfl) (by first | rfl | simp [gdOk, newToks]) ?_
            simp -implicitDefEqProofs only [push_cast, hL, Int.reduceBEq, Int.reduceBNe, Int.reduceEq, Int.reduceNe, Int.reducePow, Nat.reduceAdd, Nat.reduceMul, Nat.reduceSub, Nat.reduceLT, Nat.reduceLeDiff, Nat.reduceEqDiff, Nat.reduceBEq, Int.reduceLT, Int.reduceLE, Int.reduceAdd, Int.reduceSub, Int.reduceMul, Int.reduceToNat, Int.reduceNeg, reduceIte, reduceCtorEq, reduceBEq]
            refine condC_split (fun h6 => ?_) (fun h6 => ?_)
            · have he5 : t5.2.e = 0 := by simpa using h6
              rw [if_pos he5] at hRB
              have hv5 := rval_fs ho (s := 4) (by unfold isSize; omega) t5.1 (hma he5)
              have hv50 := readV4 ho (hma he5)
              obtain ⟨m, hm⟩ := Int.eq_ofNat_of_zero_le hv50.1
              rw [hm] at hRB hv5 hv50
              simp only [Int.toNat_natCast] at hRB
              simp -implicitDefEqProofs only [push_cast, hL, Int.reduceBEq, Int.reduceBNe, Int.reduceEq, Int.reduceNe, Int.reducePow, Nat.reduceAdd, Nat.reduceMul, Nat.reduceSub, Nat.reduceLT, Nat.reduceLeDiff, Nat.reduceEqDiff, Nat.reduceBEq, Int.reduceLT, Int.reduceLE, Int.reduceAdd, Int.reduceSub, Int.reduceMul, Int.reduceToNat, Int.reduceNeg, reduceIte, reduceCtorEq, reduceBEq]
              refine callE_pure hv5 (by rfl) (by rfl) (by rfl) (by decide) (by rfl) (fun _ => by rfl) (by first | rfl | simp [gdOk, newToks]) ?_
              simp -implicitDefEqProofs only [push_cast, hL, Int.reduceBEq, Int.reduceBNe, Int.reduceEq, Int.reduceNe, Int.reducePow, Nat.reduceAdd, Nat.reduceMul, Nat.reduceSub, Nat.reduceLT, Nat.reduceLeDiff, Nat.reduceEqDiff, Nat.reduceBEq, Int.reduceLT, Int.reduceLE, Int.reduceAdd, Int.reduceSub, Int.reduceMul, Int.reduceToNat, Int.reduceNeg, reduceIte, reduceCtorEq, reduceBEq]
              refine loopC_of (α := R2S m (fun k => t5.2.a + k * wid f.L ≤ s.length + wid f.L)) (R2S.st o s f p.1 u.1 t5.2) (fun x => m - x.k) ⟨0, by omega, by (have := Nat.zero_mul (wid f.L); omega)⟩ ?_ ?_
              · (simp only [R2S.st, List.replicate_zero, rnums]; exact Wk.by _ _ _ [(0, 0), (1, 1), (2, 2), (3, 3)] [(50, 50)] [51] (by simp) (by simp [wkV, PV.el, PV.weak, PS.get, PS.obj, PS.lv, lkp_hit, lkp_miss, lkp_nil, lko, wkL, wkC, res1, ints, hB]) (by simp [PS.get, PS.obj, PS.lv, lkp_hit, lkp_miss, lkp_nil, lko, wkL, wkC, PV.weak, wkL, wkC, res1, ints, hB]) (by simp [PS.get, PS.obj, PS.lv, lkp_hit, lkp_miss, lkp_nil, lko]) (by rfl) (by rfl) (by simp [lko]) (by simp) (by simp) (by simp) (fun i hi => absurd hi (Nat.not_lt_zero i)))
              · rintro ⟨k, hk, hkl⟩
                have hkl' : k * 1 ≤ k * wid f.L := Nat.mul_le_mul_left _ hwz.1
                have hle2 := rnums_le (o := o) (s := s) (List.replicate k f.L) (c := t5.2) hm4l
                have hnl2 := rnums_length (o := o) (s := s) (List.replicate k f.L) t5.2
                rw [List.length_replicate] at hnl2
                cases h8 : ((rnums o s (List.replicate k f.L) t5.2).2.e == 0)
                · have hne8 : (rnums o s (List.replicate k f.L) t5.2).2.e ≠ 0 := by simpa using h8
                  rw [rnums_stop k m t5.2 hk hne8] at hRB
                  have hno3 := noughts_fs s hl (rnums o s (List.replicate k f.L) t5.2).2 hle2
                  simp -implicitDefEqProofs only [push_cast, R2S.st, h8, ints_length, Int.reduceBEq, Int.reduceBNe, Int.reduceEq, Int.reduceNe, Int.reducePow, Nat.reduceAdd, Nat.reduceMul, Nat.reduceSub, Nat.reduceLT, Nat.reduceLeDiff, Nat.reduceEqDiff, Nat.reduceBEq, Int.reduceLT, Int.reduceLE, Int.reduceAdd, Int.reduceSub, Int.reduceMul, Int.reduceToNat, Int.reduceNeg, reduceIte, reduceCtorEq, reduceBEq]
                  generalize rnums o s (List.replicate k f.L) t5.2 = q at *
                  refine callE_box hno3 [2] [] (by rfl) (by rfl) (by rfl) (by rfl) (by rfl) (by rfl) (fun i j cs h1 h2 => by (rcases i with _ | i <;> simp at h1 h2 <;> (subst h1; subst h2; exact ⟨_, rfl, (by (repeat' (first | exact wkL_nil | refine wkL_cons ?_ ?_)); all_goals (first | exact .inl ⟨_, _, _, _, rfl, rfl, rfl⟩ | exact .inr (.inr (.inr (.inr (.inl ⟨_, _, _, rfl, rfl, rfl⟩)))) | exact .inr (.inr (.inr (.inr (.inr ⟨_, _, _, _, rfl, rfl, rfl⟩)))) | exact .inr (.inl rfl) | exact .inr (.inr (.inl ⟨_, _, _, rfl, rfl, rfl⟩))))⟩))) (by simp [PS.lv, lkp_hit, lkp_miss, lkp_nil]) (by (repeat' (first | exact wkL_nil | refine wkL_cons ?_ ?_)); all_goals (first | exact .inl ⟨_, _, _, rfl, rfl, rfl⟩ | exact .inr (.inl rfl) | exact .inr (.inr (.inl ⟨_, _, _, _, rfl, rfl, rfl⟩)))) (by decide) (by simp) (by rfl) (by simp [tokLt1]) (fun _ => by rfl) (by first | rfl | simp [gdOk, newToks]) ?_
                  simp -implicitDefEqProofs only [push_cast, hL, Int.reduceBEq, Int.reduceBNe, Int.reduceEq, Int.reduceNe, Int.reducePow, Nat.reduceAdd, Nat.reduceMul, Nat.reduceSub, Nat.reduceLT, Nat.reduceLeDiff, Nat.reduceEqDiff, Nat.reduceBEq, Int.reduceLT, Int.reduceLE, Int.reduceAdd, Int.reduceSub, Int.reduceMul, Int.reduceToNat, Int.reduceNeg, reduceIte, reduceCtorEq, reduceBEq]
                  generalize rfil s q.2 = c9 at *
                  rw [show rgetF o f s = (if getX s c9 = 0 then (⟨p.1, u.1, q.1⟩, 0) else (fd0, getX s c9)) by rw [rgetF, if_neg hl6, hRB]]
                  obtain ⟨a9, e9⟩ := c9
                  cases h7 : (e9 == 0)
                  · have hne7 : ¬ e9 = 0 := by simpa using h7
                    have hne7' : (e9 != 0) = true := by simpa using h7
                    rw [show getX s ⟨a9, e9⟩ = e9 by rw [getX, if_neg (fun h => hne7 h.1)], if_neg hne7]
                    simp -implicitDefEqProofs only [push_cast, h7, hne7', Int.reduceBEq, Int.reduceBNe, Int.reduceEq, Int.reduceNe, Int.reducePow, Nat.reduceAdd, Nat.reduceMul, Nat.reduceSub, Nat.reduceLT, Nat.reduceLeDiff, Nat.reduceEqDiff, Nat.reduceBEq, Int.reduceLT, Int.reduceLE, Int.reduceAdd, Int.reduceSub, Int.reduceMul, Int.reduceToNat, Int.reduceNeg, reduceIte, reduceCtorEq, reduceBEq]
                    (repeat (first | refine ⟨by omega, ?_⟩ | refine ⟨by simp [maxLen, ints_length]; omega, ?_⟩ | refine ⟨by (unfold drawOk; kernel_rfl), ?_⟩))
                    exact ⟨_, rfl, by simp [wkL, res2, res1, PV.weak, PV.el, Fd.pv, fd0, ints]⟩
                  · obtain rfl : e9 = 0 := by simpa using h7
                    cases h10 : decide ((a9 : Int) < (s.length : Int))
                    · have h10' : ¬ a9 < s.length := by simp at h10; omega
                      rw [show getX s ⟨a9, 0⟩ = 0 by rw [getX, if_neg (fun h => h10' h.2)], if_pos rfl]
                      simp -implicitDefEqProofs only [push_cast, h10, Int.reduceBEq, Int.reduceBNe, Int.reduceEq, Int.reduceNe, Int.reducePow, Nat.reduceAdd, Nat.reduceMul, Nat.reduceSub, Nat.reduceLT, Nat.reduceLeDiff, Nat.reduceEqDiff, Nat.reduceBEq, Int.reduceLT, Int.reduceLE, Int.reduceAdd, Int.reduceSub, Int.reduceMul, Int.reduceToNat, Int.reduceNeg, reduceIte, reduceCtorEq, reduceBEq]
                      skip
                      exact ⟨_, rfl, by simp [wkL, res2, res1, PV.weak, PV.el, Fd.pv, fd0, ints]⟩
                    · have h10' : a9 < s.length := by simp at h10; omega
                      rw [show getX s ⟨a9, 0⟩ = 2 by rw [getX, if_pos ⟨rfl, h10'⟩], if_neg (by decide)]
                      simp -implicitDefEqProofs only [push_cast, h10, Int.reduceBEq, Int.reduceBNe, Int.reduceEq, Int.reduceNe, Int.reducePow, Nat.reduceAdd, Nat.reduceMul, Nat.reduceSub, Nat.reduceLT, Nat.reduceLeDiff, Nat.reduceEqDiff, Nat.reduceBEq, Int.reduceLT, Int.reduceLE, Int.reduceAdd, Int.reduceSub, Int.reduceMul, Int.reduceToNat, Int.reduceNeg, reduceIte, reduceCtorEq, reduceBEq]
                      (repeat (first | refine ⟨by omega, ?_⟩ | refine ⟨by simp [maxLen, ints_length]; omega, ?_⟩ | refine ⟨by (unfold drawOk; kernel_rfl), ?_⟩))
                      exact ⟨_, rfl, by simp [wkL, res2, res1, PV.weak, PV.el, Fd.pv, fd0, ints]⟩
                · have he8 : (rnums o s (List.replicate k f.L) t5.2).2.e = 0 := by simpa using h8
                  simp -implicitDefEqProofs only [push_cast, R2S.st, h8, ints_length, Int.reduceBEq, Int.reduceBNe, Int.reduceEq, Int.reduceNe, Int.reducePow, Nat.reduceAdd, Nat.reduceMul, Nat.reduceSub, Nat.reduceLT, Nat.reduceLeDiff, Nat.reduceEqDiff, Nat.reduceBEq, Int.reduceLT, Int.reduceLE, Int.reduceAdd, Int.reduceSub, Int.reduceMul, Int.reduceToNat, Int.reduceNeg, reduceIte, reduceCtorEq, reduceBEq]
                  refine condC_split (fun h9 => ?_) (fun h9 => ?_)
                  · have hlt : k < m := by simp at h9; omega
                    have hsn := rnums_snoc o s f.L (List.replicate k f.L) t5.2
                    rw [← List.replicate_succ'] at hsn
                    have hroom := rnums_room (o := o) (z := f.L) (s := s) k t5.2.a hm4l
                    rw [show (⟨t5.2.a, 0⟩ : Cu) = t5.2 by rw [← he5]] at hroom
                    have hnx : t5.2.a + (k + 1) * wid f.L ≤ s.length + wid f.L := by
                      rw [Nat.succ_mul]
                      by_cases hh : s.length < t5.2.a + k * wid f.L
                      · rw [if_pos hh] at hroom
                        exact absurd (hroom.1.symm.trans he8) (show ¬ (3 : Int) = 0 by decide)
                      · omega
                    clear hroom
                    generalize rnums o s (List.replicate k f.L) t5.2 = q at *
                    have htq := rtake_fs s hl q.2 hle2 (wid f.L) (by omega)
                    have hqa := tak_len (s := s) (n := wid f.L) (c := q.2)
                    generalize tak s (wid f.L) q.2 = v at *
                    have hwr : IntKind.i64.wrap ((k : Int) + 1) = ((k + 1 : Nat) : Int) := by (rw [wrap_i64_id (by omega) (by omega)]; rfl)
                    simp -implicitDefEqProofs only [push_cast, ints_length, Int.reduceBEq, Int.reduceBNe, Int.reduceEq, Int.reduceNe, Int.reducePow, Nat.reduceAdd, Nat.reduceMul, Nat.reduceSub, Nat.reduceLT, Nat.reduceLeDiff, Nat.reduceEqDiff, Nat.reduceBEq, Int.reduceLT, Int.reduceLE, Int.reduceAdd, Int.reduceSub, Int.reduceMul, Int.reduceToNat, Int.reduceNeg, reduceIte, reduceCtorEq, reduceBEq]
                    refine callE_pure hby5 (by rfl) (by rfl) (by rfl) (by decide) (by rfl) (fun _ => by rfl) (by first | rfl | simp [gdOk, newToks]) ?_
                    simp -implicitDefEqProofs only [push_cast, ints_length, Int.reduceBEq, Int.reduceBNe, Int.reduceEq, Int.reduceNe, Int.reducePow, Nat.reduceAdd, Nat.reduceMul, Nat.reduceSub, Nat.reduceLT, Nat.reduceLeDiff, Nat.reduceEqDiff, Nat.reduceBEq, Int.reduceLT, Int.reduceLE, Int.reduceAdd, Int.reduceSub, Int.reduceMul, Int.reduceToNat, Int.reduceNeg, reduceIte, reduceCtorEq, reduceBEq]
                    refine callE_box htq [2] [] (by rfl) (by rfl) (by rfl) (by rfl) (by rfl) (by rfl) (fun i j cs h1 h2 => by (rcases i with _ | i <;> simp at h1 h2 <;> (subst h1; subst h2; exact ⟨_, rfl, (by (repeat' (first | exact wkL_nil | refine wkL_cons ?_ ?_)); all_goals (first | exact .inl ⟨_, _, _, _, rfl, rfl, rfl⟩ | exact .inr (.inr (.inr (.inr (.inl ⟨_, _, _, rfl, rfl, rfl⟩)))) | exact .inr (.inr (.inr (.inr (.inr ⟨_, _, _, _, rfl, rfl, rfl⟩)))) | exact .inr (.inl rfl) | exact .inr (.inr (.inl ⟨_, _, _, rfl, rfl, rfl⟩))))⟩))) (by simp [PS.lv, lkp_hit, lkp_miss, lkp_nil]) (by (repeat' (first | exact wkL_nil | refine wkL_cons ?_ ?_)); all_goals (first | exact .inl ⟨_, _, _, rfl, rfl, rfl⟩ | exact .inr (.inl rfl) | exact .inr (.inr (.inl ⟨_, _, _, _, rfl, rfl, rfl⟩)))) (by decide) (by simp) (by rfl) (by simp [tokLt1]) (fun _ => by rfl) (by first | rfl | simp [gdOk, newToks]) ?_
                    simp -implicitDefEqProofs only [push_cast, ints_length, Int.reduceBEq, Int.reduceBNe, Int.reduceEq, Int.reduceNe, Int.reducePow, Nat.reduceAdd, Nat.reduceMul, Nat.reduceSub, Nat.reduceLT, Nat.reduceLeDiff, Nat.reduceEqDiff, Nat.reduceBEq, Int.reduceLT, Int.reduceLE, Int.reduceAdd, Int.reduceSub, Int.reduceMul, Int.reduceToNat, Int.reduceNeg, reduceIte, reduceCtorEq, reduceBEq]
                    refine condC_split (fun h4 => ?_) (fun h4 => ?_)
                    · have he : v.2.e = 0 := by simpa using h4
                      rw [if_pos he] at hsn
                      have hvq := rval_fs ho hz v.1 (hqa he)
                      simp -implicitDefEqProofs only [push_cast, ints_length, Int.reduceBEq, Int.reduceBNe, Int.reduceEq, Int.reduceNe, Int.reducePow, Nat.reduceAdd, Nat.reduceMul, Nat.reduceSub, Nat.reduceLT, Nat.reduceLeDiff, Nat.reduceEqDiff, Nat.reduceBEq, Int.reduceLT, Int.reduceLE, Int.reduceAdd, Int.reduceSub, Int.reduceMul, Int.reduceToNat, Int.reduceNeg, reduceIte, reduceCtorEq, reduceBEq]
                      (repeat (first | refine ⟨by omega, ?_⟩ | refine ⟨by simp [maxLen, ints_length]; omega, ?_⟩ | refine ⟨by (unfold drawOk; kernel_rfl), ?_⟩))
                      refine callE_pure hvq (by rfl) (by rfl) (by rfl) (by decide) (by rfl) (fun _ => by rfl) (by first | rfl | simp [gdOk, newToks]) ?_
                      simp -implicitDefEqProofs only [push_cast, ints_length, Int.reduceBEq, Int.reduceBNe, Int.reduceEq, Int.reduceNe, Int.reducePow, Nat.reduceAdd, Nat.reduceMul, Nat.reduceSub, Nat.reduceLT, Nat.reduceLeDiff, Nat.reduceEqDiff, Nat.reduceBEq, Int.reduceLT, Int.reduceLE, Int.reduceAdd, Int.reduceSub, Int.reduceMul, Int.reduceToNat, Int.reduceNeg, reduceIte, reduceCtorEq, reduceBEq]
                      (repeat (first | refine ⟨by omega, ?_⟩ | refine ⟨by simp [maxLen, ints_length]; omega, ?_⟩ | refine ⟨by (unfold drawOk; kernel_rfl), ?_⟩))
                      rw [hwr]
                      skip
                      refine ⟨⟨k + 1, by omega, hnx⟩, by simp only; omega, ?_⟩
                      (simp only [R2S.st, hsn, ← ints_snoc']; exact Wk.by _ _ _ [(0, 0), (1, 1), (2, 2), (3, 3)] [(50, 50), (51, 176)] [] (by simp) (by simp [wkV, PV.el, PV.weak, PS.get, PS.obj, PS.lv, lkp_hit, lkp_miss, lkp_nil, lko, wkL, wkC, res1, ints]) (by simp [PS.get, PS.obj, PS.lv, lkp_hit, lkp_miss, lkp_nil, lko, wkL, wkC, PV.weak, wkL, wkC, res1, ints]) (by simp [PS.get, PS.obj, PS.lv, lkp_hit, lkp_miss, lkp_nil, lko]) (by rfl) (by rfl) (by simp [lko]) (by simp) (by simp) (by simp) (fun i hi => absurd hi (Nat.not_lt_zero i)))
                    · have he : ¬ v.2.e = 0 := by simpa using h4
                      rw [if_neg he] at hsn
                      simp -implicitDefEqProofs only [push_cast, ints_length, Int.reduceBEq, Int.reduceBNe, Int.reduceEq, Int.reduceNe, Int.reducePow, Nat.reduceAdd, Nat.reduceMul, Nat.reduceSub, Nat.reduceLT, Nat.reduceLeDiff, Nat.reduceEqDiff, Nat.reduceBEq, Int.reduceLT, Int.reduceLE, Int.reduceAdd, Int.reduceSub, Int.reduceMul, Int.reduceToNat, Int.reduceNeg, reduceIte, reduceCtorEq, reduceBEq]
                      rw [hwr]
                      refine ⟨⟨k + 1, by omega, hnx⟩, by simp only; omega, ?_⟩
                      (simp only [R2S.st, hsn]; exact Wk.by _ _ _ [(0, 0), (1, 1), (2, 2), (3, 3)] [(50, 50), (51, 51)] [] (by simp) (by simp [wkV, PV.el, PV.weak, PS.get, PS.obj, PS.lv, lkp_hit, lkp_miss, lkp_nil, lko, wkL, wkC, res1, ints]) (by simp [PS.get, PS.obj, PS.lv, lkp_hit, lkp_miss, lkp_nil, lko, wkL, wkC, PV.weak, wkL, wkC, res1, ints]) (by simp [PS.get, PS.obj, PS.lv, lkp_hit, lkp_miss, lkp_nil, lko]) (by rfl) (by rfl) (by simp [lko]) (by simp) (by simp) (by simp) (fun i hi => absurd hi (Nat.not_lt_zero i)))
                  · have hke : k = m := by simp at h9; omega
                    subst hke
                    have hno3 := noughts_fs s hl (rnums o s (List.replicate k f.L) t5.2).2 hle2
                    simp -implicitDefEqProofs only [push_cast, ints_length, Int.reduceBEq, Int.reduceBNe, Int.reduceEq, Int.reduceNe, Int.reducePow, Nat.reduceAdd, Nat.reduceMul, Nat.reduceSub, Nat.reduceLT, Nat.reduceLeDiff, Nat.reduceEqDiff, Nat.reduceBEq, Int.reduceLT, Int.reduceLE, Int.reduceAdd, Int.reduceSub, Int.reduceMul, Int.reduceToNat, Int.reduceNeg, reduceIte, reduceCtorEq, reduceBEq]
                    generalize rnums o s (List.replicate k f.L) t5.2 = q at *
                    refine callE_box hno3 [2] [] (by rfl) (by rfl) (by rfl) (by rfl) (by rfl) (by rfl) (fun i j cs h1 h2 => by (rcases i with _ | i <;> simp at h1 h2 <;> (subst h1; subst h2; exact ⟨_, rfl, (by (repeat' (first | exact wkL_nil | refine wkL_cons ?_ ?_)); all_goals (first | exact .inl ⟨_, _, _, _, rfl, rfl, rfl⟩ | exact .inr (.inr (.inr (.inr (.inl ⟨_, _, _, rfl, rfl, rfl⟩)))) | exact .inr (.inr (.inr (.inr (.inr ⟨_, _, _, _, rfl, rfl, rfl⟩)))) | exact .inr (.inl rfl) | exact .inr (.inr (.inl ⟨_, _, _, rfl, rfl, rfl⟩))))⟩))) (by simp [PS.lv, lkp_hit, lkp_miss, lkp_nil]) (by (repeat' (first | exact wkL_nil | refine wkL_cons ?_ ?_)); all_goals (first | exact .inl ⟨_, _, _, rfl, rfl, rfl⟩ | exact .inr (.inl rfl) | exact .inr (.inr (.inl ⟨_, _, _, _, rfl, rfl, rfl⟩)))) (by decide) (by simp) (by rfl) (by simp [tokLt1]) (fun _ => by rfl) (by first | rfl | simp [gdOk, newToks]) ?_
                    simp -implicitDefEqProofs only [push_cast, hL, Int.reduceBEq, Int.reduceBNe, Int.reduceEq, Int.reduceNe, Int.reducePow, Nat.reduceAdd, Nat.reduceMul, Nat.reduceSub, Nat.reduceLT, Nat.reduceLeDiff, Nat.reduceEqDiff, Nat.reduceBEq, Int.reduceLT, Int.reduceLE, Int.reduceAdd, Int.reduceSub, Int.reduceMul, Int.reduceToNat, Int.reduceNeg, reduceIte, reduceCtorEq, reduceBEq]
                    generalize rfil s q.2 = c9 at *
                    rw [show rgetF o f s = (if getX s c9 = 0 then (⟨p.1, u.1, q.1⟩, 0) else (fd0, getX s c9)) by rw [rgetF, if_neg hl6, hRB]]
                    obtain ⟨a9, e9⟩ := c9
                    cases h7 : (e9 == 0)
                    · have hne7 : ¬ e9 = 0 := by simpa using h7
                      have hne7' : (e9 != 0) = true := by simpa using h7
                      rw [show getX s ⟨a9, e9⟩ = e9 by rw [getX, if_neg (fun h => hne7 h.1)], if_neg hne7]
                      simp -implicitDefEqProofs only [push_cast, h7, hne7', Int.reduceBEq, Int.reduceBNe, Int.reduceEq, Int.reduceNe, Int.reducePow, Nat.reduceAdd, Nat.reduceMul, Nat.reduceSub, Nat.reduceLT, Nat.reduceLeDiff, Nat.reduceEqDiff, Nat.reduceBEq, Int.reduceLT, Int.reduceLE, Int.reduceAdd, Int.reduceSub, Int.reduceMul, Int.reduceToNat, Int.reduceNeg, reduceIte, reduceCtorEq, reduceBEq]
                      (repeat (first | refine ⟨by omega, ?_⟩ | refine ⟨by simp [maxLen, ints_length]; omega, ?_⟩ | refine ⟨by (unfold drawOk; kernel_rfl), ?_⟩))
                      exact ⟨_, rfl, by simp [wkL, res2, res1, PV.weak, PV.el, Fd.pv, fd0, ints]⟩
                    · obtain rfl : e9 = 0 := by simpa using h7
                      cases h10 : decide ((a9 : Int) < (s.length : Int))
                      · have h10' : ¬ a9 < s.length := by simp at h10; omega
                        rw [show getX s ⟨a9, 0⟩ = 0 by rw [getX, if_neg (fun h => h10' h.2)], if_pos rfl]
                        simp -implicitDefEqProofs only [push_cast, h10, Int.reduceBEq, Int.reduceBNe, Int.reduceEq, Int.reduceNe, Int.reducePow, Nat.reduceAdd, Nat.reduceMul, Nat.reduceSub, Nat.reduceLT, Nat.reduceLeDiff, Nat.reduceEqDiff, Nat.reduceBEq, Int.reduceLT, Int.reduceLE, Int.reduceAdd, Int.reduceSub, Int.reduceMul, Int.reduceToNat, Int.reduceNeg, reduceIte, reduceCtorEq, reduceBEq]
                        skip
                        exact ⟨_, rfl, by simp [wkL, res2, res1, PV.weak, PV.el, Fd.pv, fd0, ints]⟩
                      · have h10' : a9 < s.length := by simp at h10; omega
                        rw [show getX s ⟨a9, 0⟩ = 2 by rw [getX, if_pos ⟨rfl, h10'⟩], if_neg (by decide)]
                        simp -implicitDefEqProofs only [push_cast, h10, Int.reduceBEq, Int.reduceBNe, Int.reduceEq, Int.reduceNe, Int.reducePow, Nat.reduceAdd, Nat.reduceMul, Nat.reduceSub, Nat.reduceLT, Nat.reduceLeDiff, Nat.reduceEqDiff, Nat.reduceBEq, Int.reduceLT, Int.reduceLE, Int.reduceAdd, Int.reduceSub, Int.reduceMul, Int.reduceToNat, Int.reduceNeg, reduceIte, reduceCtorEq, reduceBEq]
                        (repeat (first | refine ⟨by omega, ?_⟩ | refine ⟨by simp [maxLen, ints_length]; omega, ?_⟩ | refine ⟨by (unfold drawOk; kernel_rfl), ?_⟩))
                        exact ⟨_, rfl, by simp [wkL, res2, res1, PV.weak, PV.el, Fd.pv, fd0, ints]⟩
            · have he5 : ¬ t5.2.e = 0 := by simpa using h6
              rw [if_neg he5] at hRB
              have hno4 := noughts_fs s hl t5.2 hm4l
              simp -implicitDefEqProofs only [push_cast, hL, Int.reduceBEq, Int.reduceBNe, Int.reduceEq, Int.reduceNe, Int.reducePow, Nat.reduceAdd, Nat.reduceMul, Nat.reduceSub, Nat.reduceLT, Nat.reduceLeDiff, Nat.reduceEqDiff, Nat.reduceBEq, Int.reduceLT, Int.reduceLE, Int.reduceAdd, Int.reduceSub, Int.reduceMul, Int.reduceToNat, Int.reduceNeg, reduceIte, reduceCtorEq, reduceBEq]
              refine loopC_un 1 ?_
              simp -implicitDefEqProofs only [push_cast, hL, h6, Int.reduceBEq, Int.reduceBNe, Int.reduceEq, Int.reduceNe, Int.reducePow, Nat.reduceAdd, Nat.reduceMul, Nat.reduceSub, Nat.reduceLT, Nat.reduceLeDiff, Nat.reduceEqDiff, Nat.reduceBEq, Int.reduceLT, Int.reduceLE, Int.reduceAdd, Int.reduceSub, Int.reduceMul, Int.reduceToNat, Int.reduceNeg, reduceIte, reduceCtorEq, reduceBEq]
              refine callE_box hno4 [2] [] (by rfl) (by rfl) (by rfl) (by rfl) (by rfl) (by rfl) (fun i j cs h1 h2 => by (rcases i with _ | i <;> simp at h1 h2 <;> (subst h1; subst h2; exact ⟨_, rfl, (by (repeat' (first | exact wkL_nil | refine wkL_cons ?_ ?_)); all_goals (first | exact .inl ⟨_, _, _, _, rfl, rfl, rfl⟩ | exact .inr (.inr (.inr (.inr (.inl ⟨_, _, _, rfl, rfl, rfl⟩)))) | exact .inr (.inr (.inr (.inr (.inr ⟨_, _, _, _, rfl, rfl, rfl⟩)))) | exact .inr (.inl rfl) | exact .inr (.inr (.inl ⟨_, _, _, rfl, rfl, rfl⟩))))⟩))) (by simp [PS.lv, lkp_hit, lkp_miss, lkp_nil]) (by (repeat' (first | exact wkL_nil | refine wkL_cons ?_ ?_)); all_goals (first | exact .inl ⟨_, _, _, rfl, rfl, rfl⟩ | exact .inr (.inl rfl) | exact .inr (.inr (.inl ⟨_, _, _, _, rfl, rfl, rfl⟩)))) (by decide) (by simp) (by rfl) (by simp [tokLt1]) (fun _ => by rfl) (by first | rfl | simp [gdOk, newToks]) ?_
              simp -implicitDefEqProofs only [push_cast, hL, Int.reduceBEq, Int.reduceBNe, Int.reduceEq, Int.reduceNe, Int.reducePow, Nat.reduceAdd, Nat.reduceMul, Nat.reduceSub, Nat.reduceLT, Nat.reduceLeDiff, Nat.reduceEqDiff, Nat.reduceBEq, Int.reduceLT, Int.reduceLE, Int.reduceAdd, Int.reduceSub, Int.reduceMul, Int.reduceToNat, Int.reduceNeg, reduceIte, reduceCtorEq, reduceBEq]
              generalize rfil s t5.2 = c9 at *
              rw [show rgetF o f s = (if getX s c9 = 0 then (⟨p.1, u.1, []⟩, 0) else (fd0, getX s c9)) by rw [rgetF, if_neg hl6, hRB]]
              obtain ⟨a9, e9⟩ := c9
              cases h7 : (e9 == 0)
              · have hne7 : ¬ e9 = 0 := by simpa using h7
                have hne7' : (e9 != 0) = true := by simpa using h7
                rw [show getX s ⟨a9, e9⟩ = e9 by rw [getX, if_neg (fun h => hne7 h.1)], if_neg hne7]
                simp -implicitDefEqProofs only [push_cast, h7, hne7', Int.reduceBEq, Int.reduceBNe, Int.reduceEq, Int.reduceNe, Int.reducePow, Nat.reduceAdd, Nat.reduceMul, Nat.reduceSub, Nat.reduceLT, Nat.reduceLeDiff, Nat.reduceEqDiff, Nat.reduceBEq, Int.reduceLT, Int.reduceLE, Int.reduceAdd, Int.reduceSub, Int.reduceMul, Int.reduceToNat, Int.reduceNeg, reduceIte, reduceCtorEq, reduceBEq]
                (repeat (first | refine ⟨by omega, ?_⟩ | refine ⟨by simp [maxLen, ints_length]; omega, ?_⟩ | refine ⟨by (unfold drawOk; kernel_rfl), ?_⟩))
                exact ⟨_, rfl, by simp [wkL, res2, res1, PV.weak, PV.el, Fd.pv, fd0, ints]⟩
              · obtain rfl : e9 = 0 := by simpa using h7
                cases h10 : decide ((a9 : Int) < (s.length : Int))
                · have h10' : ¬ a9 < s.length := by simp at h10; omega
                  rw [show getX s ⟨a9, 0⟩ = 0 by rw [getX, if_neg (fun h => h10' h.2)], if_pos rfl]
                  simp -implicitDefEqProofs only [push_cast, h10, Int.reduceBEq, Int.reduceBNe, Int.reduceEq, Int.reduceNe, Int.reducePow, Nat.reduceAdd, Nat.reduceMul, Nat.reduceSub, Nat.reduceLT, Nat.reduceLeDiff, Nat.reduceEqDiff, Nat.reduceBEq, Int.reduceLT, Int.reduceLE, Int.reduceAdd, Int.reduceSub, Int.reduceMul, Int.reduceToNat, Int.reduceNeg, reduceIte, reduceCtorEq, reduceBEq]
                  skip
                  exact ⟨_, rfl, by simp [wkL, res2, res1, PV.weak, PV.el, Fd.pv, fd0, ints]⟩
                · have h10' : a9 < s.length := by simp at h10; omega
                  rw [show getX s ⟨a9, 0⟩ = 2 by rw [getX, if_pos ⟨rfl, h10'⟩], if_neg (by decide)]
                  simp -implicitDefEqProofs only [push_cast, h10, Int.reduceBEq, Int.reduceBNe, Int.reduceEq, Int.reduceNe, Int.reducePow, Nat.reduceAdd, Nat.reduceMul, Nat.reduceSub, Nat.reduceLT, Nat.reduceLeDiff, Nat.reduceEqDiff, Nat.reduceBEq, Int.reduceLT, Int.reduceLE, Int.reduceAdd, Int.reduceSub, Int.reduceMul, Int.reduceToNat, Int.reduceNeg, reduceIte, reduceCtorEq, reduceBEq]
                  (repeat (first | refine ⟨by omega, ?_⟩ | refine ⟨by simp [maxLen, ints_length]; omega, ?_⟩ | refine ⟨by (unfold drawOk; kernel_rfl), ?_⟩))
                  exact ⟨_, rfl, by simp [wkL, res2, res1, PV.weak, PV.el, Fd.pv, fd0, ints]⟩
        · have he : ¬ t.2.e = 0 := by simpa using h5
          rw [if_neg he] at hRB
          have hno2 := noughts_fs s hl t.2 ht4l
          have hc2 := rfil_le ht4l
          generalize rfil s t.2 = c2 at *
          simp -implicitDefEqProofs only [push_cast, hB, Int.reduceBEq, Int.reduceBNe, Int.reduceEq, Int.reduceNe, Int.reducePow, Nat.reduceAdd, Nat.reduceMul, Nat.reduceSub, Nat.reduceLT, Nat.reduceLeDiff, Nat.reduceEqDiff, Nat.reduceBEq, Int.reduceLT, Int.reduceLE, Int.reduceAdd, Int.reduceSub, Int.reduceMul, Int.reduceToNat, Int.reduceNeg, reduceIte, reduceCtorEq, reduceBEq]
          refine callE_box hno2 [2] [] (by rfl) (by rfl) (by rfl) (by rfl) (by rfl) (by rfl) (fun i j cs h1 h2 => by (rcases i with _ | i <;> simp at h1 h2 <;> (subst h1; subst h2; exact ⟨_, rfl, (by (repeat' (first | exact wkL_nil | refine wkL_cons ?_ ?_)); all_goals (first | exact .inl ⟨_, _, _, _, rfl, rfl, rfl⟩ | exact .inr (.inr (.inr (.inr (.inl ⟨_, _, _, rfl, rfl, rfl⟩)))) | exact .inr (.inr (.inr (.inr (.inr ⟨_, _, _, _, rfl, rfl, rfl⟩)))) | exact .inr (.inl rfl) | exact .inr (.inr (.inl ⟨_, _, _, rfl, rfl, rfl⟩))))⟩))) (by simp [PS.lv, lkp_hit, lkp_miss, lkp_nil]) (by (repeat' (first | exact wkL_nil | refine wkL_cons ?_ ?_)); all_goals (first | exact .inl ⟨_, _, _, rfl, rfl, rfl⟩ | exact .inr (.inl rfl) | exact .inr (.inr (.inl ⟨_, _, _, _, rfl, rfl, rfl⟩)))) (by decide) (by simp) (by rfl) (by simp [tokLt1]) (fun _ => by rfl) (by first | rfl | simp [gdOk, newToks]) ?_
          simp -implicitDefEqProofs only [push_cast, hB, Int.reduceBEq, Int.reduceBNe, Int.reduceEq, Int.reduceNe, Int.reducePow, Nat.reduceAdd, Nat.reduceMul, Nat.reduceSub, Nat.reduceLT, Nat.reduceLeDiff, Nat.reduceEqDiff, Nat.reduceBEq, Int.reduceLT, Int.reduceLE, Int.reduceAdd, Int.reduceSub, Int.reduceMul, Int.reduceToNat, Int.reduceNeg, reduceIte, reduceCtorEq, reduceBEq]
          cases hL : (f.L != 0)
          · have hL0 : f.L = 0 := by simpa using hL
            rw [show rL o s f.L c2 = ([], c2) by rw [rL, if_pos hL0]] at hRB
            simp -implicitDefEqProofs only [push_cast, hL, Int.reduceBEq, Int.reduceBNe, Int.reduceEq, Int.reduceNe, Int.reducePow, Nat.reduceAdd, Nat.reduceMul, Nat.reduceSub, Nat.reduceLT, Nat.reduceLeDiff, Nat.reduceEqDiff, Nat.reduceBEq, Int.reduceLT, Int.reduceLE, Int.reduceAdd, Int.reduceSub, Int.reduceMul, Int.reduceToNat, Int.reduceNeg, reduceIte, reduceCtorEq, reduceBEq]
            rw [show rgetF o f s = (if getX s c2 = 0 then (⟨p.1, [], []⟩, 0) else (fd0, getX s c2)) by rw [rgetF, if_neg hl6, hRB]]
            obtain ⟨a9, e9⟩ := c2
            cases h7 : (e9 == 0)
            · have hne7 : ¬ e9 = 0 := by simpa using h7
              have hne7' : (e9 != 0) = true := by simpa using h7
              rw [show getX s ⟨a9, e9⟩ = e9 by rw [getX, if_neg (fun h => hne7 h.1)], if_neg hne7]
              simp -implicitDefEqProofs only [push_cast, h7, hne7', Int.reduceBEq, Int.reduceBNe, Int.reduceEq, Int.reduceNe, Int.reducePow, Nat.reduceAdd, Nat.reduceMul, Nat.reduceSub, Nat.reduceLT, Nat.reduceLeDiff, Nat.reduceEqDiff, Nat.reduceBEq, Int.reduceLT, Int.reduceLE, Int.reduceAdd, Int.reduceSub, Int.reduceMul, Int.reduceToNat, Int.reduceNeg, reduceIte, reduceCtorEq, reduceBEq]
              (repeat (first | refine ⟨by omega, ?_⟩ | refine ⟨by simp [maxLen, ints_length]; omega, ?_⟩ | refine ⟨by (unfold drawOk; kernel_rfl), ?_⟩))
              exact ⟨_, rfl, by simp [wkL, res2, res1, PV.weak, PV.el, Fd.pv, fd0, ints]⟩
            · obtain rfl : e9 = 0 := by simpa using h7
              cases h10 : decide ((a9 : Int) < (s.length : Int))
              · have h10' : ¬ a9 < s.length := by simp at h10; omega
                rw [show getX s ⟨a9, 0⟩ = 0 by rw [getX, if_neg (fun h => h10' h.2)], if_pos rfl]
                simp -implicitDefEqProofs only [push_cast, h10, Int.reduceBEq, Int.reduceBNe, Int.reduceEq, Int.reduceNe, Int.reducePow, Nat.reduceAdd, Nat.reduceMul, Nat.reduceSub, Nat.reduceLT, Nat.reduceLeDiff, Nat.reduceEqDiff, Nat.reduceBEq, Int.reduceLT, Int.reduceLE, Int.reduceAdd, Int.reduceSub, Int.reduceMul, Int.reduceToNat, Int.reduceNeg, reduceIte, reduceCtorEq, reduceBEq]
                skip
                exact ⟨_, rfl, by simp [wkL, res2, res1, PV.weak, PV.el, Fd.pv, fd0, ints]⟩
              · have h10' : a9 < s.length := by simp at h10; omega
                rw [show getX s ⟨a9, 0⟩ = 2 by rw [getX, if_pos ⟨rfl, h10'⟩], if_neg (by decide)]
                simp -implicitDefEqProofs only [push_cast, h10, Int.reduceBEq, Int.reduceBNe, Int.reduceEq, Int.reduceNe, Int.reducePow, Nat.reduceAdd, Nat.reduceMul, Nat.reduceSub, Nat.reduceLT, Nat.reduceLeDiff, Nat.reduceEqDiff, Nat.reduceBEq, Int.reduceLT, Int.reduceLE, Int.reduceAdd, Int.reduceSub, Int.reduceMul, Int.reduceToNat, Int.reduceNeg, reduceIte, reduceCtorEq, reduceBEq]
                (repeat (first | refine ⟨by omega, ?_⟩ | refine ⟨by simp [maxLen, ints_length]; omega, ?_⟩ | refine ⟨by (unfold drawOk; kernel_rfl), ?_⟩))
                exact ⟨_, rfl, by simp [wkL, res2, res1, PV.weak, PV.el, Fd.pv, fd0, ints]⟩
          · have hL0 : ¬ f.L = 0 := by simpa using hL
            have hz : isSize f.L := by
              rcases h.l with e | e
              · exact absurd e hL0
              · exact e
            have hby5 := rbytes_fs hz
            have hwz := wid_pos hz
            have hm4 := rtake_fs s hl c2 hc2 4 (by omega)
            have hm4l := tak_le (n := 4) hc2
            have hma := tak_len (s := s) (n := 4) (c := c2)
            have hrl : rL o s f.L c2 = if (tak s 4 c2).2.e = 0 then ((rnums o s (List.replicate (readV o 4 (tak s 4 c2).1).toNat f.L) (tak s 4 c2).2).1, rfil s (rnums o s (List.replicate (readV o 4 (tak s 4 c2).1).toNat f.L) (tak s 4 c2).2).2) else ([], rfil s (tak s 4 c2).2) := by rw [rL, if_neg hL0]
            rw [hrl] at hRB
            clear hrl
            generalize tak s 4 c2 = t5 at *
            simp -implicitDefEqProofs only [push_cast, hL, Int.reduceBEq, Int.reduceBNe, Int.reduceEq, Int.reduceNe, Int.reducePow, Nat.reduceAdd, Nat.reduceMul, Nat.reduceSub, Nat.reduceLT, Nat.reduceLeDiff, Nat.reduceEqDiff, Nat.reduceBEq, Int.reduceLT, Int.reduceLE, Int.reduceAdd, Int.reduceSub, Int.reduceMul, Int.reduceToNat, Int.reduceNeg, reduceIte, reduceCtorEq, reduceBEq]
            refine callE_box hm4 [2] [] (by rfl) (by rfl) (by rfl) (by rfl) (by rfl) (by rfl) (fun i j cs h1 h2 => by (rcases i with _ | i <;> simp at h1 h2 <;> (subst h1; subst h2; exact ⟨_, rfl, (by (repeat' (first | exact wkL_nil | refine wkL_cons ?_ ?_)); all_goals (first | exact .inl ⟨_, _, _, _, rfl, rfl, rfl⟩ | exact .inr (.inr (.inr (.inr (.inl ⟨_, _, _, rfl, rfl, rfl⟩)))) | exact .inr (.inr (.inr (.inr (.inr ⟨_, _, _, _, rfl, rfl, rfl⟩)))) | exact .inr (.inl rfl) | exact .inr (.inr (.inl ⟨_, _, _, rfl, rfl, rfl⟩))))⟩))) (by simp [PS.lv, lkp_hit, lkp_miss, lkp_nil]) (by (repeat' (first | exact wkL_nil | refine wkL_cons ?_ ?_)); all_goals (first | exact .inl ⟨_, _, _, rfl, rfl, rfl⟩ | exact .inr (.inl rfl) | exact .inr (.inr (.inl ⟨_, _, _, _, rfl, rfl, rfl⟩)))) (by decide) (by simp) (by rfl) (by simp [tokLt1]) (fun _ => by rfl) (by first | rfl | simp [gdOk, newToks]) ?_
            simp -implicitDefEqProofs only [push_cast, hL, Int.reduceBEq, Int.reduceBNe, Int.reduceEq, Int.reduceNe, Int.reducePow, Nat.reduceAdd, Nat.reduceMul, Nat.reduceSub, Nat.reduceLT, Nat.reduceLeDiff, Nat.reduceEqDiff, Nat.reduceBEq, Int.reduceLT, Int.reduceLE, Int.reduceAdd, Int.reduceSub, Int.reduceMul, Int.reduceToNat, Int.reduceNeg, reduceIte, reduceCtorEq, reduceBEq]
            refine condC_split (fun h6 => ?_) (fun h6 => ?_)
            · have he5 : t5.2.e = 0 := by simpa using h6
              rw [if_pos he5] at hRB
              have hv5 := rval_fs ho (s := 4) (by unfold isSize; omega) t5.1 (hma he5)
              have hv50 := readV4 ho (hma he5)
              obtain ⟨m, hm⟩ := Int.eq_ofNat_of_zero_le hv50.1
              rw [hm] at hRB hv5 hv50
              simp only [Int.toNat_natCast] at hRB
              simp -implicitDefEqProofs only [push_cast, hL, Int.reduceBEq, Int.reduceBNe, Int.reduceEq, Int.reduceNe, Int.reducePow, Nat.reduceAdd, Nat.reduceMul, Nat.reduceSub, Nat.reduceLT, Nat.reduceLeDiff, Nat.reduceEqDiff, Nat.reduceBEq, Int.reduceLT, Int.reduceLE, Int.reduceAdd, Int.reduceSub, Int.reduceMul, Int.reduceToNat, Int.reduceNeg, reduceIte, reduceCtorEq, reduceBEq]
              refine callE_pure hv5 (by rfl) (by rfl) (by rfl) (by decide) (by rfl) (fun _ => by rfl) (by first | rfl | simp [gdOk, newToks]) ?_
              simp -implicitDefEqProofs only [push_cast, hL, Int.reduceBEq, Int.reduceBNe, Int.reduceEq, Int.reduceNe, Int.reducePow, Nat.reduceAdd, Nat.reduceMul, Nat.reduceSub, Nat.reduceLT, Nat.reduceLeDiff, Nat.reduceEqDiff, Nat.reduceBEq, Int.reduceLT, Int.reduceLE, Int.reduceAdd, Int.reduceSub, Int.reduceMul, Int.reduceToNat, Int.reduceNeg, reduceIte, reduceCtorEq, reduceBEq]
              refine loopC_of (α := R2S m (fun k => t5.2.a + k * wid f.L ≤ s.length + wid f.L)) (R2S.st o s f p.1 [] t5.2) (fun x => m - x.k) ⟨0, by omega, by (have := Nat.zero_mul (wid f.L); omega)⟩ ?_ ?_
              · (simp only [R2S.st, List.replicate_zero, rnums]; exact Wk.by _ _ _ [(0, 0), (1, 1), (2, 2), (3, 3)] [(50, 50)] [51] (by simp) (by simp [wkV, PV.el, PV.weak, PS.get, PS.obj, PS.lv, lkp_hit, lkp_miss, lkp_nil, lko, wkL, wkC, res1, ints, hB]) (by simp [PS.get, PS.obj, PS.lv, lkp_hit, lkp_miss, lkp_nil, lko, wkL, wkC, PV.weak, wkL, wkC, res1, ints, hB]) (by simp [PS.get, PS.obj, PS.lv, lkp_hit, lkp_miss, lkp_nil, lko]) (by rfl) (by rfl) (by simp [lko]) (by simp) (by simp) (by simp) (fun i hi => absurd hi (Nat.not_lt_zero i)))
              · rintro ⟨k, hk, hkl⟩
                have hkl' : k * 1 ≤ k * wid f.L := Nat.mul_le_mul_left _ hwz.1
                have hle2 := rnums_le (o := o) (s := s) (List.replicate k f.L) (c := t5.2) hm4l
                have hnl2 := rnums_length (o := o) (s := s) (List.replicate k f.L) t5.2
                rw [List.length_replicate] at hnl2
                cases h8 : ((rnums o s (List.replicate k f.L) t5.2).2.e == 0)
                · have hne8 : (rnums o s (List.replicate k f.L) t5.2).2.e ≠ 0 := by simpa using h8
                  rw [rnums_stop k m t5.2 hk hne8] at hRB
                  have hno3 := noughts_fs s hl (rnums o s (List.replicate k f.L) t5.2).2 hle2
                  simp -implicitDefEqProofs only [push_cast, R2S.st, h8, ints_length, Int.reduceBEq, Int.reduceBNe, Int.reduceEq, Int.reduceNe, Int.reducePow, Nat.reduceAdd, Nat.reduceMul, Nat.reduceSub, Nat.reduceLT, Nat.reduceLeDiff, Nat.reduceEqDiff, Nat.reduceBEq, Int.reduceLT, Int.reduceLE, Int.reduceAdd, Int.reduceSub, Int.reduceMul, Int.reduceToNat, Int.reduceNeg, reduceIte, reduceCtorEq, reduceBEq]
                  generalize rnums o s (List.replicate k f.L) t5.2 = q at *
                  refine callE_box hno3 [2] [] (by rfl) (by rfl) (by rfl) (by rfl) (by rfl) (by rfl) (fun i j cs h1 h2 => by (rcases i with _ | i <;> simp at h1 h2 <;> (subst h1; subst h2; exact ⟨_, rfl, (by (repeat' (first | exact wkL_nil | refine wkL_cons ?_ ?_)); all_goals (first | exact .inl ⟨_, _, _, _, rfl, rfl, rfl⟩ | exact .inr (.inr (.inr (.inr (.inl ⟨_, _, _, rfl, rfl, rfl⟩)))) | exact .inr (.inr (.inr (.inr (.inr ⟨_, _, _, _, rfl, rfl, rfl⟩)))) | exact .inr (.inl rfl) | exact .inr (.inr (.inl ⟨_, _, _, rfl, rfl, rfl⟩))))⟩))) (by simp [PS.lv, lkp_hit, lkp_miss, lkp_nil]) (by (repeat' (first | exact wkL_nil | refine wkL_cons ?_ ?_)); all_goals (first | exact .inl ⟨_, _, _, rfl, rfl, rfl⟩ | exact .inr (.inl rfl) | exact .inr (.inr (.inl ⟨_, _, _, _, rfl, rfl, rfl⟩)))) (by decide) (by simp) (by rfl) (by simp [tokLt1]) (fun _ => by rfl) (by first | rfl | simp [gdOk, newToks]) ?_
                  simp -implicitDefEqProofs only [push_cast, hL, Int.reduceBEq, Int.reduceBNe, Int.reduceEq, Int.reduceNe, Int.reducePow, Nat.reduceAdd, Nat.reduceMul, Nat.reduceSub, Nat.reduceLT, Nat.reduceLeDiff, Nat.reduceEqDiff, Nat.reduceBEq, Int.reduceLT, Int.reduceLE, Int.reduceAdd, Int.reduceSub, Int.reduceMul, Int.reduceToNat, Int.reduceNeg, reduceIte, reduceCtorEq, reduceBEq]
                  generalize rfil s q.2 = c9 at *
                  rw [show rgetF o f s = (if getX s c9 = 0 then (⟨p.1, [], q.1⟩, 0) else (fd0, getX s c9)) by rw [rgetF, if_neg hl6, hRB]]
                  obtain ⟨a9, e9⟩ := c9
                  cases h7 : (e9 == 0)
                  · have hne7 : ¬ e9 = 0 := by simpa using h7
                    have hne7' : (e9 != 0) = true := by simpa using h7
                    rw [show getX s ⟨a9, e9⟩ = e9 by rw [getX, if_neg (fun h => hne7 h.1)], if_neg hne7]
                    simp -implicitDefEqProofs only [push_cast, h7, hne7', Int.reduceBEq, Int.reduceBNe, Int.reduceEq, Int.reduceNe, Int.reducePow, Nat.reduceAdd, Nat.reduceMul, Nat.reduceSub, Nat.reduceLT, Nat.reduceLeDiff, Nat.reduceEqDiff, Nat.reduceBEq, Int.reduceLT, Int.reduceLE, Int.reduceAdd, Int.reduceSub, Int.reduceMul, Int.reduceToNat, Int.reduceNeg, reduceIte, reduceCtorEq, reduceBEq]
                    (repeat (first | refine ⟨by omega, ?_⟩ | refine ⟨by simp [maxLen, ints_length]; omega, ?_⟩ | refine ⟨by (unfold drawOk; kernel_rfl), ?_⟩))
                    exact ⟨_, rfl, by simp [wkL, res2, res1, PV.weak, PV.el, Fd.pv, fd0, ints]⟩
                  · obtain rfl : e9 = 0 := by simpa using h7
                    cases h10 : decide ((a9 : Int) < (s.length : Int))
                    · have h10' : ¬ a9 < s.length := by simp at h10; omega
                      rw [show getX s ⟨a9, 0⟩ = 0 by rw [getX, if_neg (fun h => h10' h.2)], if_pos rfl]
                      simp -implicitDefEqProofs only [push_cast, h10, Int.reduceBEq, Int.reduceBNe, Int.reduceEq, Int.reduceNe, Int.reducePow, Nat.reduceAdd, Nat.reduceMul, Nat.reduceSub, Nat.reduceLT, Nat.reduceLeDiff, Nat.reduceEqDiff, Nat.reduceBEq, Int.reduceLT, Int.reduceLE, Int.reduceAdd, Int.reduceSub, Int.reduceMul, Int.reduceToNat, Int.reduceNeg, reduceIte, reduceCtorEq, reduceBEq]
                      skip
                      exact ⟨_, rfl, by simp [wkL, res2, res1, PV.weak, PV.el, Fd.pv, fd0, ints]⟩
                    · have h10' : a9 < s.length := by simp at h10; omega
                      rw [show getX s ⟨a9, 0⟩ = 2 by rw [getX, if_pos ⟨rfl, h10'⟩], if_neg (by decide)]
                      simp -implicitDefEqProofs only [push_cast, h10, Int.reduceBEq, Int.reduceBNe, Int.reduceEq, Int.reduceNe, Int.reducePow, Nat.reduceAdd, Nat.reduceMul, Nat.reduceSub, Nat.reduceLT, Nat.reduceLeDiff, Nat.reduceEqDiff, Nat.reduceBEq, Int.reduceLT, Int.reduceLE, Int.reduceAdd, Int.reduceSub, Int.reduceMul, Int.reduceToNat, Int.reduceNeg, reduceIte, reduceCtorEq, reduceBEq]
                      (repeat (first | refine ⟨by omega, ?_⟩ | refine ⟨by simp [maxLen, ints_length]; omega, ?_⟩ | refine ⟨by (unfold drawOk; kernel_rfl), ?_⟩))
                      exact ⟨_, rfl, by simp [wkL, res2, res1, PV.weak, PV.el, Fd.pv, fd0, ints]⟩
                · have he8 : (rnums o s (List.replicate k f.L) t5.2).2.e = 0 := by simpa using h8
                  simp -implicitDefEqProofs only [push_cast, R2S.st, h8, ints_length, Int.reduceBEq, Int.reduceBNe, Int.reduceEq, Int.reduceNe, Int.reducePow, Nat.reduceAdd, Nat.reduceMul, Nat.reduceSub, Nat.reduceLT, Nat.reduceLeDiff, Nat.reduceEqDiff, Nat.reduceBEq, Int.reduceLT, Int.reduceLE, Int.reduceAdd, Int.reduceSub, Int.reduceMul, Int.reduceToNat, Int.reduceNeg, reduceIte, reduceCtorEq, reduceBEq]
                  refine condC_split (fun h9 => ?_) (fun h9 => ?_)
                  · have hlt : k < m := by simp at h9; omega
                    have hsn := rnums_snoc o s f.L (List.replicate k f.L) t5.2
                    rw [← List.replicate_succ'] at hsn
                    have hroom := rnums_room (o := o) (z := f.L) (s := s) k t5.2.a hm4l
                    rw [show (⟨t5.2.a, 0⟩ : Cu) = t5.2 by rw [← he5]] at hroom
                    have hnx : t5.2.a + (k + 1) * wid f.L ≤ s.length + wid f.L := by
                      rw [Nat.succ_mul]
                      by_cases hh : s.length < t5.2.a + k * wid f.L
                      · rw [if_pos hh] at hroom
                        exact absurd (hroom.1.symm.trans he8) (show ¬ (3 : Int) = 0 by decide)
                      · omega
                    clear hroom
                    generalize rnums o s (List.replicate k f.L) t5.2 = q at *
                    have htq := rtake_fs s hl q.2 hle2 (wid f.L) (by omega)
                    have hqa := tak_len (s := s) (n := wid f.L) (c := q.2)
                    generalize tak s (wid f.L) q.2 = v at *
                    have hwr : IntKind.i64.wrap ((k : Int) + 1) = ((k + 1 : Nat) : Int) := by (rw [wrap_i64_id (by omega) (by omega)]; rfl)
                    simp -implicitDefEqProofs only [push_cast, ints_length, Int.reduceBEq, Int.reduceBNe, Int.reduceEq, Int.reduceNe, Int.reducePow, Nat.reduceAdd, Nat.reduceMul, Nat.reduceSub, Nat.reduceLT, Nat.reduceLeDiff, Nat.reduceEqDiff, Nat.reduceBEq, Int.reduceLT, Int.reduceLE, Int.reduceAdd, Int.reduceSub, Int.reduceMul, Int.reduceToNat, Int.reduceNeg, reduceIte, reduceCtorEq, reduceBEq]
                    refine callE_pure hby5 (by rfl) (by rfl) (by rfl) (by decide) (by rfl) (fun _ => by rfl) (by first | rfl | simp [gdOk, newToks]) ?_
                    simp -implicitDefEqProofs only [push_cast, ints_length, Int.reduceBEq, Int.reduceBNe, Int.reduceEq, Int.reduceNe, Int.reducePow, Nat.reduceAdd, Nat.reduceMul, Nat.reduceSub, Nat.reduceLT, Nat.reduceLeDiff, Nat.reduceEqDiff, Nat.reduceBEq, Int.reduceLT, Int.reduceLE, Int.reduceAdd, Int.reduceSub, Int.reduceMul, Int.reduceToNat, Int.reduceNeg, reduceIte, reduceCtorEq, reduceBEq]
                    refine callE_box htq [2] [] (by rfl) (by rfl) (by rfl) (by rfl) (by rfl) (by rfl) (fun i j cs h1 h2 => by (rcases i with _ | i <;> simp at h1 h2 <;> (subst h1; subst h2; exact ⟨_, rfl, (by (repeat' (first | exact wkL_nil | refine wkL_cons ?_ ?_)); all_goals (first | exact .inl ⟨_, _, _, _, rfl, rfl, rfl⟩ | exact .inr (.inr (.inr (.inr (.inl ⟨_, _, _, rfl, rfl, rfl⟩)))) | exact .inr (.inr (.inr (.inr (.inr ⟨_, _, _, _, rfl, rfl, rfl⟩)))) | exact .inr (.inl rfl) | exact .inr (.inr (.inl ⟨_, _, _, rfl, rfl, rfl⟩))))⟩))) (by simp [PS.lv, lkp_hit, lkp_miss, lkp_nil]) (by (repeat' (first | exact wkL_nil | refine wkL_cons ?_ ?_)); all_goals (first | exact .inl ⟨_, _, _, rfl, rfl, rfl⟩ | exact .inr (.inl rfl) | exact .inr (.inr (.inl ⟨_, _, _, _, rfl, rfl, rfl⟩)))) (by decide) (by simp) (by rfl) (by simp [tokLt1]) (fun _ => by rfl) (by first | rfl | simp [gdOk, newToks]) ?_
                    simp -implicitDefEqProofs only [push_cast, ints_length, Int.reduceBEq, Int.reduceBNe, Int.reduceEq, Int.reduceNe, Int.reducePow, Nat.reduceAdd, Nat.reduceMul, Nat.reduceSub, Nat.reduceLT, Nat.reduceLeDiff, Nat.reduceEqDiff, Nat.reduceBEq, Int.reduceLT, Int.reduceLE, Int.reduceAdd, Int.reduceSub, Int.reduceMul, Int.reduceToNat, Int.reduceNeg, reduceIte, reduceCtorEq, reduceBEq]
                    refine condC_split (fun h4 => ?_) (fun h4 => ?_)
                    · have he : v.2.e = 0 := by simpa using h4
                      rw [if_pos he] at hsn
                      have hvq := rval_fs ho hz v.1 (hqa he)
                      simp -implicitDefEqProofs only [push_cast, ints_length, Int.reduceBEq, Int.reduceBNe, Int.reduceEq, Int.reduceNe, Int.reducePow, Nat.reduceAdd, Nat.reduceMul, Nat.reduceSub, Nat.reduceLT, Nat.reduceLeDiff, Nat.reduceEqDiff, Nat.reduceBEq, Int.reduceLT, Int.reduceLE, Int.reduceAdd, Int.reduceSub, Int.reduceMul, Int.reduceToNat, Int.reduceNeg, reduceIte, reduceCtorEq, reduceBEq]
                      (repeat (first | refine ⟨by omega, ?_⟩ | refine ⟨by simp [maxLen, ints_length]; omega, ?_⟩ | refine ⟨by (unfold drawOk; kernel_rfl), ?_⟩))
                      refine callE_pure hvq (by rfl) (by rfl) (by rfl) (by decide) (by rfl) (fun _ => by rfl) (by first | rfl | simp [gdOk, newToks]) ?_
                      simp -implicitDefEqProofs only [push_cast, ints_length, Int.reduceBEq, Int.reduceBNe, Int.reduceEq, Int.reduceNe, Int.reducePow, Nat.reduceAdd, Nat.reduceMul, Nat.reduceSub, Nat.reduceLT, Nat.reduceLeDiff, Nat.reduceEqDiff, Nat.reduceBEq, Int.reduceLT, Int.reduceLE, Int.reduceAdd, Int.reduceSub, Int.reduceMul, Int.reduceToNat, Int.reduceNeg, reduceIte, reduceCtorEq, reduceBEq]
                      (repeat (first | refine ⟨by omega, ?_⟩ | refine ⟨by simp [maxLen, ints_length]; omega, ?_⟩ | refine ⟨by (unfold drawOk; kernel_rfl), ?_⟩))
                      rw [hwr]
                      skip
                      refine ⟨⟨k + 1, by omega, hnx⟩, by simp only; omega, ?_⟩
                      (simp only [R2S.st, hsn, ← ints_snoc']; exact Wk.by _ _ _ [(0, 0), (1, 1), (2, 2), (3, 3)] [(50, 50), (51, 176)] [] (by simp) (by simp [wkV, PV.el, PV.weak, PS.get, PS.obj, PS.lv, lkp_hit, lkp_miss, lkp_nil, lko, wkL, wkC, res1, ints]) (by simp [PS.get, PS.obj, PS.lv, lkp_hit, lkp_miss, lkp_nil, lko, wkL, wkC, PV.weak, wkL, wkC, res1, ints]) (by simp [PS.get, PS.obj, PS.lv, lkp_hit, lkp_miss, lkp_nil, lko]) (by rfl) (by rfl) (by simp [lko]) (by simp) (by simp) (by simp) (fun i hi => absurd hi (Nat.not_lt_zero i)))
                    · have he : ¬ v.2.e = 0 := by simpa using h4
                      rw [if_neg he] at hsn
                      simp -implicitDefEqProofs only [push_cast, ints_length, Int.reduceBEq, Int.reduceBNe, Int.reduceEq, Int.reduceNe, Int.reducePow, Nat.reduceAdd, Nat.reduceMul, Nat.reduceSub, Nat.reduceLT, Nat.reduceLeDiff, Nat.reduceEqDiff, Nat.reduceBEq, Int.reduceLT, Int.reduceLE, Int.reduceAdd, Int.reduceSub, Int.reduceMul, Int.reduceToNat, Int.reduceNeg, reduceIte, reduceCtorEq, reduceBEq]
                      rw [hwr]
                      refine ⟨⟨k + 1, by omega, hnx⟩, by simp only; omega, ?_⟩
                      (simp only [R2S.st, hsn]; exact Wk.by _ _ _ [(0, 0), (1, 1), (2, 2), (3, 3)] [(50, 50), (51, 51)] [] (by simp) (by simp [wkV, PV.el, PV.weak, PS.get, PS.obj, PS.lv, lkp_hit, lkp_miss, lkp_nil, lko, wkL, wkC, res1, ints]) (by simp [PS.get, PS.obj, PS.lv, lkp_hit, lkp_miss, lkp_nil, lko, wkL, wkC, PV.weak, wkL, wkC, res1, ints]) (by simp [PS.get, PS.obj, PS.lv, lkp_hit, lkp_miss, lkp_nil, lko]) (by rfl) (by rfl) (by simp [lko]) (by simp) (by simp) (by simp) (fun i hi => absurd hi (Nat.not_lt_zero i)))
                  · have hke : k = m := by simp at h9; omega
                    subst hke
                    have hno3 := noughts_fs s hl (rnums o s (List.replicate k f.L) t5.2).2 hle2
                    simp -implicitDefEqProofs only [push_cast, ints_length, Int.reduceBEq, Int.reduceBNe, Int.reduceEq, Int.reduceNe, Int.reducePow, Nat.reduceAdd, Nat.reduceMul, Nat.reduceSub, Nat.reduceLT, Nat.reduceLeDiff, Nat.reduceEqDiff, Nat.reduceBEq, Int.reduceLT, Int.reduceLE, Int.reduceAdd, Int.reduceSub, Int.reduceMul, Int.reduceToNat, Int.reduceNeg, reduceIte, reduceCtorEq, reduceBEq]
                    generalize rnums o s (List.replicate k f.L) t5.2 = q at *
                    refine callE_box hno3 [2] [] (by rfl) (by rfl) (by rfl) (by rfl) (by rfl) (by rfl) (fun i j cs h1 h2 => by (rcases i with _ | i <;> simp at h1 h2 <;> (subst h1; subst h2; exact ⟨_, rfl, (by (repeat' (first | exact wkL_nil | refine wkL_cons ?_ ?_)); all_goals (first | exact .inl ⟨_, _, _, _, rfl, rfl, rfl⟩ | exact .inr (.inr (.inr (.inr (.inl ⟨_, _, _, rfl, rfl, rfl⟩)))) | exact .inr (.inr (.inr (.inr (.inr ⟨_, _, _, _, rfl, rfl, rfl⟩)))) | exact .inr (.inl rfl) | exact .inr (.inr (.inl ⟨_, _, _, rfl, rfl, rfl⟩))))⟩))) (by simp [PS.lv, lkp_hit, lkp_miss, lkp_nil]) (by (repeat' (first | exact wkL_nil | refine wkL_cons ?_ ?_)); all_goals (first | exact .inl ⟨_, _, _, rfl, rfl, rfl⟩ | exact .inr (.inl rfl) | exact .inr (.inr (.inl ⟨_, _, _, _, rfl, rfl, rfl⟩)))) (by decide) (by simp) (by rfl) (by simp [tokLt1]) (fun _ => by rfl) (by first | rfl | simp [gdOk, newToks]) ?_
                    simp -implicitDefEqProofs only [push_cast, hL, Int.reduceBEq, Int.reduceBNe, Int.reduceEq, Int.reduceNe, Int.reducePow, Nat.reduceAdd, Nat.reduceMul, Nat.reduceSub, Nat.reduceLT, Nat.reduceLeDiff, Nat.reduceEqDiff, Nat.reduceBEq, Int.reduceLT, Int.reduceLE, Int.reduceAdd, Int.reduceSub, Int.reduceMul, Int.reduceToNat, Int.reduceNeg, reduceIte, reduceCtorEq, reduceBEq]
                    generalize rfil s q.2 = c9 at *
                    rw [show rgetF o f s = (if getX s c9 = 0 then (⟨p.1, [], q.1⟩, 0) else (fd0, getX s c9)) by rw [rgetF, if_neg hl6, hRB]]
                    obtain ⟨a9, e9⟩ := c9
                    cases h7 : (e9 == 0)
                    · have hne7 : ¬ e9 = 0 := by simpa using h7
                      have hne7' : (e9 != 0) = true := by simpa using h7
                      rw [show getX s ⟨a9, e9⟩ = e9 by rw [getX, if_neg (fun h => hne7 h.1)], if_neg hne7]
                      simp -implicitDefEqProofs only [push_cast, h7, hne7', Int.reduceBEq, Int.reduceBNe, Int.reduceEq, Int.reduceNe, Int.reducePow, Nat.reduceAdd, Nat.reduceMul, Nat.reduceSub, Nat.reduceLT, Nat.reduceLeDiff, Nat.reduceEqDiff, Nat.reduceBEq, Int.reduceLT, Int.reduceLE, Int.reduceAdd, Int.reduceSub, Int.reduceMul, Int.reduceToNat, Int.reduceNeg, reduceIte, reduceCtorEq, reduceBEq]
                      (repeat (first | refine ⟨by omega, ?_⟩ | refine ⟨by simp [maxLen, ints_length]; omega, ?_⟩ | refine ⟨by (unfold drawOk; kernel_rfl), ?_⟩))
                      exact ⟨_, rfl, by simp [wkL, res2, res1, PV.weak, PV.el, Fd.pv, fd0, ints]⟩
                    · obtain rfl : e9 = 0 := by simpa using h7
                      cases h10 : decide ((a9 : Int) < (s.length : Int))
                      · have h10' : ¬ a9 < s.length := by simp at h10; omega
                        rw [show getX s ⟨a9, 0⟩ = 0 by rw [getX, if_neg (fun h => h10' h.2)], if_pos rfl]
                        simp -implicitDefEqProofs only [push_cast, h10, Int.reduceBEq, Int.reduceBNe, Int.reduceEq, Int.reduceNe, Int.reducePow, Nat.reduceAdd, Nat.reduceMul, Nat.reduceSub, Nat.reduceLT, Nat.reduceLeDiff, Nat.reduceEqDiff, Nat.reduceBEq, Int.reduceLT, Int.reduceLE, Int.reduceAdd, Int.reduceSub, Int.reduceMul, Int.reduceToNat, Int.reduceNeg, reduceIte, reduceCtorEq, reduceBEq]
                        skip
                        exact ⟨_, rfl, by simp [wkL, res2, res1, PV.weak, PV.el, Fd.pv, fd0, ints]⟩
                      · have h10' : a9 < s.length := by simp at h10; omega
                        rw [show getX s ⟨a9, 0⟩ = 2 by rw [getX, if_pos ⟨rfl, h10'⟩], if_neg (by decide)]
                        simp -implicitDefEqProofs only [push_cast, h10, Int.reduceBEq, Int.reduceBNe, Int.reduceEq, Int.reduceNe, Int.reducePow, Nat.reduceAdd, Nat.reduceMul, Nat.reduceSub, Nat.reduceLT, Nat.reduceLeDiff, Nat.reduceEqDiff, Nat.reduceBEq, Int.reduceLT, Int.reduceLE, Int.reduceAdd, Int.reduceSub, Int.reduceMul, Int.reduceToNat, Int.reduceNeg, reduceIte, reduceCtorEq, reduceBEq]
                        (repeat (first | refine ⟨by omega, ?_⟩ | refine ⟨by simp [maxLen, ints_length]; omega, ?_⟩ | refine ⟨by (unfold drawOk; kernel_rfl), ?_⟩))
                        exact ⟨_, rfl, by simp [wkL, res2, res1, PV.weak, PV.el, Fd.pv, fd0, ints]⟩
            · have he5 : ¬ t5.2.e = 0 := by simpa using h6
              rw [if_neg he5] at hRB
              have hno4 := noughts_fs s hl t5.2 hm4l
              simp -implicitDefEqProofs only [push_cast, hL, Int.reduceBEq, Int.reduceBNe, Int.reduceEq, Int.reduceNe, Int.reducePow, Nat.reduceAdd, Nat.reduceMul, Nat.reduceSub, Nat.reduceLT, Nat.reduceLeDiff, Nat.reduceEqDiff, Nat.reduceBEq, Int.reduceLT, Int.reduceLE, Int.reduceAdd, Int.reduceSub, Int.reduceMul, Int.reduceToNat, Int.reduceNeg, reduceIte, reduceCtorEq, reduceBEq]
              refine loopC_un 1 ?_
              simp -implicitDefEqProofs only [push_cast, hL, h6, Int.reduceBEq, Int.reduceBNe, Int.reduceEq, Int.reduceNe, Int.reducePow, Nat.reduceAdd, Nat.reduceMul, Nat.reduceSub, Nat.reduceLT, Nat.reduceLeDiff, Nat.reduceEqDiff, Nat.reduceBEq, Int.reduceLT, Int.reduceLE, Int.reduceAdd, Int.reduceSub, Int.reduceMul, Int.reduceToNat, Int.reduceNeg, reduceIte, reduceCtorEq, reduceBEq]
              refine callE_box hno4 [2] [] (by rfl) (by rfl) (by rfl) (by rfl) (by rfl) (by rfl) (fun i j cs h1 h2 => by (rcases i with _ | i <;> simp at h1 h2 <;> (subst h1; subst h2; exact ⟨_, rfl, (by (repeat' (first | exact wkL_nil | refine wkL_cons ?_ ?_)); all_goals (first | exact .inl ⟨_, _, _, _, rfl, rfl, rfl⟩ | exact .inr (.inr (.inr (.inr (.inl ⟨_, _, _, rfl, rfl, rfl⟩)))) | exact .inr (.inr (.inr (.inr (.inr ⟨_, _, _, _, rfl, rfl, rfl⟩)))) | exact .inr (.inl rfl) | exact .inr (.inr (.inl ⟨_, _, _, rfl, rfl, rfl⟩))))⟩))) (by simp [PS.lv, lkp_hit, lkp_miss, lkp_nil]) (by (repeat' (first | exact wkL_nil | refine wkL_cons ?_ ?_)); all_goals (first | exact .inl ⟨_, _, _, rfl, rfl, rfl⟩ | exact .inr (.inl rfl) | exact .inr (.inr (.inl ⟨_, _, _, _, rfl, rfl, rfl⟩)))) (by decide) (by simp) (by rfl) (by simp [tokLt1]) (fun _ => by rfl) (by first | rfl | simp [gdOk, newToks]) ?_
              simp -implicitDefEqProofs only [push_cast, hL, Int.reduceBEq, Int.reduceBNe, Int.reduceEq, Int.reduceNe, Int.reducePow, Nat.reduceAdd, Nat.reduceMul, Nat.reduceSub, Nat.reduceLT, Nat.reduceLeDiff, Nat.reduceEqDiff, Nat.reduceBEq, Int.reduceLT, Int.reduceLE, Int.reduceAdd, Int.reduceSub, Int.reduceMul, Int.reduceToNat, Int.reduceNeg, reduceIte, reduceCtorEq, reduceBEq]
              generalize rfil s t5.2 = c9 at *
              rw [show rgetF o f s = (if getX s c9 = 0 then (⟨p.1, [], []⟩, 0) else (fd0, getX s c9)) by rw [rgetF, if_neg hl6, hRB]]
              obtain ⟨a9, e9⟩ := c9
              cases h7 : (e9 == 0)
              · have hne7 : ¬ e9 = 0 := by simpa using h7
                have hne7' : (e9 != 0) = true := by simpa using h7
                rw [show getX s ⟨a9, e9⟩ = e9 by rw [getX, if_neg (fun h => hne7 h.1)], if_neg hne7]
                simp -implicitDefEqProofs only [push_cast, h7, hne7', Int.reduceBEq, Int.reduceBNe, Int.reduceEq, Int.reduceNe, Int.reducePow, Nat.reduceAdd, Nat.reduceMul, Nat.reduceSub, Nat.reduceLT, Nat.reduceLeDiff, Nat.reduceEqDiff, Nat.reduceBEq, Int.reduceLT, Int.reduceLE, Int.reduceAdd, Int.reduceSub, Int.reduceMul, Int.reduceToNat, Int.reduceNeg, reduceIte, reduceCtorEq, reduceBEq]
                (repeat (first | refine ⟨by omega, ?_⟩ | refine ⟨by simp [maxLen, ints_length]; omega, ?_⟩ | refine ⟨by (unfold drawOk; kernel_rfl), ?_⟩))
                exact ⟨_, rfl, by simp [wkL, res2, res1, PV.weak, PV.el, Fd.pv, fd0, ints]⟩
              · obtain rfl : e9 = 0 := by simpa using h7
                cases h10 : decide ((a9 : Int) < (s.length : Int))
                · have h10' : ¬ a9 < s.length := by simp at h10; omega
                  rw [show getX s ⟨a9, 0⟩ = 0 by rw [getX, if_neg (fun h => h10' h.2)], if_pos rfl]
                  simp -implicitDefEqProofs only [push_cast, h10, Int.reduceBEq, Int.reduceBNe, Int.reduceEq, Int.reduceNe, Int.reducePow, Nat.reduceAdd, Nat.reduceMul, Nat.reduceSub, Nat.reduceLT, Nat.reduceLeDiff, Nat.reduceEqDiff, Nat.reduceBEq, Int.reduceLT, Int.reduceLE, Int.reduceAdd, Int.reduceSub, Int.reduceMul, Int.reduceToNat, Int.reduceNeg, reduceIte, reduceCtorEq, reduceBEq]
                  skip
                  exact ⟨_, rfl, by simp [wkL, res2, res1, PV.weak, PV.el, Fd.pv, fd0, ints]⟩
                · have h10' : a9 < s.length := by simp at h10; omega
                  rw [show getX s ⟨a9, 0⟩ = 2 by rw [getX, if_pos ⟨rfl, h10'⟩], if_neg (by decide)]
                  simp -implicitDefEqProofs only [push_cast, h10, Int.reduceBEq, Int.reduceBNe, Int.reduceEq, Int.reduceNe, Int.reducePow, Nat.reduceAdd, Nat.reduceMul, Nat.reduceSub, Nat.reduceLT, Nat.reduceLeDiff, Nat.reduceEqDiff, Nat.reduceBEq, Int.reduceLT, Int.reduceLE, Int.reduceAdd, Int.reduceSub, Int.reduceMul, Int.reduceToNat, Int.reduceNeg, reduceIte, reduceCtorEq, reduceBEq]
                  (repeat (first | refine ⟨by omega, ?_⟩ | refine ⟨by simp [maxLen, ints_length]; omega, ?_⟩ | refine ⟨by (unfold drawOk; kernel_rfl), ?_⟩))
                  exact ⟨_, rfl, by simp [wkL, res2, res1, PV.weak, PV.el, Fd.pv, fd0, ints]⟩

end Go.Proofs.Sh

/- The document's layer 5: Length, Get. -/
set_option maxRecDepth 100000
set_option linter.unusedSimpArgs false
set_option linter.unusedVariables false
namespace Go.Proofs.Sh
open Go.Pv

theorem readV_le {o : Int} {z : Int} {b : List UInt8} (hz : isSize z) (hp : 0 < z) (h : b.length = wid z) : readV o z b = (decU o b : Int) := by
  have := decU_lt o b
  rw [h] at this
  rw [readV, if_neg]
  rcases hz with rfl | rfl | rfl | rfl | rfl | rfl
  · have h1 : decU o b < 256 := this
    rw [show high 1 = 255 by decide]; simp; omega
  · have h1 : decU o b < 65536 := this
    rw [show high 2 = 65535 by decide]; simp; omega
  · have h1 : decU o b < 4294967296 := this
    rw [show high 4 = 4294967295 by decide]; simp; omega
  · omega
  · omega
  · omega
set_option maxHeartbeats 4000000 in
theorem refLength_fs (o : Int) (s : List UInt8) : Fsp Tryd.prog 14 [] 0 [.int .i64 o, .str s] [] 0 (.tup [.int .i64 (tlenR o s).1, .int .i64 (tlenR o s).2]) := by
  cases ho : isOrd o
  · rw [show tlenR o s = (0, 8) by rw [tlenR, if_neg (by rw [ho]; simp)]]
    have ho0 : (o != 0) = true := by simp [isOrd] at ho; simp; exact ho.1
    have ho1 : (o != 1) = true := by simp [isOrd] at ho; simp; exact ho.2
    (refine Fsp.of (nx := 0) mixed Tryd.func14 rfl (by decide) (by first | exact Nat.le_refl _ | simp) (by simp [Tryd.f14]) ⟨by decide, by decide⟩ ?_; simp -implicitDefEqProofs only [push_cast, Tryd.f14, ho0, ho1, Int.reduceBEq, Int.reduceBNe, Int.reduceEq, Int.reduceNe, Int.reducePow, Nat.reduceAdd, Nat.reduceMul, Nat.reduceSub, Nat.reduceLT, Nat.reduceLeDiff, Nat.reduceEqDiff, Nat.reduceBEq, Int.reduceLT, Int.reduceLE, Int.reduceAdd, Int.reduceSub, Int.reduceMul, Int.reduceToNat, Int.reduceNeg, reduceIte, reduceCtorEq, reduceBEq])
    (repeat (first | refine ⟨by omega, ?_⟩ | refine ⟨by (unfold drawOk; kernel_rfl), ?_⟩))
    all_goals first | done | exact ⟨_, rfl, by simp [wkL, res2, res1, res3, PV.weak, PV.el, ints, ot0, Ot.pv]⟩ | simp [wkL, res2, res1, res3, PV.weak, PV.el, ints, ot0, Ot.pv]
  · have hor := isOrd_of ho
    have hoo : (o != 0 && o != 1) = false := by rcases hor with rfl | rfl <;> rfl
    cases h1 : decide ((s.length : Int) < 8)
    · have h1' : ¬ s.length < 8 := by simp at h1; omega
      have h8 : 8 ≤ s.length := by omega
      have hq := rform_fs ((s.getD 0 0).toNat : Int) ((s.getD 1 0).toNat : Int)
      cases hf : tform s with
      | none =>
        have hf' : mForm ((s.getD 0 0).toNat : Int) ((s.getD 1 0).toNat : Int) = none := hf
        rw [mFormR_none hf'] at hq
        rw [tlenR_none ho h1' hf]
        have he : (terr s != 0) = true := mErr_ne _
        unfold terr at he ⊢
        (refine Fsp.of (nx := 0) mixed Tryd.func14 rfl (by decide) (by first | exact Nat.le_refl _ | simp) (by simp [Tryd.f14]) ⟨by decide, by decide⟩ ?_; simp -implicitDefEqProofs only [push_cast, Tryd.f14, Int.reduceBEq, Int.reduceBNe, Int.reduceEq, Int.reduceNe, Int.reducePow, Nat.reduceAdd, Nat.reduceMul, Nat.reduceSub, Nat.reduceLT, Nat.reduceLeDiff, Nat.reduceEqDiff, Nat.reduceBEq, Int.reduceLT, Int.reduceLE, Int.reduceAdd, Int.reduceSub, Int.reduceMul, Int.reduceToNat, Int.reduceNeg, reduceIte, reduceCtorEq, reduceBEq])
        refine condC_split (fun hoo' => ?_) (fun _ => ?_)
        · rw [hoo] at hoo'; cases hoo'
        simp -implicitDefEqProofs only [push_cast, h1, wb, Int.reduceBEq, Int.reduceBNe, Int.reduceEq, Int.reduceNe, Int.reducePow, Nat.reduceAdd, Nat.reduceMul, Nat.reduceSub, Nat.reduceLT, Nat.reduceLeDiff, Nat.reduceEqDiff, Nat.reduceBEq, Int.reduceLT, Int.reduceLE, Int.reduceAdd, Int.reduceSub, Int.reduceMul, Int.reduceToNat, Int.reduceNeg, reduceIte, reduceCtorEq, reduceBEq]
        (repeat (first | refine ⟨by omega, ?_⟩ | refine ⟨by (unfold drawOk; kernel_rfl), ?_⟩))
        refine callE_pure hq (by rfl) (by rfl) (by rfl) (by decide) (by rfl) (fun _ => by rfl) (by first | rfl | simp [gdOk, newToks]) ?_
        simp -implicitDefEqProofs only [push_cast, he, Int.reduceBEq, Int.reduceBNe, Int.reduceEq, Int.reduceNe, Int.reducePow, Nat.reduceAdd, Nat.reduceMul, Nat.reduceSub, Nat.reduceLT, Nat.reduceLeDiff, Nat.reduceEqDiff, Nat.reduceBEq, Int.reduceLT, Int.reduceLE, Int.reduceAdd, Int.reduceSub, Int.reduceMul, Int.reduceToNat, Int.reduceNeg, reduceIte, reduceCtorEq, reduceBEq]
        (repeat (first | refine ⟨by omega, ?_⟩ | refine ⟨by (unfold drawOk; kernel_rfl), ?_⟩))
        all_goals first | done | exact ⟨_, rfl, by simp [wkL, res2, res1, res3, PV.weak, PV.el, ints, ot0, Ot.pv]⟩ | simp [wkL, res2, res1, res3, PV.weak, PV.el, ints, ot0, Ot.pv]
      | some f =>
        have hf' : mForm ((s.getD 0 0).toNat : Int) ((s.getD 1 0).toNat : Int) = some f := hf
        rw [mFormR_some hf'] at hq
        simp only [Fm.pv] at hq
        have hl4 : ((s.drop 4).take 4).length = 4 := four_len h8
        have hg := rval_fs hor (s := 4) (by unfold isSize; omega) ((s.drop 4).take 4) hl4
        rw [readV_le (by unfold isSize; omega) (by omega) hl4, show decU o ((s.drop 4).take 4) = words o s from rfl] at hg
        have hn := words_lt (o := o) h8
        rw [tlenR_some ho h1' hf, tlenW]
        generalize words o s = n at *
        cases h2 : decide ((n : Int) < 2)
        · have h2' : ¬ n < 2 := by simp at h2; omega
          rw [if_neg h2']
          cases h3 : decide ((16386 : Int) < (n : Int))
          · have h3' : ¬ 16386 < n := by simp at h3; omega
            have hw : IntKind.i64.wrap (4 * (n : Int)) = 4 * (n : Int) := by rw [wrap_i64_id (by omega) (by omega)]
            rw [if_neg h3']
            (refine Fsp.of (nx := 0) mixed Tryd.func14 rfl (by decide) (by first | exact Nat.le_refl _ | simp) (by simp [Tryd.f14]) ⟨by decide, by decide⟩ ?_; simp -implicitDefEqProofs only [push_cast, Tryd.f14, Int.reduceBEq, Int.reduceBNe, Int.reduceEq, Int.reduceNe, Int.reducePow, Nat.reduceAdd, Nat.reduceMul, Nat.reduceSub, Nat.reduceLT, Nat.reduceLeDiff, Nat.reduceEqDiff, Nat.reduceBEq, Int.reduceLT, Int.reduceLE, Int.reduceAdd, Int.reduceSub, Int.reduceMul, Int.reduceToNat, Int.reduceNeg, reduceIte, reduceCtorEq, reduceBEq])
            refine condC_split (fun hoo' => ?_) (fun _ => ?_)
            · rw [hoo] at hoo'; cases hoo'
            simp -implicitDefEqProofs only [push_cast, h1, wb, Int.reduceBEq, Int.reduceBNe, Int.reduceEq, Int.reduceNe, Int.reducePow, Nat.reduceAdd, Nat.reduceMul, Nat.reduceSub, Nat.reduceLT, Nat.reduceLeDiff, Nat.reduceEqDiff, Nat.reduceBEq, Int.reduceLT, Int.reduceLE, Int.reduceAdd, Int.reduceSub, Int.reduceMul, Int.reduceToNat, Int.reduceNeg, reduceIte, reduceCtorEq, reduceBEq]
            (repeat (first | refine ⟨by omega, ?_⟩ | refine ⟨by (unfold drawOk; kernel_rfl), ?_⟩))
            refine callE_pure hq (by rfl) (by rfl) (by rfl) (by decide) (by rfl) (fun _ => by rfl) (by first | rfl | simp [gdOk, newToks]) ?_
            simp -implicitDefEqProofs only [push_cast, Int.reduceBEq, Int.reduceBNe, Int.reduceEq, Int.reduceNe, Int.reducePow, Nat.reduceAdd, Nat.reduceMul, Nat.reduceSub, Nat.reduceLT, Nat.reduceLeDiff, Nat.reduceEqDiff, Nat.reduceBEq, Int.reduceLT, Int.reduceLE, Int.reduceAdd, Int.reduceSub, Int.reduceMul, Int.reduceToNat, Int.reduceNeg, reduceIte, reduceCtorEq, reduceBEq]
            (repeat (first | refine ⟨by omega, ?_⟩ | refine ⟨by (unfold drawOk; kernel_rfl), ?_⟩))
            refine callE_pure hg (by rfl) (by rfl) (by rfl) (by decide) (by rfl) (fun _ => by rfl) (by first | rfl | simp [gdOk, newToks]) ?_
            simp -implicitDefEqProofs only [push_cast, h2, h3, hw, Int.reduceBEq, Int.reduceBNe, Int.reduceEq, Int.reduceNe, Int.reducePow, Nat.reduceAdd, Nat.reduceMul, Nat.reduceSub, Nat.reduceLT, Nat.reduceLeDiff, Nat.reduceEqDiff, Nat.reduceBEq, Int.reduceLT, Int.reduceLE, Int.reduceAdd, Int.reduceSub, Int.reduceMul, Int.reduceToNat, Int.reduceNeg, reduceIte, reduceCtorEq, reduceBEq]
            (repeat (first | refine ⟨by omega, ?_⟩ | refine ⟨by (unfold drawOk; kernel_rfl), ?_⟩))
            all_goals first | done | exact ⟨_, rfl, by simp [wkL, res2, res1, res3, PV.weak, PV.el, ints, ot0, Ot.pv]⟩ | simp [wkL, res2, res1, res3, PV.weak, PV.el, ints, ot0, Ot.pv]
          · have h3' : 16386 < n := by simp at h3; omega
            rw [if_pos h3']
            (refine Fsp.of (nx := 0) mixed Tryd.func14 rfl (by decide) (by first | exact Nat.le_refl _ | simp) (by simp [Tryd.f14]) ⟨by decide, by decide⟩ ?_; simp -implicitDefEqProofs only [push_cast, Tryd.f14, Int.reduceBEq, Int.reduceBNe, Int.reduceEq, Int.reduceNe, Int.reducePow, Nat.reduceAdd, Nat.reduceMul, Nat.reduceSub, Nat.reduceLT, Nat.reduceLeDiff, Nat.reduceEqDiff, Nat.reduceBEq, Int.reduceLT, Int.reduceLE, Int.reduceAdd, Int.reduceSub, Int.reduceMul, Int.reduceToNat, Int.reduceNeg, reduceIte, reduceCtorEq, reduceBEq])
            refine condC_split (fun hoo' => ?_) (fun _ => ?_)
            · rw [hoo] at hoo'; cases hoo'
            simp -implicitDefEqProofs only [push_cast, h1, wb, Int.reduceBEq, Int.reduceBNe, Int.reduceEq, Int.reduceNe, Int.reducePow, Nat.reduceAdd, Nat.reduceMul, Nat.reduceSub, Nat.reduceLT, Nat.reduceLeDiff, Nat.reduceEqDiff, Nat.reduceBEq, Int.reduceLT, Int.reduceLE, Int.reduceAdd, Int.reduceSub, Int.reduceMul, Int.reduceToNat, Int.reduceNeg, reduceIte, reduceCtorEq, reduceBEq]
            (repeat (first | refine ⟨by omega, ?_⟩ | refine ⟨by (unfold drawOk; kernel_rfl), ?_⟩))
            refine callE_pure hq (by rfl) (by rfl) (by rfl) (by decide) (by rfl) (fun _ => by rfl) (by first | rfl | simp [gdOk, newToks]) ?_
            simp -implicitDefEqProofs only [push_cast, Int.reduceBEq, Int.reduceBNe, Int.reduceEq, Int.reduceNe, Int.reducePow, Nat.reduceAdd, Nat.reduceMul, Nat.reduceSub, Nat.reduceLT, Nat.reduceLeDiff, Nat.reduceEqDiff, Nat.reduceBEq, Int.reduceLT, Int.reduceLE, Int.reduceAdd, Int.reduceSub, Int.reduceMul, Int.reduceToNat, Int.reduceNeg, reduceIte, reduceCtorEq, reduceBEq]
            (repeat (first | refine ⟨by omega, ?_⟩ | refine ⟨by (unfold drawOk; kernel_rfl), ?_⟩))
            refine callE_pure hg (by rfl) (by rfl) (by rfl) (by decide) (by rfl) (fun _ => by rfl) (by first | rfl | simp [gdOk, newToks]) ?_
            simp -implicitDefEqProofs only [push_cast, h2, h3, Int.reduceBEq, Int.reduceBNe, Int.reduceEq, Int.reduceNe, Int.reducePow, Nat.reduceAdd, Nat.reduceMul, Nat.reduceSub, Nat.reduceLT, Nat.reduceLeDiff, Nat.reduceEqDiff, Nat.reduceBEq, Int.reduceLT, Int.reduceLE, Int.reduceAdd, Int.reduceSub, Int.reduceMul, Int.reduceToNat, Int.reduceNeg, reduceIte, reduceCtorEq, reduceBEq]
            (repeat (first | refine ⟨by omega, ?_⟩ | refine ⟨by (unfold drawOk; kernel_rfl), ?_⟩))
            all_goals first | done | exact ⟨_, rfl, by simp [wkL, res2, res1, res3, PV.weak, PV.el, ints, ot0, Ot.pv]⟩ | simp [wkL, res2, res1, res3, PV.weak, PV.el, ints, ot0, Ot.pv]
        · have h2' : n < 2 := by simp at h2; omega
          rw [if_pos h2']
          (refine Fsp.of (nx := 0) mixed Tryd.func14 rfl (by decide) (by first | exact Nat.le_refl _ | simp) (by simp [Tryd.f14]) ⟨by decide, by decide⟩ ?_; simp -implicitDefEqProofs only [push_cast, Tryd.f14, Int.reduceBEq, Int.reduceBNe, Int.reduceEq, Int.reduceNe, Int.reducePow, Nat.reduceAdd, Nat.reduceMul, Nat.reduceSub, Nat.reduceLT, Nat.reduceLeDiff, Nat.reduceEqDiff, Nat.reduceBEq, Int.reduceLT, Int.reduceLE, Int.reduceAdd, Int.reduceSub, Int.reduceMul, Int.reduceToNat, Int.reduceNeg, reduceIte, reduceCtorEq, reduceBEq])
          refine condC_split (fun hoo' => ?_) (fun _ => ?_)
          · rw [hoo] at hoo'; cases hoo'
          simp -implicitDefEqProofs only [push_cast, h1, wb, Int.reduceBEq, Int.reduceBNe, Int.reduceEq, Int.reduceNe, Int.reducePow, Nat.reduceAdd, Nat.reduceMul, Nat.reduceSub, Nat.reduceLT, Nat.reduceLeDiff, Nat.reduceEqDiff, Nat.reduceBEq, Int.reduceLT, Int.reduceLE, Int.reduceAdd, Int.reduceSub, Int.reduceMul, Int.reduceToNat, Int.reduceNeg, reduceIte, reduceCtorEq, reduceBEq]
          (repeat (first | refine ⟨by omega, ?_⟩ | refine ⟨by (unfold drawOk; kernel_rfl), ?_⟩))
          refine callE_pure hq (by rfl) (by rfl) (by rfl) (by decide) (by rfl) (fun _ => by rfl) (by first | rfl | simp [gdOk, newToks]) ?_
          simp -implicitDefEqProofs only [push_cast, Int.reduceBEq, Int.reduceBNe, Int.reduceEq, Int.reduceNe, Int.reducePow, Nat.reduceAdd, Nat.reduceMul, Nat.reduceSub, Nat.reduceLT, Nat.reduceLeDiff, Nat.reduceEqDiff, Nat.reduceBEq, Int.reduceLT, Int.reduceLE, Int.reduceAdd, Int.reduceSub, Int.reduceMul, Int.reduceToNat, Int.reduceNeg, reduceIte, reduceCtorEq, reduceBEq]
          (repeat (first | refine ⟨by omega, ?_⟩ | refine ⟨by (unfold drawOk; kernel_rfl), ?_⟩))
          refine callE_pure hg (by rfl) (by rfl) (by rfl) (by decide) (by rfl) (fun _ => by rfl) (by first | rfl | simp [gdOk, newToks]) ?_
          simp -implicitDefEqProofs only [push_cast, h2, Int.reduceBEq, Int.reduceBNe, Int.reduceEq, Int.reduceNe, Int.reducePow, Nat.reduceAdd, Nat.reduceMul, Nat.reduceSub, Nat.reduceLT, Nat.reduceLeDiff, Nat.reduceEqDiff, Nat.reduceBEq, Int.reduceLT, Int.reduceLE, Int.reduceAdd, Int.reduceSub, Int.reduceMul, Int.reduceToNat, Int.reduceNeg, reduceIte, reduceCtorEq, reduceBEq]
          (repeat (first | refine ⟨by omega, ?_⟩ | refine ⟨by (unfold drawOk; kernel_rfl), ?_⟩))
          all_goals first | done | exact ⟨_, rfl, by simp [wkL, res2, res1, res3, PV.weak, PV.el, ints, ot0, Ot.pv]⟩ | simp [wkL, res2, res1, res3, PV.weak, PV.el, ints, ot0, Ot.pv]
    · have h1' : s.length < 8 := by simp at h1; omega
      rw [show tlenR o s = (0, 3) by rw [tlenR, if_pos ho, if_pos h1']]
      (refine Fsp.of (nx := 0) mixed Tryd.func14 rfl (by decide) (by first | exact Nat.le_refl _ | simp) (by simp [Tryd.f14]) ⟨by decide, by decide⟩ ?_; simp -implicitDefEqProofs only [push_cast, Tryd.f14, Int.reduceBEq, Int.reduceBNe, Int.reduceEq, Int.reduceNe, Int.reducePow, Nat.reduceAdd, Nat.reduceMul, Nat.reduceSub, Nat.reduceLT, Nat.reduceLeDiff, Nat.reduceEqDiff, Nat.reduceBEq, Int.reduceLT, Int.reduceLE, Int.reduceAdd, Int.reduceSub, Int.reduceMul, Int.reduceToNat, Int.reduceNeg, reduceIte, reduceCtorEq, reduceBEq])
      refine condC_split (fun hoo' => ?_) (fun _ => ?_)
      · rw [hoo] at hoo'; cases hoo'
      simp -implicitDefEqProofs only [push_cast, h1, Int.reduceBEq, Int.reduceBNe, Int.reduceEq, Int.reduceNe, Int.reducePow, Nat.reduceAdd, Nat.reduceMul, Nat.reduceSub, Nat.reduceLT, Nat.reduceLeDiff, Nat.reduceEqDiff, Nat.reduceBEq, Int.reduceLT, Int.reduceLE, Int.reduceAdd, Int.reduceSub, Int.reduceMul, Int.reduceToNat, Int.reduceNeg, reduceIte, reduceCtorEq, reduceBEq]
      (repeat (first | refine ⟨by omega, ?_⟩ | refine ⟨by (unfold drawOk; kernel_rfl), ?_⟩))
      all_goals first | done | exact ⟨_, rfl, by simp [wkL, res2, res1, res3, PV.weak, PV.el, ints, ot0, Ot.pv]⟩ | simp [wkL, res2, res1, res3, PV.weak, PV.el, ints, ot0, Ot.pv]

set_option maxHeartbeats 4000000 in
theorem refGet_fs (o : Int) (s : List UInt8) (hs : s.length ≤ 900000) : Fsp Tryd.prog 12 [] 0 [.int .i64 o, .str s] [] 0 (tellGR o s) := by
  have hp := refLength_fs o s
  rw [tellGR]
  by_cases h0 : (tlenR o s).2 = 0
  · obtain ⟨ho, h8, ⟨f, hf⟩, hL, hn1, hn2⟩ := tlen_ok h0
    have hor := isOrd_of ho
    have hq := rform_fs ((s.getD 0 0).toNat : Int) ((s.getD 1 0).toNat : Int)
    have hf' : mForm ((s.getD 0 0).toNat : Int) ((s.getD 1 0).toNat : Int) = some f := hf
    rw [mFormR_some hf'] at hq
    simp only [Fm.pv] at hq
    obtain ⟨hok, -⟩ := mForm_some hf'
    rw [tellG, if_pos h0, hf]
    rw [hL] at hp ⊢
    simp only at hp ⊢
    rw [Int.toNat_natCast]
    obtain ⟨n, hn⟩ : ∃ n, n = 4 * words o s := ⟨_, rfl⟩
    rw [← hn] at hp ⊢
    have sq3 := (seq_get (o := o) h8).2.2
    have hl2 : ((s.drop 2).take 2).length = 2 := by simp; omega
    have hg2 := rval_fs hor (s := 2) (by unfold isSize; omega) ((s.drop 2).take 2) hl2
    rw [readV_le (by unfold isSize; omega) (by omega) hl2, show decU o ((s.drop 2).take 2) = seqOf o s from rfl] at hg2
    have wsq : IntKind.i64.wrap (seqOf o s : Int) = (seqOf o s : Int) := by rw [wrap_i64_id (by omega) (by omega)]
    generalize seqOf o s = q at *
    cases h2 : decide ((s.length : Int) < (n : Int))
    · have h2' : ¬ (s.length : Int) < (n : Int) := by simpa using h2
      rw [if_neg h2']
      have htd : (s.drop 8).take (n - 8) = (s.take n).drop 8 := (List.drop_take ..).symm
      have hgf := rget_fs hor f hok ((s.take n).drop 8) (by simp; omega)
      simp only [rgetR, rgetF_eq hor hok, Fm.pv] at hgf
      have g0 : 0 < s.length := by omega
      have g1 : 1 < s.length := by omega
      generalize getF o f ((s.take n).drop 8) = x at *
      obtain ⟨x, xe⟩ := x
      simp only [Fd.pv] at hgf
      simp only
      cases h5 : (xe != 0)
      · have h5' : xe = 0 := by simpa using h5
        rw [if_pos h5']
        (refine Fsp.of (nx := 0) mixed Tryd.func12 rfl (by decide) (by first | exact Nat.le_refl _ | simp) (by simp [Tryd.f12]) ⟨by decide, by decide⟩ ?_; simp -implicitDefEqProofs only [push_cast, Tryd.f12, Int.reduceBEq, Int.reduceBNe, Int.reduceEq, Int.reduceNe, Int.reducePow, Nat.reduceAdd, Nat.reduceMul, Nat.reduceSub, Nat.reduceLT, Nat.reduceLeDiff, Nat.reduceEqDiff, Nat.reduceBEq, Int.reduceLT, Int.reduceLE, Int.reduceAdd, Int.reduceSub, Int.reduceMul, Int.reduceToNat, Int.reduceNeg, reduceIte, reduceCtorEq, reduceBEq])
        refine callE_pure hp (by rfl) (by rfl) (by rfl) (by decide) (by rfl) (fun _ => by rfl) (by first | rfl | simp [gdOk, newToks]) ?_
        simp -implicitDefEqProofs only [push_cast, h2, wb, Int.reduceBEq, Int.reduceBNe, Int.reduceEq, Int.reduceNe, Int.reducePow, Nat.reduceAdd, Nat.reduceMul, Nat.reduceSub, Nat.reduceLT, Nat.reduceLeDiff, Nat.reduceEqDiff, Nat.reduceBEq, Int.reduceLT, Int.reduceLE, Int.reduceAdd, Int.reduceSub, Int.reduceMul, Int.reduceToNat, Int.reduceNeg, reduceIte, reduceCtorEq, reduceBEq]
        (repeat (first | refine ⟨by omega, ?_⟩ | refine ⟨by (unfold drawOk; kernel_rfl), ?_⟩))
        refine callE_pure hq (by rfl) (by rfl) (by rfl) (by decide) (by rfl) (fun _ => by rfl) (by first | rfl | simp [gdOk, newToks]) ?_
        simp -implicitDefEqProofs only [push_cast, htd, Int.reduceBEq, Int.reduceBNe, Int.reduceEq, Int.reduceNe, Int.reducePow, Nat.reduceAdd, Nat.reduceMul, Nat.reduceSub, Nat.reduceLT, Nat.reduceLeDiff, Nat.reduceEqDiff, Nat.reduceBEq, Int.reduceLT, Int.reduceLE, Int.reduceAdd, Int.reduceSub, Int.reduceMul, Int.reduceToNat, Int.reduceNeg, reduceIte, reduceCtorEq, reduceBEq]
        (repeat (first | refine ⟨by omega, ?_⟩ | refine ⟨by (unfold drawOk; kernel_rfl), ?_⟩))
        refine callE_pure hgf (by rfl) (by rfl) (by rfl) (by decide) (by rfl) (fun _ => by rfl) (by first | rfl | simp [gdOk, newToks]) ?_
        simp -implicitDefEqProofs only [push_cast, h5, wb, wsq, Int.reduceBEq, Int.reduceBNe, Int.reduceEq, Int.reduceNe, Int.reducePow, Nat.reduceAdd, Nat.reduceMul, Nat.reduceSub, Nat.reduceLT, Nat.reduceLeDiff, Nat.reduceEqDiff, Nat.reduceBEq, Int.reduceLT, Int.reduceLE, Int.reduceAdd, Int.reduceSub, Int.reduceMul, Int.reduceToNat, Int.reduceNeg, reduceIte, reduceCtorEq, reduceBEq]
        (repeat (first | refine ⟨by omega, ?_⟩ | refine ⟨by (unfold drawOk; kernel_rfl), ?_⟩))
        refine callE_pure hg2 (by rfl) (by rfl) (by rfl) (by decide) (by rfl) (fun _ => by rfl) (by first | rfl | simp [gdOk, newToks]) ?_
        simp -implicitDefEqProofs only [push_cast, h5, wb, wsq, Int.reduceBEq, Int.reduceBNe, Int.reduceEq, Int.reduceNe, Int.reducePow, Nat.reduceAdd, Nat.reduceMul, Nat.reduceSub, Nat.reduceLT, Nat.reduceLeDiff, Nat.reduceEqDiff, Nat.reduceBEq, Int.reduceLT, Int.reduceLE, Int.reduceAdd, Int.reduceSub, Int.reduceMul, Int.reduceToNat, Int.reduceNeg, reduceIte, reduceCtorEq, reduceBEq]
        (repeat (first | refine ⟨by omega, ?_⟩ | refine ⟨by (unfold drawOk; kernel_rfl), ?_⟩))
        (repeat (first | refine ⟨by omega, ?_⟩ | refine ⟨by (unfold drawOk; kernel_rfl), ?_⟩))
        all_goals first | done | exact ⟨_, rfl, by simp [wkL, res2, res1, res3, PV.weak, PV.el, ints, ot0, Ot.pv]⟩ | simp [wkL, res2, res1, res3, PV.weak, PV.el, ints, ot0, Ot.pv]
      · have h5' : ¬ xe = 0 := by simpa using h5
        rw [if_neg h5']
        (refine Fsp.of (nx := 0) mixed Tryd.func12 rfl (by decide) (by first | exact Nat.le_refl _ | simp) (by simp [Tryd.f12]) ⟨by decide, by decide⟩ ?_; simp -implicitDefEqProofs only [push_cast, Tryd.f12, Int.reduceBEq, Int.reduceBNe, Int.reduceEq, Int.reduceNe, Int.reducePow, Nat.reduceAdd, Nat.reduceMul, Nat.reduceSub, Nat.reduceLT, Nat.reduceLeDiff, Nat.reduceEqDiff, Nat.reduceBEq, Int.reduceLT, Int.reduceLE, Int.reduceAdd, Int.reduceSub, Int.reduceMul, Int.reduceToNat, Int.reduceNeg, reduceIte, reduceCtorEq, reduceBEq])
        refine callE_pure hp (by rfl) (by rfl) (by rfl) (by decide) (by rfl) (fun _ => by rfl) (by first | rfl | simp [gdOk, newToks]) ?_
        simp -implicitDefEqProofs only [push_cast, h2, wb, Int.reduceBEq, Int.reduceBNe, Int.reduceEq, Int.reduceNe, Int.reducePow, Nat.reduceAdd, Nat.reduceMul, Nat.reduceSub, Nat.reduceLT, Nat.reduceLeDiff, Nat.reduceEqDiff, Nat.reduceBEq, Int.reduceLT, Int.reduceLE, Int.reduceAdd, Int.reduceSub, Int.reduceMul, Int.reduceToNat, Int.reduceNeg, reduceIte, reduceCtorEq, reduceBEq]
        (repeat (first | refine ⟨by omega, ?_⟩ | refine ⟨by (unfold drawOk; kernel_rfl), ?_⟩))
        refine callE_pure hq (by rfl) (by rfl) (by rfl) (by decide) (by rfl) (fun _ => by rfl) (by first | rfl | simp [gdOk, newToks]) ?_
        simp -implicitDefEqProofs only [push_cast, htd, Int.reduceBEq, Int.reduceBNe, Int.reduceEq, Int.reduceNe, Int.reducePow, Nat.reduceAdd, Nat.reduceMul, Nat.reduceSub, Nat.reduceLT, Nat.reduceLeDiff, Nat.reduceEqDiff, Nat.reduceBEq, Int.reduceLT, Int.reduceLE, Int.reduceAdd, Int.reduceSub, Int.reduceMul, Int.reduceToNat, Int.reduceNeg, reduceIte, reduceCtorEq, reduceBEq]
        (repeat (first | refine ⟨by omega, ?_⟩ | refine ⟨by (unfold drawOk; kernel_rfl), ?_⟩))
        refine callE_pure hgf (by rfl) (by rfl) (by rfl) (by decide) (by rfl) (fun _ => by rfl) (by first | rfl | simp [gdOk, newToks]) ?_
        simp -implicitDefEqProofs only [push_cast, h5, Int.reduceBEq, Int.reduceBNe, Int.reduceEq, Int.reduceNe, Int.reducePow, Nat.reduceAdd, Nat.reduceMul, Nat.reduceSub, Nat.reduceLT, Nat.reduceLeDiff, Nat.reduceEqDiff, Nat.reduceBEq, Int.reduceLT, Int.reduceLE, Int.reduceAdd, Int.reduceSub, Int.reduceMul, Int.reduceToNat, Int.reduceNeg, reduceIte, reduceCtorEq, reduceBEq]
        (repeat (first | refine ⟨by omega, ?_⟩ | refine ⟨by (unfold drawOk; kernel_rfl), ?_⟩))
        (repeat (first | refine ⟨by omega, ?_⟩ | refine ⟨by (unfold drawOk; kernel_rfl), ?_⟩))
        all_goals first | done | exact ⟨_, rfl, by simp [wkL, res2, res1, res3, PV.weak, PV.el, ints, ot0, Ot.pv]⟩ | simp [wkL, res2, res1, res3, PV.weak, PV.el, ints, ot0, Ot.pv]
    · have h2' : (s.length : Int) < (n : Int) := by simpa using h2
      rw [if_pos h2']
      (refine Fsp.of (nx := 0) mixed Tryd.func12 rfl (by decide) (by first | exact Nat.le_refl _ | simp) (by simp [Tryd.f12]) ⟨by decide, by decide⟩ ?_; simp -implicitDefEqProofs only [push_cast, Tryd.f12, Int.reduceBEq, Int.reduceBNe, Int.reduceEq, Int.reduceNe, Int.reducePow, Nat.reduceAdd, Nat.reduceMul, Nat.reduceSub, Nat.reduceLT, Nat.reduceLeDiff, Nat.reduceEqDiff, Nat.reduceBEq, Int.reduceLT, Int.reduceLE, Int.reduceAdd, Int.reduceSub, Int.reduceMul, Int.reduceToNat, Int.reduceNeg, reduceIte, reduceCtorEq, reduceBEq])
      refine callE_pure hp (by rfl) (by rfl) (by rfl) (by decide) (by rfl) (fun _ => by rfl) (by first | rfl | simp [gdOk, newToks]) ?_
      simp -implicitDefEqProofs only [push_cast, h2, Int.reduceBEq, Int.reduceBNe, Int.reduceEq, Int.reduceNe, Int.reducePow, Nat.reduceAdd, Nat.reduceMul, Nat.reduceSub, Nat.reduceLT, Nat.reduceLeDiff, Nat.reduceEqDiff, Nat.reduceBEq, Int.reduceLT, Int.reduceLE, Int.reduceAdd, Int.reduceSub, Int.reduceMul, Int.reduceToNat, Int.reduceNeg, reduceIte, reduceCtorEq, reduceBEq]
      (repeat (first | refine ⟨by omega, ?_⟩ | refine ⟨by (unfold drawOk; kernel_rfl), ?_⟩))
      (repeat (first | refine ⟨by omega, ?_⟩ | refine ⟨by (unfold drawOk; kernel_rfl), ?_⟩))
      all_goals first | done | exact ⟨_, rfl, by simp [wkL, res2, res1, res3, PV.weak, PV.el, ints, ot0, Ot.pv]⟩ | simp [wkL, res2, res1, res3, PV.weak, PV.el, ints, ot0, Ot.pv]
  · rw [tellG, if_neg h0]
    have he : ((tlenR o s).2 != 0) = true := by simpa using h0
    generalize tlenR o s = L at *
    obtain ⟨n, e⟩ := L
    simp only at hp he h0
    (refine Fsp.of (nx := 0) mixed Tryd.func12 rfl (by decide) (by first | exact Nat.le_refl _ | simp) (by simp [Tryd.f12]) ⟨by decide, by decide⟩ ?_; simp -implicitDefEqProofs only [push_cast, Tryd.f12, Int.reduceBEq, Int.reduceBNe, Int.reduceEq, Int.reduceNe, Int.reducePow, Nat.reduceAdd, Nat.reduceMul, Nat.reduceSub, Nat.reduceLT, Nat.reduceLeDiff, Nat.reduceEqDiff, Nat.reduceBEq, Int.reduceLT, Int.reduceLE, Int.reduceAdd, Int.reduceSub, Int.reduceMul, Int.reduceToNat, Int.reduceNeg, reduceIte, reduceCtorEq, reduceBEq])
    refine callE_pure hp (by rfl) (by rfl) (by rfl) (by decide) (by rfl) (fun _ => by rfl) (by first | rfl | simp [gdOk, newToks]) ?_
    simp -implicitDefEqProofs only [push_cast, he, Int.reduceBEq, Int.reduceBNe, Int.reduceEq, Int.reduceNe, Int.reducePow, Nat.reduceAdd, Nat.reduceMul, Nat.reduceSub, Nat.reduceLT, Nat.reduceLeDiff, Nat.reduceEqDiff, Nat.reduceBEq, Int.reduceLT, Int.reduceLE, Int.reduceAdd, Int.reduceSub, Int.reduceMul, Int.reduceToNat, Int.reduceNeg, reduceIte, reduceCtorEq, reduceBEq]
    (repeat (first | refine ⟨by omega, ?_⟩ | refine ⟨by (unfold drawOk; kernel_rfl), ?_⟩))
    (repeat (first | refine ⟨by omega, ?_⟩ | refine ⟨by (unfold drawOk; kernel_rfl), ?_⟩))
    all_goals first | done | exact ⟨_, rfl, by simp [wkL, res2, res1, res3, PV.weak, PV.el, ints, ot0, Ot.pv]⟩ | simp [wkL, res2, res1, res3, PV.weak, PV.el, ints, ot0, Ot.pv]

end Go.Proofs.Sh
