/- Package pack: Length, Get; PackGets. -/
import Derived.Test.YtplaaagcbleflaaDoorPkGet
import Derived.Test.YtplaaagcbleflaaDoorPkPack
set_option maxRecDepth 100000
set_option linter.unusedSimpArgs false
set_option linter.unusedVariables false
namespace Go.Proofs.Sh
open Go.Pv

def lenN (o : Int) (s : List UInt8) : Nat := decU o ((s.drop 2).take 2)
def lenR (o : Int) (s : List UInt8) : Int × Int :=
  if isOrd o = true then
    if s.length < 4 then (0, 3) else if lenN o s = 0 then (0, 13) else if 16384 < lenN o s then (0, 4) else (((4 * lenN o s : Nat) : Int), 0)
  else (0, 8)
theorem two_of {s : List UInt8} (h : 4 ≤ s.length) : (s.drop 2).take 2 = [s.getD 2 0, s.getD 3 0] := by
  match s, h with
  | _ :: _ :: x :: y :: r, _ => rfl
theorem lenN_0 {s : List UInt8} (h : 4 ≤ s.length) : lenN 0 s = (s.getD 2 0).toNat + 256 * (s.getD 3 0).toNat := by
  rw [lenN, two_of h]; simp [decU, little]
theorem lenN_1 {s : List UInt8} (h : 4 ≤ s.length) : lenN 1 s = (s.getD 3 0).toNat + 256 * (s.getD 2 0).toNat := by
  rw [lenN, two_of h]; simp [decU, little]
theorem lenN_lt {o : Int} {s : List UInt8} (h : 4 ≤ s.length) : lenN o s < 65536 := by
  have := decU_lt o ((s.drop 2).take 2)
  rw [two_of h] at this
  rw [lenN, two_of h]
  exact this
set_option maxHeartbeats 2000000 in
theorem packLen_fs (o : Int) (s : List UInt8) : Fsp Tryd.prog 49 [] 0 [.int .i64 o, .str s] [] 0 (.tup [.int .i64 (lenR o s).1, .int .i64 (lenR o s).2]) := by
  have hk := pknown_fs o
  cases ho : isOrd o
  · rw [ho] at hk
    rw [show lenR o s = (0, 8) by rw [lenR, if_neg (by rw [ho]; simp)]]
    (refine Fsp.of (nx := 0) mixed Tryd.func49 rfl (by decide) (by first | exact Nat.le_refl _ | simp) (by simp [Tryd.f49]) ⟨by decide, by decide⟩ ?_; simp -implicitDefEqProofs only [push_cast, Tryd.f49, Int.reduceBEq, Int.reduceBNe, Int.reduceEq, Int.reduceNe, Int.reducePow, Nat.reduceAdd, Nat.reduceMul, Nat.reduceSub, Nat.reduceLT, Nat.reduceLeDiff, Nat.reduceEqDiff, Nat.reduceBEq, Int.reduceLT, Int.reduceLE, Int.reduceAdd, Int.reduceSub, Int.reduceMul, Int.reduceToNat, Int.reduceNeg, reduceIte, reduceCtorEq, reduceBEq])
    refine callE_pure hk (by rfl) (by rfl) (by rfl) (by decide) (by rfl) (fun _ => by rfl) (by first | rfl | simp [gdOk, newToks]) ?_
    simp -implicitDefEqProofs only [push_cast, Int.reduceBEq, Int.reduceBNe, Int.reduceEq, Int.reduceNe, Int.reducePow, Nat.reduceAdd, Nat.reduceMul, Nat.reduceSub, Nat.reduceLT, Nat.reduceLeDiff, Nat.reduceEqDiff, Nat.reduceBEq, Int.reduceLT, Int.reduceLE, Int.reduceAdd, Int.reduceSub, Int.reduceMul, Int.reduceToNat, Int.reduceNeg, reduceIte, reduceCtorEq, reduceBEq]
    all_goals simp [wkL, res2, res1, PV.weak, PV.el]
  · rw [ho] at hk
    have hor := isOrd_of ho
    cases h1 : decide ((s.length : Int) < 4)
    · have h1' : 4 ≤ s.length := by simp at h1; omega
      have hn := lenN_lt (o := o) h1'
      have hlen : ((s.drop 2).take 2).length = wid 2 := by rw [two_of h1']; rfl
      have hg := get_fs hor (s := 2) (by unfold isSize; omega) ((s.drop 2).take 2)
      rw [show getV o 2 ((s.drop 2).take 2) = (lenN o s : Int) by
        rw [getV, if_pos hlen, readV, if_neg (by simp only [decide_eq_true_eq]; rw [show high 2 = 65535 by decide]; show ¬ (65535 : Int) < ((lenN o s : Nat) : Int); omega)]; rfl, show getE 2 ((s.drop 2).take 2) = 0 by rw [getE, if_neg (by omega), if_neg (by omega)]] at hg
      have hL : lenR o s = if lenN o s = 0 then (0, 13) else if 16384 < lenN o s then (0, 4) else (((4 * lenN o s : Nat) : Int), 0) := by
        rw [lenR, if_pos ho, if_neg (by omega)]
      rw [hL]
      have hw : IntKind.i64.wrap (4 * (lenN o s : Int)) = 4 * (lenN o s : Int) := by rw [wrap_i64_id (by omega) (by omega)]
      generalize lenN o s = n at *
      cases h2 : ((n : Int) == 0)
      · have h2' : ¬ n = 0 := by simp at h2; omega
        rw [if_neg h2']
        cases h3 : decide ((65536 : Int) < 4 * (n : Int))
        · have h3' : ¬ 16384 < n := by simp at h3; omega
          rw [if_neg h3']
          (refine Fsp.of (nx := 0) mixed Tryd.func49 rfl (by decide) (by first | exact Nat.le_refl _ | simp) (by simp [Tryd.f49]) ⟨by decide, by decide⟩ ?_; simp -implicitDefEqProofs only [push_cast, Tryd.f49, Int.reduceBEq, Int.reduceBNe, Int.reduceEq, Int.reduceNe, Int.reducePow, Nat.reduceAdd, Nat.reduceMul, Nat.reduceSub, Nat.reduceLT, Nat.reduceLeDiff, Nat.reduceEqDiff, Nat.reduceBEq, Int.reduceLT, Int.reduceLE, Int.reduceAdd, Int.reduceSub, Int.reduceMul, Int.reduceToNat, Int.reduceNeg, reduceIte, reduceCtorEq, reduceBEq])
          refine callE_pure hk (by rfl) (by rfl) (by rfl) (by decide) (by rfl) (fun _ => by rfl) (by first | rfl | simp [gdOk, newToks]) ?_
          simp -implicitDefEqProofs only [push_cast, h1, Int.reduceBEq, Int.reduceBNe, Int.reduceEq, Int.reduceNe, Int.reducePow, Nat.reduceAdd, Nat.reduceMul, Nat.reduceSub, Nat.reduceLT, Nat.reduceLeDiff, Nat.reduceEqDiff, Nat.reduceBEq, Int.reduceLT, Int.reduceLE, Int.reduceAdd, Int.reduceSub, Int.reduceMul, Int.reduceToNat, Int.reduceNeg, reduceIte, reduceCtorEq, reduceBEq]
          (repeat (first | refine ⟨by omega, ?_⟩ | refine ⟨by (unfold drawOk; kernel_rfl), ?_⟩))
          refine callE_pure hg (by rfl) (by rfl) (by rfl) (by decide) (by rfl) (fun _ => by rfl) (by first | rfl | simp [gdOk, newToks]) ?_
          simp -implicitDefEqProofs only [push_cast, h2, h3, hw, Int.reduceBEq, Int.reduceBNe, Int.reduceEq, Int.reduceNe, Int.reducePow, Nat.reduceAdd, Nat.reduceMul, Nat.reduceSub, Nat.reduceLT, Nat.reduceLeDiff, Nat.reduceEqDiff, Nat.reduceBEq, Int.reduceLT, Int.reduceLE, Int.reduceAdd, Int.reduceSub, Int.reduceMul, Int.reduceToNat, Int.reduceNeg, reduceIte, reduceCtorEq, reduceBEq]
          all_goals simp [wkL, res2, res1, PV.weak, PV.el]
        · have h3' : 16384 < n := by simp at h3; omega
          rw [if_pos h3']
          (refine Fsp.of (nx := 0) mixed Tryd.func49 rfl (by decide) (by first | exact Nat.le_refl _ | simp) (by simp [Tryd.f49]) ⟨by decide, by decide⟩ ?_; simp -implicitDefEqProofs only [push_cast, Tryd.f49, Int.reduceBEq, Int.reduceBNe, Int.reduceEq, Int.reduceNe, Int.reducePow, Nat.reduceAdd, Nat.reduceMul, Nat.reduceSub, Nat.reduceLT, Nat.reduceLeDiff, Nat.reduceEqDiff, Nat.reduceBEq, Int.reduceLT, Int.reduceLE, Int.reduceAdd, Int.reduceSub, Int.reduceMul, Int.reduceToNat, Int.reduceNeg, reduceIte, reduceCtorEq, reduceBEq])
          refine callE_pure hk (by rfl) (by rfl) (by rfl) (by decide) (by rfl) (fun _ => by rfl) (by first | rfl | simp [gdOk, newToks]) ?_
          simp -implicitDefEqProofs only [push_cast, h1, Int.reduceBEq, Int.reduceBNe, Int.reduceEq, Int.reduceNe, Int.reducePow, Nat.reduceAdd, Nat.reduceMul, Nat.reduceSub, Nat.reduceLT, Nat.reduceLeDiff, Nat.reduceEqDiff, Nat.reduceBEq, Int.reduceLT, Int.reduceLE, Int.reduceAdd, Int.reduceSub, Int.reduceMul, Int.reduceToNat, Int.reduceNeg, reduceIte, reduceCtorEq, reduceBEq]
          (repeat (first | refine ⟨by omega, ?_⟩ | refine ⟨by (unfold drawOk; kernel_rfl), ?_⟩))
          refine callE_pure hg (by rfl) (by rfl) (by rfl) (by decide) (by rfl) (fun _ => by rfl) (by first | rfl | simp [gdOk, newToks]) ?_
          simp -implicitDefEqProofs only [push_cast, h2, h3, hw, Int.reduceBEq, Int.reduceBNe, Int.reduceEq, Int.reduceNe, Int.reducePow, Nat.reduceAdd, Nat.reduceMul, Nat.reduceSub, Nat.reduceLT, Nat.reduceLeDiff, Nat.reduceEqDiff, Nat.reduceBEq, Int.reduceLT, Int.reduceLE, Int.reduceAdd, Int.reduceSub, Int.reduceMul, Int.reduceToNat, Int.reduceNeg, reduceIte, reduceCtorEq, reduceBEq]
          all_goals simp [wkL, res2, res1, PV.weak, PV.el]
      · have h2' : n = 0 := by simp at h2; omega
        rw [if_pos h2']
        (refine Fsp.of (nx := 0) mixed Tryd.func49 rfl (by decide) (by first | exact Nat.le_refl _ | simp) (by simp [Tryd.f49]) ⟨by decide, by decide⟩ ?_; simp -implicitDefEqProofs only [push_cast, Tryd.f49, Int.reduceBEq, Int.reduceBNe, Int.reduceEq, Int.reduceNe, Int.reducePow, Nat.reduceAdd, Nat.reduceMul, Nat.reduceSub, Nat.reduceLT, Nat.reduceLeDiff, Nat.reduceEqDiff, Nat.reduceBEq, Int.reduceLT, Int.reduceLE, Int.reduceAdd, Int.reduceSub, Int.reduceMul, Int.reduceToNat, Int.reduceNeg, reduceIte, reduceCtorEq, reduceBEq])
        refine callE_pure hk (by rfl) (by rfl) (by rfl) (by decide) (by rfl) (fun _ => by rfl) (by first | rfl | simp [gdOk, newToks]) ?_
        simp -implicitDefEqProofs only [push_cast, h1, Int.reduceBEq, Int.reduceBNe, Int.reduceEq, Int.reduceNe, Int.reducePow, Nat.reduceAdd, Nat.reduceMul, Nat.reduceSub, Nat.reduceLT, Nat.reduceLeDiff, Nat.reduceEqDiff, Nat.reduceBEq, Int.reduceLT, Int.reduceLE, Int.reduceAdd, Int.reduceSub, Int.reduceMul, Int.reduceToNat, Int.reduceNeg, reduceIte, reduceCtorEq, reduceBEq]
        (repeat (first | refine ⟨by omega, ?_⟩ | refine ⟨by (unfold drawOk; kernel_rfl), ?_⟩))
        refine callE_pure hg (by rfl) (by rfl) (by rfl) (by decide) (by rfl) (fun _ => by rfl) (by first | rfl | simp [gdOk, newToks]) ?_
        simp -implicitDefEqProofs only [push_cast, h2, Int.reduceBEq, Int.reduceBNe, Int.reduceEq, Int.reduceNe, Int.reducePow, Nat.reduceAdd, Nat.reduceMul, Nat.reduceSub, Nat.reduceLT, Nat.reduceLeDiff, Nat.reduceEqDiff, Nat.reduceBEq, Int.reduceLT, Int.reduceLE, Int.reduceAdd, Int.reduceSub, Int.reduceMul, Int.reduceToNat, Int.reduceNeg, reduceIte, reduceCtorEq, reduceBEq]
        all_goals simp [wkL, res2, res1, PV.weak, PV.el]
    · have h1' : s.length < 4 := by simp at h1; omega
      rw [show lenR o s = (0, 3) by rw [lenR, if_pos ho, if_pos h1']]
      (refine Fsp.of (nx := 0) mixed Tryd.func49 rfl (by decide) (by first | exact Nat.le_refl _ | simp) (by simp [Tryd.f49]) ⟨by decide, by decide⟩ ?_; simp -implicitDefEqProofs only [push_cast, Tryd.f49, Int.reduceBEq, Int.reduceBNe, Int.reduceEq, Int.reduceNe, Int.reducePow, Nat.reduceAdd, Nat.reduceMul, Nat.reduceSub, Nat.reduceLT, Nat.reduceLeDiff, Nat.reduceEqDiff, Nat.reduceBEq, Int.reduceLT, Int.reduceLE, Int.reduceAdd, Int.reduceSub, Int.reduceMul, Int.reduceToNat, Int.reduceNeg, reduceIte, reduceCtorEq, reduceBEq])
      refine callE_pure hk (by rfl) (by rfl) (by rfl) (by decide) (by rfl) (fun _ => by rfl) (by first | rfl | simp [gdOk, newToks]) ?_
      simp -implicitDefEqProofs only [push_cast, h1, Int.reduceBEq, Int.reduceBNe, Int.reduceEq, Int.reduceNe, Int.reducePow, Nat.reduceAdd, Nat.reduceMul, Nat.reduceSub, Nat.reduceLT, Nat.reduceLeDiff, Nat.reduceEqDiff, Nat.reduceBEq, Int.reduceLT, Int.reduceLE, Int.reduceAdd, Int.reduceSub, Int.reduceMul, Int.reduceToNat, Int.reduceNeg, reduceIte, reduceCtorEq, reduceBEq]
      all_goals simp [wkL, res2, res1, PV.weak, PV.el]

theorem w256 (x : UInt8) : IntKind.i64.wrap (256 * (x.toNat : Int)) = 256 * (x.toNat : Int) := by
  have := x.toNat_lt
  rw [wrap_i64_id (by omega) (by omega)]
theorem wb (x : UInt8) : IntKind.i64.wrap (x.toNat : Int) = (x.toNat : Int) := by
  have := x.toNat_lt
  rw [wrap_i64_id (by omega) (by omega)]

end Go.Proofs.Sh

/- Whether rows, and requests, are the same. -/
set_option maxRecDepth 100000
set_option linter.unusedSimpArgs false
set_option linter.unusedVariables false
namespace Go.Proofs.Sh
open Go.Pv

structure SmS (a b : List Int) where
  i : Nat
  hi : i ≤ a.length
  h : ∀ j, j < i → a.getD j 0 = b.getD j 0
theorem sameUp_succ {a b : List Int} {i : Nat} (h : ∀ j, j < i → a.getD j 0 = b.getD j 0) (he : a.getD i 0 = b.getD i 0) : ∀ j, j < i + 1 → a.getD j 0 = b.getD j 0 := fun j hj => by
  rcases Nat.lt_succ_iff_lt_or_eq.1 hj with h1 | rfl
  · exact h j h1
  · exact he
theorem sameUp_all {a b : List Int} (hl : a.length = b.length) (h : ∀ j, j < a.length → a.getD j 0 = b.getD j 0) : a = b := by
  apply List.ext_getElem hl
  intro i h1 h2
  have := h i h1
  rw [List.getD_eq_getElem?_getD, List.getD_eq_getElem?_getD, List.getElem?_eq_getElem h1, List.getElem?_eq_getElem h2] at this
  exact this

def eqRow.st {a b : List Int} (s : SmS a b) : PS := { n := 26, env := [(13, .int .i64 s.i), (12, .int .i64 a.length), (4, .bool false), (0, .sl 1 (ints a)), (1, .sl 1 (ints b))], objs := [], live := [], nxt := 4 }
set_option maxHeartbeats 2000000 in
theorem eqRow_fs (a b : List Int) (ha : a.length ≤ 1000000) (hb : b.length ≤ 1000000) : Fsp Tryd.prog 39 [] 0 [.sl 1 (ints a), .sl 1 (ints b)] [] 0 (.bool (a == b)) := by
  (refine Fsp.of (nx := 0) mixed Tryd.func39 rfl (by decide) (by first | exact Nat.le_refl _ | simp) (by simp [Tryd.f39]) ⟨by decide, by decide⟩ ?_; simp -implicitDefEqProofs only [push_cast, Tryd.f39, ints_length, Int.reduceBEq, Int.reduceBNe, Int.reduceEq, Int.reduceNe, Int.reducePow, Nat.reduceAdd, Nat.reduceMul, Nat.reduceSub, Nat.reduceLT, Nat.reduceLeDiff, Nat.reduceEqDiff, Nat.reduceBEq, Int.reduceLT, Int.reduceLE, Int.reduceAdd, Int.reduceSub, Int.reduceMul, Int.reduceToNat, Int.reduceNeg, reduceIte, reduceCtorEq, reduceBEq])
  refine condC_split (fun h2 => ?_) (fun h2 => ?_)
  · have hne : (a == b) = false := by
      rw [beq_eq_false_iff_ne]
      rintro rfl
      simp at h2
    simp -implicitDefEqProofs only [push_cast, ints_length, Int.reduceBEq, Int.reduceBNe, Int.reduceEq, Int.reduceNe, Int.reducePow, Nat.reduceAdd, Nat.reduceMul, Nat.reduceSub, Nat.reduceLT, Nat.reduceLeDiff, Nat.reduceEqDiff, Nat.reduceBEq, Int.reduceLT, Int.reduceLE, Int.reduceAdd, Int.reduceSub, Int.reduceMul, Int.reduceToNat, Int.reduceNeg, reduceIte, reduceCtorEq, reduceBEq]
    rw [hne]
  have hl : a.length = b.length := by simp at h2; omega
  simp -implicitDefEqProofs only [push_cast, ints_length, Int.reduceBEq, Int.reduceBNe, Int.reduceEq, Int.reduceNe, Int.reducePow, Nat.reduceAdd, Nat.reduceMul, Nat.reduceSub, Nat.reduceLT, Nat.reduceLeDiff, Nat.reduceEqDiff, Nat.reduceBEq, Int.reduceLT, Int.reduceLE, Int.reduceAdd, Int.reduceSub, Int.reduceMul, Int.reduceToNat, Int.reduceNeg, reduceIte, reduceCtorEq, reduceBEq]
  refine loopC_of (α := SmS a b) eqRow.st (fun s => a.length - s.i) ⟨0, by omega, fun j hj => absurd hj (Nat.not_lt_zero j)⟩ ?_ ?_
  · (simp only [eqRow.st]; exact Wk.by _ _ _ [] [] [] (by simp) (by simp [wkV, PV.el, PV.weak, PS.get, PS.obj, PS.lv, lkp_hit, lkp_miss, lkp_nil, lko]) (by simp [PS.get, PS.obj, PS.lv, lkp_hit, lkp_miss, lkp_nil, lko, wkL, wkC, PV.weak]) (by simp [PS.get, PS.obj, PS.lv, lkp_hit, lkp_miss, lkp_nil, lko]) (by rfl) (by rfl) (by simp [lko]) (by simp) (by simp) (by simp) (fun i hi => absurd hi (Nat.not_lt_zero i)))
  · rintro ⟨i, hi, hf⟩
    simp -implicitDefEqProofs only [push_cast, eqRow.st, ints_length, Int.reduceBEq, Int.reduceBNe, Int.reduceEq, Int.reduceNe, Int.reducePow, Nat.reduceAdd, Nat.reduceMul, Nat.reduceSub, Nat.reduceLT, Nat.reduceLeDiff, Nat.reduceEqDiff, Nat.reduceBEq, Int.reduceLT, Int.reduceLE, Int.reduceAdd, Int.reduceSub, Int.reduceMul, Int.reduceToNat, Int.reduceNeg, reduceIte, reduceCtorEq, reduceBEq]
    refine condC_split (fun h3 => ?_) (fun h3 => ?_)
    · have hlt : i < a.length := by simp at h3; omega
      have hg := ints_at hlt
      have hg2 := ints_at (l := b) (i := i) (by omega)
      have hwr : IntKind.i64.wrap ((i : Int) + 1) = ((i + 1 : Nat) : Int) := by (rw [wrap_i64_id (by omega) (by omega)]; rfl)
      simp -implicitDefEqProofs only [push_cast, hg, hg2, ints_length, Int.reduceBEq, Int.reduceBNe, Int.reduceEq, Int.reduceNe, Int.reducePow, Nat.reduceAdd, Nat.reduceMul, Nat.reduceSub, Nat.reduceLT, Nat.reduceLeDiff, Nat.reduceEqDiff, Nat.reduceBEq, Int.reduceLT, Int.reduceLE, Int.reduceAdd, Int.reduceSub, Int.reduceMul, Int.reduceToNat, Int.reduceNeg, reduceIte, reduceCtorEq, reduceBEq]
      (repeat (first | refine ⟨by omega, ?_⟩ | refine ⟨by (unfold drawOk; kernel_rfl), ?_⟩))
      refine condC_split (fun h4 => ?_) (fun h4 => ?_)
      · have hne : (a == b) = false := by
          rw [beq_eq_false_iff_ne]
          rintro rfl
          simp at h4
        simp -implicitDefEqProofs only [push_cast, ints_length, Int.reduceBEq, Int.reduceBNe, Int.reduceEq, Int.reduceNe, Int.reducePow, Nat.reduceAdd, Nat.reduceMul, Nat.reduceSub, Nat.reduceLT, Nat.reduceLeDiff, Nat.reduceEqDiff, Nat.reduceBEq, Int.reduceLT, Int.reduceLE, Int.reduceAdd, Int.reduceSub, Int.reduceMul, Int.reduceToNat, Int.reduceNeg, reduceIte, reduceCtorEq, reduceBEq]
        rw [hne]
      · have he : a.getD i 0 = b.getD i 0 := by simpa using h4
        simp -implicitDefEqProofs only [push_cast, ints_length, Int.reduceBEq, Int.reduceBNe, Int.reduceEq, Int.reduceNe, Int.reducePow, Nat.reduceAdd, Nat.reduceMul, Nat.reduceSub, Nat.reduceLT, Nat.reduceLeDiff, Nat.reduceEqDiff, Nat.reduceBEq, Int.reduceLT, Int.reduceLE, Int.reduceAdd, Int.reduceSub, Int.reduceMul, Int.reduceToNat, Int.reduceNeg, reduceIte, reduceCtorEq, reduceBEq]
        rw [hwr]
        refine ⟨⟨i + 1, by omega, sameUp_succ hf he⟩, by simp only; omega, ?_⟩
        (simp only [eqRow.st]; exact Wk.by _ _ _ [] [] [] (by simp) (by simp [wkV, PV.el, PV.weak, PS.get, PS.obj, PS.lv, lkp_hit, lkp_miss, lkp_nil, lko]) (by simp [PS.get, PS.obj, PS.lv, lkp_hit, lkp_miss, lkp_nil, lko, wkL, wkC, PV.weak]) (by simp [PS.get, PS.obj, PS.lv, lkp_hit, lkp_miss, lkp_nil, lko]) (by rfl) (by rfl) (by simp [lko]) (by simp) (by simp) (by simp) (fun i hi => absurd hi (Nat.not_lt_zero i)))
    · have hi2 : i = a.length := by simp at h3; omega
      have heq : (a == b) = true := by
        rw [beq_iff_eq]
        exact sameUp_all hl (by rw [hi2] at hf; exact hf)
      simp -implicitDefEqProofs only [push_cast, ints_length, Int.reduceBEq, Int.reduceBNe, Int.reduceEq, Int.reduceNe, Int.reducePow, Nat.reduceAdd, Nat.reduceMul, Nat.reduceSub, Nat.reduceLT, Nat.reduceLeDiff, Nat.reduceEqDiff, Nat.reduceBEq, Int.reduceLT, Int.reduceLE, Int.reduceAdd, Int.reduceSub, Int.reduceMul, Int.reduceToNat, Int.reduceNeg, reduceIte, reduceCtorEq, reduceBEq]
      rw [heq]

def sameR (x y : Rq) : Bool := x.C == y.C && x.N == y.N && x.B == y.B && x.L == y.L
set_option maxHeartbeats 2000000 in
theorem packSame_fs (x y : Rq) (hx : x.Few) (hy : y.Few) : Fsp Tryd.prog 26 [] 0 [x.pv, y.pv] [] 0 (.bool (sameR x y)) := by
  have hN := eqRow_fs x.N y.N hx.n hy.n
  have hL := eqRow_fs x.L y.L hx.l hy.l
  cases h0 : (x.C == y.C)
  · rw [show sameR x y = false by simp only [sameR, h0, Bool.false_and]]
    (refine Fsp.of (nx := 0) mixed Tryd.func26 rfl (by decide) (by first | exact Nat.le_refl _ | simp) (by simp [Tryd.f26]) ⟨by decide, by decide⟩ ?_; simp -implicitDefEqProofs only [push_cast, Tryd.f26, Rq.pv, h0, Int.reduceBEq, Int.reduceBNe, Int.reduceEq, Int.reduceNe, Int.reducePow, Nat.reduceAdd, Nat.reduceMul, Nat.reduceSub, Nat.reduceLT, Nat.reduceLeDiff, Nat.reduceEqDiff, Nat.reduceBEq, Int.reduceLT, Int.reduceLE, Int.reduceAdd, Int.reduceSub, Int.reduceMul, Int.reduceToNat, Int.reduceNeg, reduceIte, reduceCtorEq, reduceBEq]); (repeat (refine callE_no ?_; simp -implicitDefEqProofs only [push_cast, h0, Int.reduceBEq, Int.reduceBNe, Int.reduceEq, Int.reduceNe, Int.reducePow, Nat.reduceAdd, Nat.reduceMul, Nat.reduceSub, Nat.reduceLT, Nat.reduceLeDiff, Nat.reduceEqDiff, Nat.reduceBEq, Int.reduceLT, Int.reduceLE, Int.reduceAdd, Int.reduceSub, Int.reduceMul, Int.reduceToNat, Int.reduceNeg, reduceIte, reduceCtorEq, reduceBEq]))
  · cases h1 : (x.N == y.N)
    · rw [show sameR x y = false by simp only [sameR, h0, h1, Bool.false_and, Bool.true_and]]
      rw [h1] at hN
      (refine Fsp.of (nx := 0) mixed Tryd.func26 rfl (by decide) (by first | exact Nat.le_refl _ | simp) (by simp [Tryd.f26]) ⟨by decide, by decide⟩ ?_; simp -implicitDefEqProofs only [push_cast, Tryd.f26, Rq.pv, h0, Int.reduceBEq, Int.reduceBNe, Int.reduceEq, Int.reduceNe, Int.reducePow, Nat.reduceAdd, Nat.reduceMul, Nat.reduceSub, Nat.reduceLT, Nat.reduceLeDiff, Nat.reduceEqDiff, Nat.reduceBEq, Int.reduceLT, Int.reduceLE, Int.reduceAdd, Int.reduceSub, Int.reduceMul, Int.reduceToNat, Int.reduceNeg, reduceIte, reduceCtorEq, reduceBEq]); (repeat (refine callE_no ?_; simp -implicitDefEqProofs only [push_cast, h0, Int.reduceBEq, Int.reduceBNe, Int.reduceEq, Int.reduceNe, Int.reducePow, Nat.reduceAdd, Nat.reduceMul, Nat.reduceSub, Nat.reduceLT, Nat.reduceLeDiff, Nat.reduceEqDiff, Nat.reduceBEq, Int.reduceLT, Int.reduceLE, Int.reduceAdd, Int.reduceSub, Int.reduceMul, Int.reduceToNat, Int.reduceNeg, reduceIte, reduceCtorEq, reduceBEq]))
      refine callE_pure hN (by rfl) (by rfl) (by rfl) (by decide) (by rfl) (fun _ => by rfl) (by first | rfl | simp [gdOk, newToks]) ?_
      simp -implicitDefEqProofs only [push_cast, h0, h1, Int.reduceBEq, Int.reduceBNe, Int.reduceEq, Int.reduceNe, Int.reducePow, Nat.reduceAdd, Nat.reduceMul, Nat.reduceSub, Nat.reduceLT, Nat.reduceLeDiff, Nat.reduceEqDiff, Nat.reduceBEq, Int.reduceLT, Int.reduceLE, Int.reduceAdd, Int.reduceSub, Int.reduceMul, Int.reduceToNat, Int.reduceNeg, reduceIte, reduceCtorEq, reduceBEq]; (repeat (refine callE_no ?_; simp -implicitDefEqProofs only [push_cast, h0, h1, Int.reduceBEq, Int.reduceBNe, Int.reduceEq, Int.reduceNe, Int.reducePow, Nat.reduceAdd, Nat.reduceMul, Nat.reduceSub, Nat.reduceLT, Nat.reduceLeDiff, Nat.reduceEqDiff, Nat.reduceBEq, Int.reduceLT, Int.reduceLE, Int.reduceAdd, Int.reduceSub, Int.reduceMul, Int.reduceToNat, Int.reduceNeg, reduceIte, reduceCtorEq, reduceBEq]))
    · rw [h1] at hN
      cases h2 : (x.B == y.B)
      · rw [show sameR x y = false by simp only [sameR, h0, h1, h2, Bool.false_and, Bool.true_and]]
        (refine Fsp.of (nx := 0) mixed Tryd.func26 rfl (by decide) (by first | exact Nat.le_refl _ | simp) (by simp [Tryd.f26]) ⟨by decide, by decide⟩ ?_; simp -implicitDefEqProofs only [push_cast, Tryd.f26, Rq.pv, h0, Int.reduceBEq, Int.reduceBNe, Int.reduceEq, Int.reduceNe, Int.reducePow, Nat.reduceAdd, Nat.reduceMul, Nat.reduceSub, Nat.reduceLT, Nat.reduceLeDiff, Nat.reduceEqDiff, Nat.reduceBEq, Int.reduceLT, Int.reduceLE, Int.reduceAdd, Int.reduceSub, Int.reduceMul, Int.reduceToNat, Int.reduceNeg, reduceIte, reduceCtorEq, reduceBEq]); (repeat (refine callE_no ?_; simp -implicitDefEqProofs only [push_cast, h0, Int.reduceBEq, Int.reduceBNe, Int.reduceEq, Int.reduceNe, Int.reducePow, Nat.reduceAdd, Nat.reduceMul, Nat.reduceSub, Nat.reduceLT, Nat.reduceLeDiff, Nat.reduceEqDiff, Nat.reduceBEq, Int.reduceLT, Int.reduceLE, Int.reduceAdd, Int.reduceSub, Int.reduceMul, Int.reduceToNat, Int.reduceNeg, reduceIte, reduceCtorEq, reduceBEq]))
        refine callE_pure hN (by rfl) (by rfl) (by rfl) (by decide) (by rfl) (fun _ => by rfl) (by first | rfl | simp [gdOk, newToks]) ?_
        simp -implicitDefEqProofs only [push_cast, h0, h1, h2, Int.reduceBEq, Int.reduceBNe, Int.reduceEq, Int.reduceNe, Int.reducePow, Nat.reduceAdd, Nat.reduceMul, Nat.reduceSub, Nat.reduceLT, Nat.reduceLeDiff, Nat.reduceEqDiff, Nat.reduceBEq, Int.reduceLT, Int.reduceLE, Int.reduceAdd, Int.reduceSub, Int.reduceMul, Int.reduceToNat, Int.reduceNeg, reduceIte, reduceCtorEq, reduceBEq]; (repeat (refine callE_no ?_; simp -implicitDefEqProofs only [push_cast, h0, h1, h2, Int.reduceBEq, Int.reduceBNe, Int.reduceEq, Int.reduceNe, Int.reducePow, Nat.reduceAdd, Nat.reduceMul, Nat.reduceSub, Nat.reduceLT, Nat.reduceLeDiff, Nat.reduceEqDiff, Nat.reduceBEq, Int.reduceLT, Int.reduceLE, Int.reduceAdd, Int.reduceSub, Int.reduceMul, Int.reduceToNat, Int.reduceNeg, reduceIte, reduceCtorEq, reduceBEq]))
      · rw [show sameR x y = (x.L == y.L) by simp only [sameR, h0, h1, h2, Bool.true_and]]
        (refine Fsp.of (nx := 0) mixed Tryd.func26 rfl (by decide) (by first | exact Nat.le_refl _ | simp) (by simp [Tryd.f26]) ⟨by decide, by decide⟩ ?_; simp -implicitDefEqProofs only [push_cast, Tryd.f26, Rq.pv, h0, Int.reduceBEq, Int.reduceBNe, Int.reduceEq, Int.reduceNe, Int.reducePow, Nat.reduceAdd, Nat.reduceMul, Nat.reduceSub, Nat.reduceLT, Nat.reduceLeDiff, Nat.reduceEqDiff, Nat.reduceBEq, Int.reduceLT, Int.reduceLE, Int.reduceAdd, Int.reduceSub, Int.reduceMul, Int.reduceToNat, Int.reduceNeg, reduceIte, reduceCtorEq, reduceBEq]); (repeat (refine callE_no ?_; simp -implicitDefEqProofs only [push_cast, h0, Int.reduceBEq, Int.reduceBNe, Int.reduceEq, Int.reduceNe, Int.reducePow, Nat.reduceAdd, Nat.reduceMul, Nat.reduceSub, Nat.reduceLT, Nat.reduceLeDiff, Nat.reduceEqDiff, Nat.reduceBEq, Int.reduceLT, Int.reduceLE, Int.reduceAdd, Int.reduceSub, Int.reduceMul, Int.reduceToNat, Int.reduceNeg, reduceIte, reduceCtorEq, reduceBEq]))
        refine callE_pure hN (by rfl) (by rfl) (by rfl) (by decide) (by rfl) (fun _ => by rfl) (by first | rfl | simp [gdOk, newToks]) ?_
        simp -implicitDefEqProofs only [push_cast, h0, h1, h2, Int.reduceBEq, Int.reduceBNe, Int.reduceEq, Int.reduceNe, Int.reducePow, Nat.reduceAdd, Nat.reduceMul, Nat.reduceSub, Nat.reduceLT, Nat.reduceLeDiff, Nat.reduceEqDiff, Nat.reduceBEq, Int.reduceLT, Int.reduceLE, Int.reduceAdd, Int.reduceSub, Int.reduceMul, Int.reduceToNat, Int.reduceNeg, reduceIte, reduceCtorEq, reduceBEq]; (repeat (refine callE_no ?_; simp -implicitDefEqProofs only [push_cast, h0, h1, h2, Int.reduceBEq, Int.reduceBNe, Int.reduceEq, Int.reduceNe, Int.reducePow, Nat.reduceAdd, Nat.reduceMul, Nat.reduceSub, Nat.reduceLT, Nat.reduceLeDiff, Nat.reduceEqDiff, Nat.reduceBEq, Int.reduceLT, Int.reduceLE, Int.reduceAdd, Int.reduceSub, Int.reduceMul, Int.reduceToNat, Int.reduceNeg, reduceIte, reduceCtorEq, reduceBEq]))
        refine callE_pure hL (by rfl) (by rfl) (by rfl) (by decide) (by rfl) (fun _ => by rfl) (by first | rfl | simp [gdOk, newToks]) ?_
        simp -implicitDefEqProofs only [push_cast, h0, h1, h2, Int.reduceBEq, Int.reduceBNe, Int.reduceEq, Int.reduceNe, Int.reducePow, Nat.reduceAdd, Nat.reduceMul, Nat.reduceSub, Nat.reduceLT, Nat.reduceLeDiff, Nat.reduceEqDiff, Nat.reduceBEq, Int.reduceLT, Int.reduceLE, Int.reduceAdd, Int.reduceSub, Int.reduceMul, Int.reduceToNat, Int.reduceNeg, reduceIte, reduceCtorEq, reduceBEq]; (repeat (refine callE_no ?_; simp -implicitDefEqProofs only [push_cast, h0, h1, h2, Int.reduceBEq, Int.reduceBNe, Int.reduceEq, Int.reduceNe, Int.reducePow, Nat.reduceAdd, Nat.reduceMul, Nat.reduceSub, Nat.reduceLT, Nat.reduceLeDiff, Nat.reduceEqDiff, Nat.reduceBEq, Int.reduceLT, Int.reduceLE, Int.reduceAdd, Int.reduceSub, Int.reduceMul, Int.reduceToNat, Int.reduceNeg, reduceIte, reduceCtorEq, reduceBEq]))

end Go.Proofs.Sh

/- Package pack: Get; PackGets. -/
set_option maxRecDepth 100000
set_option linter.unusedSimpArgs false
set_option linter.unusedVariables false
namespace Go.Proofs.Sh
open Go.Pv

def rq0 : Rq := ⟨0, [], [], []⟩
def getQ (o : Int) (s : List UInt8) (f : Fm) : Rq × Int :=
  if (lenR o s).2 = 0 then
    if (s.length : Int) = (lenR o s).1 then
      if s.getD 1 0 = 0 then
        if (getF o f (s.drop 4)).2 = 0 then (⟨((s.getD 0 0).toNat : Int), (getF o f (s.drop 4)).1.N, (getF o f (s.drop 4)).1.B, (getF o f (s.drop 4)).1.L⟩, 0)
        else (rq0, (getF o f (s.drop 4)).2)
      else (rq0, 2)
    else (rq0, 17)
  else (rq0, (lenR o s).2)
def getP (o : Int) (s : List UInt8) : Rq × Int :=
  if isOrd o = true then
    if s.length < 4 then (rq0, 3)
    else match formOf ((s.getD 0 0).toNat : Int) with
      | none => (rq0, 10)
      | some f => getQ o s f
  else (rq0, 8)
def getPR (o : Int) (s : List UInt8) : PV := .tup [(getP o s).1.pv, .int .i64 (getP o s).2]
theorem getP_none {o : Int} {s : List UInt8} (ho : isOrd o = true) (h : ¬ s.length < 4) (hf : formOf ((s.getD 0 0).toNat : Int) = none) : getP o s = (rq0, 10) := by
  rw [getP, if_pos ho, if_neg h, hf]
theorem getP_some {o : Int} {s : List UInt8} {f : Fm} (ho : isOrd o = true) (h : ¬ s.length < 4) (hf : formOf ((s.getD 0 0).toNat : Int) = some f) : getP o s = getQ o s f := by
  rw [getP, if_pos ho, if_neg h, hf]
set_option maxHeartbeats 8000000 in
theorem packGet_fs (o : Int) (s : List UInt8) (hs : s.length ≤ 1000000) : Fsp Tryd.prog 41 [] 0 [.int .i64 o, .str s] [] 0 (getPR o s) := by
  have hk := pknown_fs o
  have hp := packLen_fs o s
  rw [getPR]
  cases ho : isOrd o
  · rw [ho] at hk
    rw [show getP o s = (rq0, 8) by rw [getP, if_neg (by rw [ho]; simp)]]
    (refine Fsp.of (nx := 0) mixed Tryd.func41 rfl (by decide) (by first | exact Nat.le_refl _ | simp) (by simp [Tryd.f41]) ⟨by decide, by decide⟩ ?_; simp -implicitDefEqProofs only [push_cast, Tryd.f41, Int.reduceBEq, Int.reduceBNe, Int.reduceEq, Int.reduceNe, Int.reducePow, Nat.reduceAdd, Nat.reduceMul, Nat.reduceSub, Nat.reduceLT, Nat.reduceLeDiff, Nat.reduceEqDiff, Nat.reduceBEq, Int.reduceLT, Int.reduceLE, Int.reduceAdd, Int.reduceSub, Int.reduceMul, Int.reduceToNat, Int.reduceNeg, reduceIte, reduceCtorEq, reduceBEq])
    refine callE_pure hk (by rfl) (by rfl) (by rfl) (by decide) (by rfl) (fun _ => by rfl) (by first | rfl | simp [gdOk, newToks]) ?_
    simp -implicitDefEqProofs only [push_cast, Int.reduceBEq, Int.reduceBNe, Int.reduceEq, Int.reduceNe, Int.reducePow, Nat.reduceAdd, Nat.reduceMul, Nat.reduceSub, Nat.reduceLT, Nat.reduceLeDiff, Nat.reduceEqDiff, Nat.reduceBEq, Int.reduceLT, Int.reduceLE, Int.reduceAdd, Int.reduceSub, Int.reduceMul, Int.reduceToNat, Int.reduceNeg, reduceIte, reduceCtorEq, reduceBEq]
    exact ⟨_, rfl, by simp [wkL, res2, res1, PV.weak, PV.el, rq0, Rq.pv, ints]⟩
  · rw [ho] at hk
    have hor := isOrd_of ho
    cases h1 : decide ((s.length : Int) < 4)
    · have h1' : ¬ s.length < 4 := by simp at h1; omega
      have g0 : 0 < s.length := by omega
      have g1 : 1 < s.length := by omega
      have g4 : 4 ≤ s.length := by omega
      have hq := request_fs ((s.getD 0 0).toNat : Int)
      cases hf : formOf ((s.getD 0 0).toNat : Int) with
      | none =>
        rw [formR, hf] at hq
        simp only [form0] at hq
        rw [getP_none ho h1' hf]
        (refine Fsp.of (nx := 0) mixed Tryd.func41 rfl (by decide) (by first | exact Nat.le_refl _ | simp) (by simp [Tryd.f41]) ⟨by decide, by decide⟩ ?_; simp -implicitDefEqProofs only [push_cast, Tryd.f41, Int.reduceBEq, Int.reduceBNe, Int.reduceEq, Int.reduceNe, Int.reducePow, Nat.reduceAdd, Nat.reduceMul, Nat.reduceSub, Nat.reduceLT, Nat.reduceLeDiff, Nat.reduceEqDiff, Nat.reduceBEq, Int.reduceLT, Int.reduceLE, Int.reduceAdd, Int.reduceSub, Int.reduceMul, Int.reduceToNat, Int.reduceNeg, reduceIte, reduceCtorEq, reduceBEq])
        refine callE_pure hk (by rfl) (by rfl) (by rfl) (by decide) (by rfl) (fun _ => by rfl) (by first | rfl | simp [gdOk, newToks]) ?_
        simp -implicitDefEqProofs only [push_cast, h1, wb, Int.reduceBEq, Int.reduceBNe, Int.reduceEq, Int.reduceNe, Int.reducePow, Nat.reduceAdd, Nat.reduceMul, Nat.reduceSub, Nat.reduceLT, Nat.reduceLeDiff, Nat.reduceEqDiff, Nat.reduceBEq, Int.reduceLT, Int.reduceLE, Int.reduceAdd, Int.reduceSub, Int.reduceMul, Int.reduceToNat, Int.reduceNeg, reduceIte, reduceCtorEq, reduceBEq]
        (repeat (first | refine ⟨by omega, ?_⟩ | refine ⟨by (unfold drawOk; kernel_rfl), ?_⟩))
        refine callE_pure hq (by rfl) (by rfl) (by rfl) (by decide) (by rfl) (fun _ => by rfl) (by first | rfl | simp [gdOk, newToks]) ?_
        simp -implicitDefEqProofs only [push_cast, Int.reduceBEq, Int.reduceBNe, Int.reduceEq, Int.reduceNe, Int.reducePow, Nat.reduceAdd, Nat.reduceMul, Nat.reduceSub, Nat.reduceLT, Nat.reduceLeDiff, Nat.reduceEqDiff, Nat.reduceBEq, Int.reduceLT, Int.reduceLE, Int.reduceAdd, Int.reduceSub, Int.reduceMul, Int.reduceToNat, Int.reduceNeg, reduceIte, reduceCtorEq, reduceBEq]
        exact ⟨_, rfl, by simp [wkL, res2, res1, PV.weak, PV.el, rq0, Rq.pv, ints]⟩
      | some f =>
        rw [formR, hf] at hq
        simp only [formT, Fm.pv] at hq
        obtain ⟨hok, -, -⟩ := formOf_some hf
        have hg := formGet_fs hor f hok (s.drop 4) (by simp; omega)
        simp only [getR, Fm.pv] at hg
        have htk : List.take (s.length - 4) (List.drop 4 s) = List.drop 4 s := List.take_of_length_le (by simp)
        rw [getP_some ho h1' hf, getQ]
        generalize getF o f (s.drop 4) = x at *
        obtain ⟨x, xe⟩ := x
        simp only [Fd.pv] at hg
        generalize lenR o s = L at *
        obtain ⟨n, e⟩ := L
        simp only at hp
        simp only
        (refine Fsp.of (nx := 0) mixed Tryd.func41 rfl (by decide) (by first | exact Nat.le_refl _ | simp) (by simp [Tryd.f41]) ⟨by decide, by decide⟩ ?_; simp -implicitDefEqProofs only [push_cast, Tryd.f41, Int.reduceBEq, Int.reduceBNe, Int.reduceEq, Int.reduceNe, Int.reducePow, Nat.reduceAdd, Nat.reduceMul, Nat.reduceSub, Nat.reduceLT, Nat.reduceLeDiff, Nat.reduceEqDiff, Nat.reduceBEq, Int.reduceLT, Int.reduceLE, Int.reduceAdd, Int.reduceSub, Int.reduceMul, Int.reduceToNat, Int.reduceNeg, reduceIte, reduceCtorEq, reduceBEq])
        refine callE_pure hk (by rfl) (by rfl) (by rfl) (by decide) (by rfl) (fun _ => by rfl) (by first | rfl | simp [gdOk, newToks]) ?_
        simp -implicitDefEqProofs only [push_cast, h1, wb, Int.reduceBEq, Int.reduceBNe, Int.reduceEq, Int.reduceNe, Int.reducePow, Nat.reduceAdd, Nat.reduceMul, Nat.reduceSub, Nat.reduceLT, Nat.reduceLeDiff, Nat.reduceEqDiff, Nat.reduceBEq, Int.reduceLT, Int.reduceLE, Int.reduceAdd, Int.reduceSub, Int.reduceMul, Int.reduceToNat, Int.reduceNeg, reduceIte, reduceCtorEq, reduceBEq]
        (repeat (first | refine ⟨by omega, ?_⟩ | refine ⟨by (unfold drawOk; kernel_rfl), ?_⟩))
        refine callE_pure hq (by rfl) (by rfl) (by rfl) (by decide) (by rfl) (fun _ => by rfl) (by first | rfl | simp [gdOk, newToks]) ?_
        simp -implicitDefEqProofs only [push_cast, Int.reduceBEq, Int.reduceBNe, Int.reduceEq, Int.reduceNe, Int.reducePow, Nat.reduceAdd, Nat.reduceMul, Nat.reduceSub, Nat.reduceLT, Nat.reduceLeDiff, Nat.reduceEqDiff, Nat.reduceBEq, Int.reduceLT, Int.reduceLE, Int.reduceAdd, Int.reduceSub, Int.reduceMul, Int.reduceToNat, Int.reduceNeg, reduceIte, reduceCtorEq, reduceBEq]
        refine callE_pure hp (by rfl) (by rfl) (by rfl) (by decide) (by rfl) (fun _ => by rfl) (by first | rfl | simp [gdOk, newToks]) ?_
        cases h2 : (e != 0)
        · have h2' : e = 0 := by simpa using h2
          rw [if_pos h2']
          cases h3 : ((s.length : Int) != n)
          · have h3' : (s.length : Int) = n := by simpa using h3
            rw [if_pos h3']
            cases h4 : (((s.getD 1 0).toNat : Int) != 0)
            · have h4' : s.getD 1 0 = 0 := by
                simp at h4
                exact UInt8.toNat_inj.1 (by rw [List.getD_eq_getElem?_getD]; simpa using h4)
              rw [if_pos h4']
              cases h5 : (xe != 0)
              · have h5' : xe = 0 := by simpa using h5
                rw [if_pos h5']
                simp -implicitDefEqProofs only [push_cast, h2, h3, h4, htk, Int.reduceBEq, Int.reduceBNe, Int.reduceEq, Int.reduceNe, Int.reducePow, Nat.reduceAdd, Nat.reduceMul, Nat.reduceSub, Nat.reduceLT, Nat.reduceLeDiff, Nat.reduceEqDiff, Nat.reduceBEq, Int.reduceLT, Int.reduceLE, Int.reduceAdd, Int.reduceSub, Int.reduceMul, Int.reduceToNat, Int.reduceNeg, reduceIte, reduceCtorEq, reduceBEq]
                (repeat (first | refine ⟨by omega, ?_⟩ | refine ⟨by (unfold drawOk; kernel_rfl), ?_⟩))
                refine callE_pure hg (by rfl) (by rfl) (by rfl) (by decide) (by rfl) (fun _ => by rfl) (by first | rfl | simp [gdOk, newToks]) ?_
                simp -implicitDefEqProofs only [push_cast, h5, wb, Int.reduceBEq, Int.reduceBNe, Int.reduceEq, Int.reduceNe, Int.reducePow, Nat.reduceAdd, Nat.reduceMul, Nat.reduceSub, Nat.reduceLT, Nat.reduceLeDiff, Nat.reduceEqDiff, Nat.reduceBEq, Int.reduceLT, Int.reduceLE, Int.reduceAdd, Int.reduceSub, Int.reduceMul, Int.reduceToNat, Int.reduceNeg, reduceIte, reduceCtorEq, reduceBEq]
                (repeat (first | refine ⟨by omega, ?_⟩ | refine ⟨by (unfold drawOk; kernel_rfl), ?_⟩))
                exact ⟨_, rfl, by simp [wkL, res2, res1, PV.weak, PV.el, rq0, Rq.pv, ints]⟩
              · have h5' : ¬ xe = 0 := by simpa using h5
                rw [if_neg h5']
                simp -implicitDefEqProofs only [push_cast, h2, h3, h4, htk, Int.reduceBEq, Int.reduceBNe, Int.reduceEq, Int.reduceNe, Int.reducePow, Nat.reduceAdd, Nat.reduceMul, Nat.reduceSub, Nat.reduceLT, Nat.reduceLeDiff, Nat.reduceEqDiff, Nat.reduceBEq, Int.reduceLT, Int.reduceLE, Int.reduceAdd, Int.reduceSub, Int.reduceMul, Int.reduceToNat, Int.reduceNeg, reduceIte, reduceCtorEq, reduceBEq]
                (repeat (first | refine ⟨by omega, ?_⟩ | refine ⟨by (unfold drawOk; kernel_rfl), ?_⟩))
                refine callE_pure hg (by rfl) (by rfl) (by rfl) (by decide) (by rfl) (fun _ => by rfl) (by first | rfl | simp [gdOk, newToks]) ?_
                simp -implicitDefEqProofs only [push_cast, h5, Int.reduceBEq, Int.reduceBNe, Int.reduceEq, Int.reduceNe, Int.reducePow, Nat.reduceAdd, Nat.reduceMul, Nat.reduceSub, Nat.reduceLT, Nat.reduceLeDiff, Nat.reduceEqDiff, Nat.reduceBEq, Int.reduceLT, Int.reduceLE, Int.reduceAdd, Int.reduceSub, Int.reduceMul, Int.reduceToNat, Int.reduceNeg, reduceIte, reduceCtorEq, reduceBEq]
                (repeat (first | refine ⟨by omega, ?_⟩ | refine ⟨by (unfold drawOk; kernel_rfl), ?_⟩))
                exact ⟨_, rfl, by simp [wkL, res2, res1, PV.weak, PV.el, rq0, Rq.pv, ints]⟩
            · have h4' : ¬ s.getD 1 0 = 0 := by
                intro h
                rw [h] at h4; exact absurd h4 (by decide)
              rw [if_neg h4']
              simp -implicitDefEqProofs only [push_cast, h2, h3, h4, Int.reduceBEq, Int.reduceBNe, Int.reduceEq, Int.reduceNe, Int.reducePow, Nat.reduceAdd, Nat.reduceMul, Nat.reduceSub, Nat.reduceLT, Nat.reduceLeDiff, Nat.reduceEqDiff, Nat.reduceBEq, Int.reduceLT, Int.reduceLE, Int.reduceAdd, Int.reduceSub, Int.reduceMul, Int.reduceToNat, Int.reduceNeg, reduceIte, reduceCtorEq, reduceBEq]
              (repeat (first | refine ⟨by omega, ?_⟩ | refine ⟨by (unfold drawOk; kernel_rfl), ?_⟩))
              exact ⟨_, rfl, by simp [wkL, res2, res1, PV.weak, PV.el, rq0, Rq.pv, ints]⟩
          · have h3' : ¬ (s.length : Int) = n := by simpa using h3
            rw [if_neg h3']
            simp -implicitDefEqProofs only [push_cast, h2, h3, Int.reduceBEq, Int.reduceBNe, Int.reduceEq, Int.reduceNe, Int.reducePow, Nat.reduceAdd, Nat.reduceMul, Nat.reduceSub, Nat.reduceLT, Nat.reduceLeDiff, Nat.reduceEqDiff, Nat.reduceBEq, Int.reduceLT, Int.reduceLE, Int.reduceAdd, Int.reduceSub, Int.reduceMul, Int.reduceToNat, Int.reduceNeg, reduceIte, reduceCtorEq, reduceBEq]
            exact ⟨_, rfl, by simp [wkL, res2, res1, PV.weak, PV.el, rq0, Rq.pv, ints]⟩
        · have h2' : ¬ e = 0 := by simpa using h2
          rw [if_neg h2']
          simp -implicitDefEqProofs only [push_cast, h2, Int.reduceBEq, Int.reduceBNe, Int.reduceEq, Int.reduceNe, Int.reducePow, Nat.reduceAdd, Nat.reduceMul, Nat.reduceSub, Nat.reduceLT, Nat.reduceLeDiff, Nat.reduceEqDiff, Nat.reduceBEq, Int.reduceLT, Int.reduceLE, Int.reduceAdd, Int.reduceSub, Int.reduceMul, Int.reduceToNat, Int.reduceNeg, reduceIte, reduceCtorEq, reduceBEq]
          (repeat (first | refine ⟨by omega, ?_⟩ | refine ⟨by (unfold drawOk; kernel_rfl), ?_⟩))
          exact ⟨_, rfl, by simp [wkL, res2, res1, PV.weak, PV.el, rq0, Rq.pv, ints]⟩
    · have h1' : s.length < 4 := by simp at h1; omega
      rw [show getP o s = (rq0, 3) by rw [getP, if_pos ho, if_pos h1']]
      (refine Fsp.of (nx := 0) mixed Tryd.func41 rfl (by decide) (by first | exact Nat.le_refl _ | simp) (by simp [Tryd.f41]) ⟨by decide, by decide⟩ ?_; simp -implicitDefEqProofs only [push_cast, Tryd.f41, Int.reduceBEq, Int.reduceBNe, Int.reduceEq, Int.reduceNe, Int.reducePow, Nat.reduceAdd, Nat.reduceMul, Nat.reduceSub, Nat.reduceLT, Nat.reduceLeDiff, Nat.reduceEqDiff, Nat.reduceBEq, Int.reduceLT, Int.reduceLE, Int.reduceAdd, Int.reduceSub, Int.reduceMul, Int.reduceToNat, Int.reduceNeg, reduceIte, reduceCtorEq, reduceBEq])
      refine callE_pure hk (by rfl) (by rfl) (by rfl) (by decide) (by rfl) (fun _ => by rfl) (by first | rfl | simp [gdOk, newToks]) ?_
      simp -implicitDefEqProofs only [push_cast, h1, Int.reduceBEq, Int.reduceBNe, Int.reduceEq, Int.reduceNe, Int.reducePow, Nat.reduceAdd, Nat.reduceMul, Nat.reduceSub, Nat.reduceLT, Nat.reduceLeDiff, Nat.reduceEqDiff, Nat.reduceBEq, Int.reduceLT, Int.reduceLE, Int.reduceAdd, Int.reduceSub, Int.reduceMul, Int.reduceToNat, Int.reduceNeg, reduceIte, reduceCtorEq, reduceBEq]
      exact ⟨_, rfl, by simp [wkL, res2, res1, PV.weak, PV.el, rq0, Rq.pv, ints]⟩

end Go.Proofs.Sh

/- Package stream: Begin, begin, item, Dead, Rest, Order. -/
set_option maxRecDepth 100000
set_option linter.unusedSimpArgs false
set_option linter.unusedVariables false
namespace Go.Proofs.Sh
open Go.Pv

/-- What a whole request comes to. -/
structure It where
  R : Rq
  F : Int
  C : Int
def It.pv (x : It) : PV := .agg [.int .i64 x.R.C, .sl 1 (ints x.R.N), .str x.R.B, .sl 1 (ints x.R.L), .int .i64 x.F, .int .i64 x.C]
/-- A stream. -/
structure Sm where
  b : Bool
  d : Bool
  o : Int
  r : List UInt8
def Sm.pv (s : Sm) : PV := .agg [.bool s.b, .bool s.d, .int .i64 s.o, .str s.r]
def sm0 : Sm := ⟨false, false, 0, []⟩
def beg0 : List UInt8 := [108, 1, 0, 0]
def beg1 : List UInt8 := [66, 1, 0, 0]
def bgn (o : Int) : List UInt8 := if o = 0 then beg0 else if o = 1 then beg1 else []
theorem bgn_fs (o : Int) : Fsp Tryd.prog 17 [] 0 [.int .i64 o] [] 0 (.str (bgn o)) := by
  cases h0 : (o == 0)
  · have h0' : ¬ o = 0 := by simpa using h0
    cases h1 : (o == 1)
    · have h1' : ¬ o = 1 := by simpa using h1
      rw [bgn, if_neg h0', if_neg h1']
      (refine Fsp.of (nx := 0) mixed Tryd.func17 rfl (by decide) (by first | exact Nat.le_refl _ | simp) (by simp [Tryd.f17]) ⟨by decide, by decide⟩ ?_; simp -implicitDefEqProofs only [push_cast, Tryd.f17, h0, h1, Int.reduceBEq, Int.reduceBNe, Int.reduceEq, Int.reduceNe, Int.reducePow, Nat.reduceAdd, Nat.reduceMul, Nat.reduceSub, Nat.reduceLT, Nat.reduceLeDiff, Nat.reduceEqDiff, Nat.reduceBEq, Int.reduceLT, Int.reduceLE, Int.reduceAdd, Int.reduceSub, Int.reduceMul, Int.reduceToNat, Int.reduceNeg, reduceIte, reduceCtorEq, reduceBEq])
      (repeat (first | refine ⟨by omega, ?_⟩ | refine ⟨by (unfold drawOk; kernel_rfl), ?_⟩))
      all_goals first | done | rfl | omega | (unfold drawOk; kernel_rfl) | exact ⟨by (unfold drawOk; kernel_rfl), _, rfl, by simp [wkL, res2, res1, res3, PV.weak, PV.el]⟩ | exact ⟨_, rfl, by simp [wkL, res2, res1, res3, PV.weak, PV.el, ints, Sm.pv, It.pv, rq0]⟩ | simp [wkL, res2, res1, res3, PV.weak, PV.el, ints, Sm.pv, It.pv, rq0] | trace_state
    · have h1' : o = 1 := by simpa using h1
      rw [bgn, if_neg h0', if_pos h1']
      (refine Fsp.of (nx := 0) mixed Tryd.func17 rfl (by decide) (by first | exact Nat.le_refl _ | simp) (by simp [Tryd.f17]) ⟨by decide, by decide⟩ ?_; simp -implicitDefEqProofs only [push_cast, Tryd.f17, h0, h1, Int.reduceBEq, Int.reduceBNe, Int.reduceEq, Int.reduceNe, Int.reducePow, Nat.reduceAdd, Nat.reduceMul, Nat.reduceSub, Nat.reduceLT, Nat.reduceLeDiff, Nat.reduceEqDiff, Nat.reduceBEq, Int.reduceLT, Int.reduceLE, Int.reduceAdd, Int.reduceSub, Int.reduceMul, Int.reduceToNat, Int.reduceNeg, reduceIte, reduceCtorEq, reduceBEq])
      (repeat (first | refine ⟨by omega, ?_⟩ | refine ⟨by (unfold drawOk; kernel_rfl), ?_⟩))
      all_goals first | done | rfl | omega | (unfold drawOk; kernel_rfl) | exact ⟨by (unfold drawOk; kernel_rfl), _, rfl, by simp [wkL, res2, res1, res3, PV.weak, PV.el]⟩ | exact ⟨_, rfl, by simp [wkL, res2, res1, res3, PV.weak, PV.el, ints, Sm.pv, It.pv, rq0]⟩ | simp [wkL, res2, res1, res3, PV.weak, PV.el, ints, Sm.pv, It.pv, rq0] | trace_state
  · have h0' : o = 0 := by simpa using h0
    rw [bgn, if_pos h0']
    (refine Fsp.of (nx := 0) mixed Tryd.func17 rfl (by decide) (by first | exact Nat.le_refl _ | simp) (by simp [Tryd.f17]) ⟨by decide, by decide⟩ ?_; simp -implicitDefEqProofs only [push_cast, Tryd.f17, h0, Int.reduceBEq, Int.reduceBNe, Int.reduceEq, Int.reduceNe, Int.reducePow, Nat.reduceAdd, Nat.reduceMul, Nat.reduceSub, Nat.reduceLT, Nat.reduceLeDiff, Nat.reduceEqDiff, Nat.reduceBEq, Int.reduceLT, Int.reduceLE, Int.reduceAdd, Int.reduceSub, Int.reduceMul, Int.reduceToNat, Int.reduceNeg, reduceIte, reduceCtorEq, reduceBEq])
    (repeat (first | refine ⟨by omega, ?_⟩ | refine ⟨by (unfold drawOk; kernel_rfl), ?_⟩))
    all_goals first | done | rfl | omega | (unfold drawOk; kernel_rfl) | exact ⟨by (unfold drawOk; kernel_rfl), _, rfl, by simp [wkL, res2, res1, res3, PV.weak, PV.el]⟩ | exact ⟨_, rfl, by simp [wkL, res2, res1, res3, PV.weak, PV.el, ints, Sm.pv, It.pv, rq0]⟩ | simp [wkL, res2, res1, res3, PV.weak, PV.el, ints, Sm.pv, It.pv, rq0] | trace_state
theorem dead_fs (s : Sm) : Fsp Tryd.prog 15 [] 0 [s.pv] [] 0 (.bool s.d) := by
  (refine Fsp.of (nx := 0) mixed Tryd.func15 rfl (by decide) (by first | exact Nat.le_refl _ | simp) (by simp [Tryd.f15]) ⟨by decide, by decide⟩ ?_; simp -implicitDefEqProofs only [push_cast, Tryd.f15, Sm.pv, Int.reduceBEq, Int.reduceBNe, Int.reduceEq, Int.reduceNe, Int.reducePow, Nat.reduceAdd, Nat.reduceMul, Nat.reduceSub, Nat.reduceLT, Nat.reduceLeDiff, Nat.reduceEqDiff, Nat.reduceBEq, Int.reduceLT, Int.reduceLE, Int.reduceAdd, Int.reduceSub, Int.reduceMul, Int.reduceToNat, Int.reduceNeg, reduceIte, reduceCtorEq, reduceBEq])
theorem rest_fs (s : Sm) (h : s.r.length ≤ 1000000) : Fsp Tryd.prog 16 [] 0 [s.pv] [] 0 (.int .i64 s.r.length) := by
  (refine Fsp.of (nx := 0) mixed Tryd.func16 rfl (by decide) (by first | exact Nat.le_refl _ | simp) (by simp [Tryd.f16]) ⟨by decide, by decide⟩ ?_; simp -implicitDefEqProofs only [push_cast, Tryd.f16, Sm.pv, Int.reduceBEq, Int.reduceBNe, Int.reduceEq, Int.reduceNe, Int.reducePow, Nat.reduceAdd, Nat.reduceMul, Nat.reduceSub, Nat.reduceLT, Nat.reduceLeDiff, Nat.reduceEqDiff, Nat.reduceBEq, Int.reduceLT, Int.reduceLE, Int.reduceAdd, Int.reduceSub, Int.reduceMul, Int.reduceToNat, Int.reduceNeg, reduceIte, reduceCtorEq, reduceBEq])
theorem order_fs (s : Sm) : Fsp Tryd.prog 18 [] 0 [s.pv] [] 0 (.tup [.int .i64 s.o, .bool s.b]) := by
  (refine Fsp.of (nx := 0) mixed Tryd.func18 rfl (by decide) (by first | exact Nat.le_refl _ | simp) (by simp [Tryd.f18]) ⟨by decide, by decide⟩ ?_; simp -implicitDefEqProofs only [push_cast, Tryd.f18, Sm.pv, Int.reduceBEq, Int.reduceBNe, Int.reduceEq, Int.reduceNe, Int.reducePow, Nat.reduceAdd, Nat.reduceMul, Nat.reduceSub, Nat.reduceLT, Nat.reduceLeDiff, Nat.reduceEqDiff, Nat.reduceBEq, Int.reduceLT, Int.reduceLE, Int.reduceAdd, Int.reduceSub, Int.reduceMul, Int.reduceToNat, Int.reduceNeg, reduceIte, reduceCtorEq, reduceBEq])
  (repeat (first | refine ⟨by omega, ?_⟩ | refine ⟨by (unfold drawOk; kernel_rfl), ?_⟩))
  all_goals first | done | rfl | omega | (unfold drawOk; kernel_rfl) | exact ⟨by (unfold drawOk; kernel_rfl), _, rfl, by simp [wkL, res2, res1, res3, PV.weak, PV.el]⟩ | exact ⟨_, rfl, by simp [wkL, res2, res1, res3, PV.weak, PV.el, ints, Sm.pv, It.pv, rq0]⟩ | simp [wkL, res2, res1, res3, PV.weak, PV.el, ints, Sm.pv, It.pv, rq0] | trace_state
def beginS (s : Sm) : Sm :=
  if s.b = true then s
  else if s.r.length < 4 then s
  else if s.r.take 4 = beg0 then ⟨true, s.d, 0, s.r.drop 4⟩
  else if s.r.take 4 = beg1 then ⟨true, s.d, 1, s.r.drop 4⟩
  else ⟨false, true, 0, []⟩
set_option maxHeartbeats 2000000 in
theorem begin_fs (s : Sm) : Fsp Tryd.prog 33 [] 0 [s.pv] [] 0 (beginS s).pv := by
  obtain ⟨b, d, o, r⟩ := s
  have hb0 := bgn_fs 0
  have hb1 := bgn_fs 1
  rw [show bgn 0 = beg0 from rfl] at hb0
  rw [show bgn 1 = beg1 from rfl] at hb1
  unfold beginS
  simp only
  cases b with
  | true =>
    rw [if_pos rfl]
    (refine Fsp.of (nx := 0) mixed Tryd.func33 rfl (by decide) (by first | exact Nat.le_refl _ | simp) (by simp [Tryd.f33]) ⟨by decide, by decide⟩ ?_; simp -implicitDefEqProofs only [push_cast, Tryd.f33, Sm.pv, Int.reduceBEq, Int.reduceBNe, Int.reduceEq, Int.reduceNe, Int.reducePow, Nat.reduceAdd, Nat.reduceMul, Nat.reduceSub, Nat.reduceLT, Nat.reduceLeDiff, Nat.reduceEqDiff, Nat.reduceBEq, Int.reduceLT, Int.reduceLE, Int.reduceAdd, Int.reduceSub, Int.reduceMul, Int.reduceToNat, Int.reduceNeg, reduceIte, reduceCtorEq, reduceBEq])
    (repeat (first | refine ⟨by omega, ?_⟩ | refine ⟨by (unfold drawOk; kernel_rfl), ?_⟩))
    all_goals first | done | rfl | omega | (unfold drawOk; kernel_rfl) | exact ⟨by (unfold drawOk; kernel_rfl), _, rfl, by simp [wkL, res2, res1, res3, PV.weak, PV.el]⟩ | exact ⟨_, rfl, by simp [wkL, res2, res1, res3, PV.weak, PV.el, ints, Sm.pv, It.pv, rq0]⟩ | simp [wkL, res2, res1, res3, PV.weak, PV.el, ints, Sm.pv, It.pv, rq0] | trace_state
  | false =>
    rw [if_neg Bool.false_ne_true]
    cases h1 : decide ((r.length : Int) < 4)
    · have h1' : ¬ r.length < 4 := by simp at h1; omega
      have g4 : 4 ≤ r.length := by omega
      have htk : List.take (r.length - 4) (List.drop 4 r) = List.drop 4 r := List.take_of_length_le (by simp)
      rw [if_neg h1']
      cases h2 : (r.take 4 == beg0)
      · have h2' : ¬ r.take 4 = beg0 := by simpa using h2
        rw [if_neg h2']
        cases h3 : (r.take 4 == beg1)
        · have h3' : ¬ r.take 4 = beg1 := by simpa using h3
          rw [if_neg h3']
          (refine Fsp.of (nx := 0) mixed Tryd.func33 rfl (by decide) (by first | exact Nat.le_refl _ | simp) (by simp [Tryd.f33]) ⟨by decide, by decide⟩ ?_; simp -implicitDefEqProofs only [push_cast, Tryd.f33, Sm.pv, h1, Int.reduceBEq, Int.reduceBNe, Int.reduceEq, Int.reduceNe, Int.reducePow, Nat.reduceAdd, Nat.reduceMul, Nat.reduceSub, Nat.reduceLT, Nat.reduceLeDiff, Nat.reduceEqDiff, Nat.reduceBEq, Int.reduceLT, Int.reduceLE, Int.reduceAdd, Int.reduceSub, Int.reduceMul, Int.reduceToNat, Int.reduceNeg, reduceIte, reduceCtorEq, reduceBEq])
          (repeat (first | refine ⟨by omega, ?_⟩ | refine ⟨by (unfold drawOk; kernel_rfl), ?_⟩))
          refine callE_pure hb0 (by rfl) (by rfl) (by rfl) (by decide) (by rfl) (fun _ => by rfl) (by first | rfl | simp [gdOk, newToks]) ?_
          simp -implicitDefEqProofs only [push_cast, h2, Int.reduceBEq, Int.reduceBNe, Int.reduceEq, Int.reduceNe, Int.reducePow, Nat.reduceAdd, Nat.reduceMul, Nat.reduceSub, Nat.reduceLT, Nat.reduceLeDiff, Nat.reduceEqDiff, Nat.reduceBEq, Int.reduceLT, Int.reduceLE, Int.reduceAdd, Int.reduceSub, Int.reduceMul, Int.reduceToNat, Int.reduceNeg, reduceIte, reduceCtorEq, reduceBEq]
          refine callE_pure hb1 (by rfl) (by rfl) (by rfl) (by decide) (by rfl) (fun _ => by rfl) (by first | rfl | simp [gdOk, newToks]) ?_
          simp -implicitDefEqProofs only [push_cast, h3, Int.reduceBEq, Int.reduceBNe, Int.reduceEq, Int.reduceNe, Int.reducePow, Nat.reduceAdd, Nat.reduceMul, Nat.reduceSub, Nat.reduceLT, Nat.reduceLeDiff, Nat.reduceEqDiff, Nat.reduceBEq, Int.reduceLT, Int.reduceLE, Int.reduceAdd, Int.reduceSub, Int.reduceMul, Int.reduceToNat, Int.reduceNeg, reduceIte, reduceCtorEq, reduceBEq]
          (repeat (first | refine ⟨by omega, ?_⟩ | refine ⟨by (unfold drawOk; kernel_rfl), ?_⟩))
          all_goals first | done | rfl | omega | (unfold drawOk; kernel_rfl) | exact ⟨by (unfold drawOk; kernel_rfl), _, rfl, by simp [wkL, res2, res1, res3, PV.weak, PV.el]⟩ | exact ⟨_, rfl, by simp [wkL, res2, res1, res3, PV.weak, PV.el, ints, Sm.pv, It.pv, rq0]⟩ | simp [wkL, res2, res1, res3, PV.weak, PV.el, ints, Sm.pv, It.pv, rq0] | trace_state
        · have h3' : r.take 4 = beg1 := by simpa using h3
          rw [if_pos h3']
          (refine Fsp.of (nx := 0) mixed Tryd.func33 rfl (by decide) (by first | exact Nat.le_refl _ | simp) (by simp [Tryd.f33]) ⟨by decide, by decide⟩ ?_; simp -implicitDefEqProofs only [push_cast, Tryd.f33, Sm.pv, h1, Int.reduceBEq, Int.reduceBNe, Int.reduceEq, Int.reduceNe, Int.reducePow, Nat.reduceAdd, Nat.reduceMul, Nat.reduceSub, Nat.reduceLT, Nat.reduceLeDiff, Nat.reduceEqDiff, Nat.reduceBEq, Int.reduceLT, Int.reduceLE, Int.reduceAdd, Int.reduceSub, Int.reduceMul, Int.reduceToNat, Int.reduceNeg, reduceIte, reduceCtorEq, reduceBEq])
          (repeat (first | refine ⟨by omega, ?_⟩ | refine ⟨by (unfold drawOk; kernel_rfl), ?_⟩))
          refine callE_pure hb0 (by rfl) (by rfl) (by rfl) (by decide) (by rfl) (fun _ => by rfl) (by first | rfl | simp [gdOk, newToks]) ?_
          simp -implicitDefEqProofs only [push_cast, h2, Int.reduceBEq, Int.reduceBNe, Int.reduceEq, Int.reduceNe, Int.reducePow, Nat.reduceAdd, Nat.reduceMul, Nat.reduceSub, Nat.reduceLT, Nat.reduceLeDiff, Nat.reduceEqDiff, Nat.reduceBEq, Int.reduceLT, Int.reduceLE, Int.reduceAdd, Int.reduceSub, Int.reduceMul, Int.reduceToNat, Int.reduceNeg, reduceIte, reduceCtorEq, reduceBEq]
          refine callE_pure hb1 (by rfl) (by rfl) (by rfl) (by decide) (by rfl) (fun _ => by rfl) (by first | rfl | simp [gdOk, newToks]) ?_
          simp -implicitDefEqProofs only [push_cast, h3, htk, Int.reduceBEq, Int.reduceBNe, Int.reduceEq, Int.reduceNe, Int.reducePow, Nat.reduceAdd, Nat.reduceMul, Nat.reduceSub, Nat.reduceLT, Nat.reduceLeDiff, Nat.reduceEqDiff, Nat.reduceBEq, Int.reduceLT, Int.reduceLE, Int.reduceAdd, Int.reduceSub, Int.reduceMul, Int.reduceToNat, Int.reduceNeg, reduceIte, reduceCtorEq, reduceBEq]
          (repeat (first | refine ⟨by omega, ?_⟩ | refine ⟨by (unfold drawOk; kernel_rfl), ?_⟩))
          (repeat (first | refine ⟨by omega, ?_⟩ | refine ⟨by (unfold drawOk; kernel_rfl), ?_⟩))
          all_goals first | done | rfl | omega | (unfold drawOk; kernel_rfl) | exact ⟨by (unfold drawOk; kernel_rfl), _, rfl, by simp [wkL, res2, res1, res3, PV.weak, PV.el]⟩ | exact ⟨_, rfl, by simp [wkL, res2, res1, res3, PV.weak, PV.el, ints, Sm.pv, It.pv, rq0]⟩ | simp [wkL, res2, res1, res3, PV.weak, PV.el, ints, Sm.pv, It.pv, rq0] | trace_state
      · have h2' : r.take 4 = beg0 := by simpa using h2
        rw [if_pos h2']
        (refine Fsp.of (nx := 0) mixed Tryd.func33 rfl (by decide) (by first | exact Nat.le_refl _ | simp) (by simp [Tryd.f33]) ⟨by decide, by decide⟩ ?_; simp -implicitDefEqProofs only [push_cast, Tryd.f33, Sm.pv, h1, Int.reduceBEq, Int.reduceBNe, Int.reduceEq, Int.reduceNe, Int.reducePow, Nat.reduceAdd, Nat.reduceMul, Nat.reduceSub, Nat.reduceLT, Nat.reduceLeDiff, Nat.reduceEqDiff, Nat.reduceBEq, Int.reduceLT, Int.reduceLE, Int.reduceAdd, Int.reduceSub, Int.reduceMul, Int.reduceToNat, Int.reduceNeg, reduceIte, reduceCtorEq, reduceBEq])
        (repeat (first | refine ⟨by omega, ?_⟩ | refine ⟨by (unfold drawOk; kernel_rfl), ?_⟩))
        refine callE_pure hb0 (by rfl) (by rfl) (by rfl) (by decide) (by rfl) (fun _ => by rfl) (by first | rfl | simp [gdOk, newToks]) ?_
        simp -implicitDefEqProofs only [push_cast, h2, htk, Int.reduceBEq, Int.reduceBNe, Int.reduceEq, Int.reduceNe, Int.reducePow, Nat.reduceAdd, Nat.reduceMul, Nat.reduceSub, Nat.reduceLT, Nat.reduceLeDiff, Nat.reduceEqDiff, Nat.reduceBEq, Int.reduceLT, Int.reduceLE, Int.reduceAdd, Int.reduceSub, Int.reduceMul, Int.reduceToNat, Int.reduceNeg, reduceIte, reduceCtorEq, reduceBEq]
        (repeat (first | refine ⟨by omega, ?_⟩ | refine ⟨by (unfold drawOk; kernel_rfl), ?_⟩))
        (repeat (first | refine ⟨by omega, ?_⟩ | refine ⟨by (unfold drawOk; kernel_rfl), ?_⟩))
        all_goals first | done | rfl | omega | (unfold drawOk; kernel_rfl) | exact ⟨by (unfold drawOk; kernel_rfl), _, rfl, by simp [wkL, res2, res1, res3, PV.weak, PV.el]⟩ | exact ⟨_, rfl, by simp [wkL, res2, res1, res3, PV.weak, PV.el, ints, Sm.pv, It.pv, rq0]⟩ | simp [wkL, res2, res1, res3, PV.weak, PV.el, ints, Sm.pv, It.pv, rq0] | trace_state
    · have h1' : r.length < 4 := by simp at h1; omega
      rw [if_pos h1']
      (refine Fsp.of (nx := 0) mixed Tryd.func33 rfl (by decide) (by first | exact Nat.le_refl _ | simp) (by simp [Tryd.f33]) ⟨by decide, by decide⟩ ?_; simp -implicitDefEqProofs only [push_cast, Tryd.f33, Sm.pv, h1, Int.reduceBEq, Int.reduceBNe, Int.reduceEq, Int.reduceNe, Int.reducePow, Nat.reduceAdd, Nat.reduceMul, Nat.reduceSub, Nat.reduceLT, Nat.reduceLeDiff, Nat.reduceEqDiff, Nat.reduceBEq, Int.reduceLT, Int.reduceLE, Int.reduceAdd, Int.reduceSub, Int.reduceMul, Int.reduceToNat, Int.reduceNeg, reduceIte, reduceCtorEq, reduceBEq])
      (repeat (first | refine ⟨by omega, ?_⟩ | refine ⟨by (unfold drawOk; kernel_rfl), ?_⟩))
      all_goals first | done | rfl | omega | (unfold drawOk; kernel_rfl) | exact ⟨by (unfold drawOk; kernel_rfl), _, rfl, by simp [wkL, res2, res1, res3, PV.weak, PV.el]⟩ | exact ⟨_, rfl, by simp [wkL, res2, res1, res3, PV.weak, PV.el, ints, Sm.pv, It.pv, rq0]⟩ | simp [wkL, res2, res1, res3, PV.weak, PV.el, ints, Sm.pv, It.pv, rq0] | trace_state
def itemOf (o : Int) (s : List UInt8) : It :=
  if (getP o s).2 = 0 then ⟨(getP o s).1, 0, (getP o s).1.C⟩
  else if (getP o s).2 = 10 then ⟨rq0, 1, (s.getD 0 0).toNat⟩
  else ⟨rq0, 16, (s.getD 0 0).toNat⟩
set_option maxHeartbeats 2000000 in
theorem item_fs (o : Int) (s : List UInt8) (hs : s.length ≤ 1000000) (h0 : 0 < s.length) : Fsp Tryd.prog 35 [] 0 [.int .i64 o, .str s] [] 0 (itemOf o s).pv := by
  have hg := packGet_fs o s hs
  rw [getPR] at hg
  unfold itemOf
  generalize getP o s = x at *
  obtain ⟨⟨c, N, B, L⟩, e⟩ := x
  simp only [Rq.pv] at hg
  simp only
  cases h1 : (e == 0)
  · have h1' : ¬ e = 0 := by simpa using h1
    rw [if_neg h1']
    cases h2 : (e == 10)
    · have h2' : ¬ e = 10 := by simpa using h2
      rw [if_neg h2']
      (refine Fsp.of (nx := 0) mixed Tryd.func35 rfl (by decide) (by first | exact Nat.le_refl _ | simp) (by simp [Tryd.f35]) ⟨by decide, by decide⟩ ?_; simp -implicitDefEqProofs only [push_cast, Tryd.f35, Int.reduceBEq, Int.reduceBNe, Int.reduceEq, Int.reduceNe, Int.reducePow, Nat.reduceAdd, Nat.reduceMul, Nat.reduceSub, Nat.reduceLT, Nat.reduceLeDiff, Nat.reduceEqDiff, Nat.reduceBEq, Int.reduceLT, Int.reduceLE, Int.reduceAdd, Int.reduceSub, Int.reduceMul, Int.reduceToNat, Int.reduceNeg, reduceIte, reduceCtorEq, reduceBEq])
      refine callE_pure hg (by rfl) (by rfl) (by rfl) (by decide) (by rfl) (fun _ => by rfl) (by first | rfl | simp [gdOk, newToks]) ?_
      simp -implicitDefEqProofs only [push_cast, h1, h2, wb, Int.reduceBEq, Int.reduceBNe, Int.reduceEq, Int.reduceNe, Int.reducePow, Nat.reduceAdd, Nat.reduceMul, Nat.reduceSub, Nat.reduceLT, Nat.reduceLeDiff, Nat.reduceEqDiff, Nat.reduceBEq, Int.reduceLT, Int.reduceLE, Int.reduceAdd, Int.reduceSub, Int.reduceMul, Int.reduceToNat, Int.reduceNeg, reduceIte, reduceCtorEq, reduceBEq]
      (repeat (first | refine ⟨by omega, ?_⟩ | refine ⟨by (unfold drawOk; kernel_rfl), ?_⟩))
      (repeat (first | refine ⟨by omega, ?_⟩ | refine ⟨by (unfold drawOk; kernel_rfl), ?_⟩))
      all_goals first | done | rfl | omega | (unfold drawOk; kernel_rfl) | exact ⟨by (unfold drawOk; kernel_rfl), _, rfl, by simp [wkL, res2, res1, res3, PV.weak, PV.el]⟩ | exact ⟨_, rfl, by simp [wkL, res2, res1, res3, PV.weak, PV.el, ints, Sm.pv, It.pv, rq0]⟩ | simp [wkL, res2, res1, res3, PV.weak, PV.el, ints, Sm.pv, It.pv, rq0] | trace_state
    · have h2' : e = 10 := by simpa using h2
      rw [if_pos h2']
      (refine Fsp.of (nx := 0) mixed Tryd.func35 rfl (by decide) (by first | exact Nat.le_refl _ | simp) (by simp [Tryd.f35]) ⟨by decide, by decide⟩ ?_; simp -implicitDefEqProofs only [push_cast, Tryd.f35, Int.reduceBEq, Int.reduceBNe, Int.reduceEq, Int.reduceNe, Int.reducePow, Nat.reduceAdd, Nat.reduceMul, Nat.reduceSub, Nat.reduceLT, Nat.reduceLeDiff, Nat.reduceEqDiff, Nat.reduceBEq, Int.reduceLT, Int.reduceLE, Int.reduceAdd, Int.reduceSub, Int.reduceMul, Int.reduceToNat, Int.reduceNeg, reduceIte, reduceCtorEq, reduceBEq])
      refine callE_pure hg (by rfl) (by rfl) (by rfl) (by decide) (by rfl) (fun _ => by rfl) (by first | rfl | simp [gdOk, newToks]) ?_
      simp -implicitDefEqProofs only [push_cast, h1, h2, wb, Int.reduceBEq, Int.reduceBNe, Int.reduceEq, Int.reduceNe, Int.reducePow, Nat.reduceAdd, Nat.reduceMul, Nat.reduceSub, Nat.reduceLT, Nat.reduceLeDiff, Nat.reduceEqDiff, Nat.reduceBEq, Int.reduceLT, Int.reduceLE, Int.reduceAdd, Int.reduceSub, Int.reduceMul, Int.reduceToNat, Int.reduceNeg, reduceIte, reduceCtorEq, reduceBEq]
      (repeat (first | refine ⟨by omega, ?_⟩ | refine ⟨by (unfold drawOk; kernel_rfl), ?_⟩))
      (repeat (first | refine ⟨by omega, ?_⟩ | refine ⟨by (unfold drawOk; kernel_rfl), ?_⟩))
      all_goals first | done | rfl | omega | (unfold drawOk; kernel_rfl) | exact ⟨by (unfold drawOk; kernel_rfl), _, rfl, by simp [wkL, res2, res1, res3, PV.weak, PV.el]⟩ | exact ⟨_, rfl, by simp [wkL, res2, res1, res3, PV.weak, PV.el, ints, Sm.pv, It.pv, rq0]⟩ | simp [wkL, res2, res1, res3, PV.weak, PV.el, ints, Sm.pv, It.pv, rq0] | trace_state
  · have h1' : e = 0 := by simpa using h1
    rw [if_pos h1']
    (refine Fsp.of (nx := 0) mixed Tryd.func35 rfl (by decide) (by first | exact Nat.le_refl _ | simp) (by simp [Tryd.f35]) ⟨by decide, by decide⟩ ?_; simp -implicitDefEqProofs only [push_cast, Tryd.f35, Int.reduceBEq, Int.reduceBNe, Int.reduceEq, Int.reduceNe, Int.reducePow, Nat.reduceAdd, Nat.reduceMul, Nat.reduceSub, Nat.reduceLT, Nat.reduceLeDiff, Nat.reduceEqDiff, Nat.reduceBEq, Int.reduceLT, Int.reduceLE, Int.reduceAdd, Int.reduceSub, Int.reduceMul, Int.reduceToNat, Int.reduceNeg, reduceIte, reduceCtorEq, reduceBEq])
    refine callE_pure hg (by rfl) (by rfl) (by rfl) (by decide) (by rfl) (fun _ => by rfl) (by first | rfl | simp [gdOk, newToks]) ?_
    simp -implicitDefEqProofs only [push_cast, h1, Int.reduceBEq, Int.reduceBNe, Int.reduceEq, Int.reduceNe, Int.reducePow, Nat.reduceAdd, Nat.reduceMul, Nat.reduceSub, Nat.reduceLT, Nat.reduceLeDiff, Nat.reduceEqDiff, Nat.reduceBEq, Int.reduceLT, Int.reduceLE, Int.reduceAdd, Int.reduceSub, Int.reduceMul, Int.reduceToNat, Int.reduceNeg, reduceIte, reduceCtorEq, reduceBEq]
    (repeat (first | refine ⟨by omega, ?_⟩ | refine ⟨by (unfold drawOk; kernel_rfl), ?_⟩))
    (repeat (first | refine ⟨by omega, ?_⟩ | refine ⟨by (unfold drawOk; kernel_rfl), ?_⟩))
    all_goals first | done | rfl | omega | (unfold drawOk; kernel_rfl) | exact ⟨by (unfold drawOk; kernel_rfl), _, rfl, by simp [wkL, res2, res1, res3, PV.weak, PV.el]⟩ | exact ⟨_, rfl, by simp [wkL, res2, res1, res3, PV.weak, PV.el, ints, Sm.pv, It.pv, rq0]⟩ | simp [wkL, res2, res1, res3, PV.weak, PV.el, ints, Sm.pv, It.pv, rq0] | trace_state

end Go.Proofs.Sh
