/- Streams: awake. -/
import Derived.Test.YtplaaagcbleflaaDoorSxFeed
import Derived.Test.YtplaaagcbleflaaDoorPvZ
import Derived.Test.YtplaaagcbleflaaDoorSxIt
set_option maxRecDepth 100000
set_option linter.unusedSimpArgs false
set_option linter.unusedVariables false
namespace Go.Proofs.Sh
open Go.Pv
def awkB : List UInt8 := [66, 1, 0, 0, 58, 0, 0, 1, 99, 0, 0, 1, 58]
def jnkB : List UInt8 := [66, 1, 0, 0, 58, 0, 0, 1]
def isSm0 : PV → Bool := pvEq sm0.pv
def fdCl : Cl := fnCl 13 fun args => match args with
  | [s, .str b] => if isSm0 s then (if u8sEq b awkB then some (feedR sm0 awkB) else if u8sEq b jnkB then some (feedR sm0 jnkB) else none) else none
  | _ => none
theorem fdCl_ok : fdCl.Ok Tryd.prog := fnCl_ok fun args r h => by
  split at h
  · rename_i s b
    split at h
    · rename_i hs
      have hs := pvEq_eq hs
      subst hs
      split at h
      · rename_i hb; cases h
        rw [u8sEq_eq hb]; exact feed_fs sm0 awkB (by simp [sm0, awkB])
      · split at h
        · rename_i hb; cases h
          rw [u8sEq_eq hb]; exact feed_fs sm0 jnkB (by simp [sm0, jnkB])
        · cases h
    · cases h
  · cases h
def restCl : Cl := fnCl 16 fun args => match args with
  | [s] => if pvEq (feedS sm0 awkB).1.pv s then some (.int .i64 1) else none
  | _ => none
theorem awake_fs : Fsp Tryd.prog 19 [] 0 [] [] 0 (.bool true) := ranTrue mixed fdCl_ok (wbf := fun f => false) (n := 60) (d := 10) (by kernel_rfl)
theorem junkAwake_fs : Fsp Tryd.prog 12 [] 0 [] [] 0 (.bool true) := ranTrue mixed fdCl_ok (wbf := fun f => false) (n := 60) (d := 10) (by kernel_rfl)
end Go.Proofs.Sh

/- What is read is not long. -/
set_option maxRecDepth 100000
set_option linter.unusedSimpArgs false
set_option linter.unusedVariables false
namespace Go.Proofs.Sh
open Go.Pv
theorem stB_len (o : Int) (s : List UInt8) (b : Bool) (c : Cu) : (stB o s b c).2.1.length ≤ s.length := by
  unfold stB
  split
  · split
    · split
      · simp
      · simp only [List.length_take, List.length_drop]; omega
    · simp
  · simp
theorem stL_len {o : Int} (ho : isOrder o) {s : List UInt8} (hs : s.length ≤ 1000000) {z : Int} (hz : z = 0 ∨ isSize z) (c : Cu) : (stL o s z c).1.length ≤ 1000000 := by
  unfold stL
  split
  · simp
  · rename_i h0
    have hw := wid_pos (hz.resolve_left h0)
    split
    · split
      · simp
      · rename_i h2
        have hn := num4 (o := o) (s := s) ho c
        generalize num o s 4 c = q at *
        obtain ⟨q1, q2⟩ := q
        simp only at hn h2
        obtain ⟨n, rfl⟩ := Int.eq_ofNat_of_zero_le hn.1
        simp only [nums_length, List.length_replicate, Int.toNat_natCast]
        have h3 : (n : Int) * (wid z : Int) = ((n * wid z : Nat) : Int) := by rw [Int.natCast_mul]
        rw [h3] at h2
        have h4 : n * 1 ≤ n * wid z := Nat.mul_le_mul_left _ hw.1
        omega
    · simp
theorem getF_few {o : Int} (ho : isOrder o) {f : Fm} (h : f.Ok) {s : List UInt8} (hs : s.length ≤ 1000000) : (getF o f s).1.N.length ≤ 1000000 ∧ (getF o f s).1.B.length ≤ 1000000 ∧ (getF o f s).1.L.length ≤ 1000000 := by
  have hb : (body o s f ⟨0, 0⟩).1.N.length ≤ 1000000 ∧ (body o s f ⟨0, 0⟩).1.B.length ≤ 1000000 ∧ (body o s f ⟨0, 0⟩).1.L.length ≤ 1000000 := by
    have hn := h.n
    unfold body
    split
    · refine ⟨?_, ?_, ?_⟩
      · simp only [nums_length]; omega
      · exact Nat.le_trans (stB_len o s _ _) hs
      · exact stL_len ho hs h.l _
    · refine ⟨?_, ?_, ?_⟩
      · simp only [nums_length]; omega
      · simp
      · simp
  unfold getF
  split
  · simp [fd0]
  · split
    · exact hb
    · simp [fd0]
theorem getP_few {o : Int} {s : List UInt8} (hs : s.length ≤ 1000000) : (getP o s).1.Few := by
  have h0 : rq0.Few := ⟨by simp [rq0], by simp [rq0], by simp [rq0]⟩
  unfold getP
  split
  · rename_i ho
    split
    · exact h0
    · split
      · exact h0
      · rename_i f hf
        obtain ⟨hok, -, -⟩ := formOf_some hf
        have hb := getF_few (isOrd_of ho) hok (s := s.drop 4) (by simp; omega)
        unfold getQ
        split
        · split
          · split
            · split
              · exact ⟨hb.1, hb.2.1, hb.2.2⟩
              · exact h0
            · exact h0
          · exact h0
        · exact h0
  · exact h0
end Go.Proofs.Sh

/- The laws of streams: item, same, all. -/
set_option maxRecDepth 100000
set_option linter.unusedSimpArgs false
set_option linter.unusedVariables false
namespace Go.Proofs.Sh
open Go.Pv

set_option maxHeartbeats 2000000 in
theorem litem_fs (o : Int) (s : List UInt8) (hs : s.length ≤ 1000000) (h0 : 0 < s.length) : Fsp Tryd.prog 28 [] 0 [.int .i64 o, .str s] [] 0 (itemOf o s).pv := by
  have hg := packGet_fs o s hs
  rw [getPR] at hg
  unfold itemOf
  generalize getP o s = x at *
  obtain ⟨⟨c, N, B, L⟩, e⟩ := x
  simp only [Rq.pv] at hg
  simp only
  cases h1 : (e == 0)
  · have h1' : ¬ e = 0 := by simpa using h1
    rw [if_neg h1']
    cases h2 : (e == 10)
    · have h2' : ¬ e = 10 := by simpa using h2
      rw [if_neg h2']
      (refine Fsp.of (nx := 0) mixed Tryd.func28 rfl (by decide) (by first | exact Nat.le_refl _ | simp) (by simp [Tryd.f28]) ⟨by decide, by decide⟩ ?_; simp -implicitDefEqProofs only [push_cast, Tryd.f28, Int.reduceBEq, Int.reduceBNe, Int.reduceEq, Int.reduceNe, Int.reducePow, Nat.reduceAdd, Nat.reduceMul, Nat.reduceSub, Nat.reduceLT, Nat.reduceLeDiff, Nat.reduceEqDiff, Nat.reduceBEq, Int.reduceLT, Int.reduceLE, Int.reduceAdd, Int.reduceSub, Int.reduceMul, Int.reduceToNat, Int.reduceNeg, reduceIte, reduceCtorEq, reduceBEq])
      refine callE_pure hg (by rfl) (by rfl) (by rfl) (by decide) (by rfl) (fun _ => by rfl) (by first | rfl | simp [gdOk, newToks]) ?_
      simp -implicitDefEqProofs only [push_cast, h1, h2, wb, Int.reduceBEq, Int.reduceBNe, Int.reduceEq, Int.reduceNe, Int.reducePow, Nat.reduceAdd, Nat.reduceMul, Nat.reduceSub, Nat.reduceLT, Nat.reduceLeDiff, Nat.reduceEqDiff, Nat.reduceBEq, Int.reduceLT, Int.reduceLE, Int.reduceAdd, Int.reduceSub, Int.reduceMul, Int.reduceToNat, Int.reduceNeg, reduceIte, reduceCtorEq, reduceBEq]
      (repeat (first | refine ⟨by omega, ?_⟩ | refine ⟨by (unfold drawOk; kernel_rfl), ?_⟩))
      (repeat (first | refine ⟨by omega, ?_⟩ | refine ⟨by (unfold drawOk; kernel_rfl), ?_⟩))
      all_goals first | done | rfl | omega | (unfold drawOk; kernel_rfl) | exact ⟨by (unfold drawOk; kernel_rfl), _, rfl, by simp [wkL, res2, res1, res3, PV.weak, PV.el]⟩ | exact ⟨_, rfl, by simp [wkL, res2, res1, res3, PV.weak, PV.el, ints, Sm.pv, It.pv, rq0]⟩ | simp [wkL, res2, res1, res3, PV.weak, PV.el, ints, Sm.pv, It.pv, rq0] | skip
    · have h2' : e = 10 := by simpa using h2
      rw [if_pos h2']
      (refine Fsp.of (nx := 0) mixed Tryd.func28 rfl (by decide) (by first | exact Nat.le_refl _ | simp) (by simp [Tryd.f28]) ⟨by decide, by decide⟩ ?_; simp -implicitDefEqProofs only [push_cast, Tryd.f28, Int.reduceBEq, Int.reduceBNe, Int.reduceEq, Int.reduceNe, Int.reducePow, Nat.reduceAdd, Nat.reduceMul, Nat.reduceSub, Nat.reduceLT, Nat.reduceLeDiff, Nat.reduceEqDiff, Nat.reduceBEq, Int.reduceLT, Int.reduceLE, Int.reduceAdd, Int.reduceSub, Int.reduceMul, Int.reduceToNat, Int.reduceNeg, reduceIte, reduceCtorEq, reduceBEq])
      refine callE_pure hg (by rfl) (by rfl) (by rfl) (by decide) (by rfl) (fun _ => by rfl) (by first | rfl | simp [gdOk, newToks]) ?_
      simp -implicitDefEqProofs only [push_cast, h1, h2, wb, Int.reduceBEq, Int.reduceBNe, Int.reduceEq, Int.reduceNe, Int.reducePow, Nat.reduceAdd, Nat.reduceMul, Nat.reduceSub, Nat.reduceLT, Nat.reduceLeDiff, Nat.reduceEqDiff, Nat.reduceBEq, Int.reduceLT, Int.reduceLE, Int.reduceAdd, Int.reduceSub, Int.reduceMul, Int.reduceToNat, Int.reduceNeg, reduceIte, reduceCtorEq, reduceBEq]
      (repeat (first | refine ⟨by omega, ?_⟩ | refine ⟨by (unfold drawOk; kernel_rfl), ?_⟩))
      (repeat (first | refine ⟨by omega, ?_⟩ | refine ⟨by (unfold drawOk; kernel_rfl), ?_⟩))
      all_goals first | done | rfl | omega | (unfold drawOk; kernel_rfl) | exact ⟨by (unfold drawOk; kernel_rfl), _, rfl, by simp [wkL, res2, res1, res3, PV.weak, PV.el]⟩ | exact ⟨_, rfl, by simp [wkL, res2, res1, res3, PV.weak, PV.el, ints, Sm.pv, It.pv, rq0]⟩ | simp [wkL, res2, res1, res3, PV.weak, PV.el, ints, Sm.pv, It.pv, rq0] | skip
  · have h1' : e = 0 := by simpa using h1
    rw [if_pos h1']
    (refine Fsp.of (nx := 0) mixed Tryd.func28 rfl (by decide) (by first | exact Nat.le_refl _ | simp) (by simp [Tryd.f28]) ⟨by decide, by decide⟩ ?_; simp -implicitDefEqProofs only [push_cast, Tryd.f28, Int.reduceBEq, Int.reduceBNe, Int.reduceEq, Int.reduceNe, Int.reducePow, Nat.reduceAdd, Nat.reduceMul, Nat.reduceSub, Nat.reduceLT, Nat.reduceLeDiff, Nat.reduceEqDiff, Nat.reduceBEq, Int.reduceLT, Int.reduceLE, Int.reduceAdd, Int.reduceSub, Int.reduceMul, Int.reduceToNat, Int.reduceNeg, reduceIte, reduceCtorEq, reduceBEq])
    refine callE_pure hg (by rfl) (by rfl) (by rfl) (by decide) (by rfl) (fun _ => by rfl) (by first | rfl | simp [gdOk, newToks]) ?_
    simp -implicitDefEqProofs only [push_cast, h1, Int.reduceBEq, Int.reduceBNe, Int.reduceEq, Int.reduceNe, Int.reducePow, Nat.reduceAdd, Nat.reduceMul, Nat.reduceSub, Nat.reduceLT, Nat.reduceLeDiff, Nat.reduceEqDiff, Nat.reduceBEq, Int.reduceLT, Int.reduceLE, Int.reduceAdd, Int.reduceSub, Int.reduceMul, Int.reduceToNat, Int.reduceNeg, reduceIte, reduceCtorEq, reduceBEq]
    (repeat (first | refine ⟨by omega, ?_⟩ | refine ⟨by (unfold drawOk; kernel_rfl), ?_⟩))
    (repeat (first | refine ⟨by omega, ?_⟩ | refine ⟨by (unfold drawOk; kernel_rfl), ?_⟩))
    all_goals first | done | rfl | omega | (unfold drawOk; kernel_rfl) | exact ⟨by (unfold drawOk; kernel_rfl), _, rfl, by simp [wkL, res2, res1, res3, PV.weak, PV.el]⟩ | exact ⟨_, rfl, by simp [wkL, res2, res1, res3, PV.weak, PV.el, ints, Sm.pv, It.pv, rq0]⟩ | simp [wkL, res2, res1, res3, PV.weak, PV.el, ints, Sm.pv, It.pv, rq0] | skip
theorem itemOf_few (o : Int) (s : List UInt8) (hs : s.length ≤ 1000000) : (itemOf o s).R.Few := by
  unfold itemOf
  split
  · exact getP_few hs
  · split
    · exact ⟨by simp [rq0], by simp [rq0], by simp [rq0]⟩
    · exact ⟨by simp [rq0], by simp [rq0], by simp [rq0]⟩
theorem sameR_refl' (x : Rq) : sameR x x = true := by simp [sameR]
theorem samei_fs (x : It) (hx : x.R.Few) : Fsp Tryd.prog 32 [] 0 [x.pv, x.pv] [] 0 (.bool true) := by
  have hp := packSame_fs x.R x.R hx hx
  rw [sameR_refl'] at hp
  simp only [Rq.pv] at hp
  (refine Fsp.of (nx := 0) mixed Tryd.func32 rfl (by decide) (by first | exact Nat.le_refl _ | simp) (by simp [Tryd.f32]) ⟨by decide, by decide⟩ ?_; simp -implicitDefEqProofs only [push_cast, Tryd.f32, It.pv, beq_self_eq_true, Int.reduceBEq, Int.reduceBNe, Int.reduceEq, Int.reduceNe, Int.reducePow, Nat.reduceAdd, Nat.reduceMul, Nat.reduceSub, Nat.reduceLT, Nat.reduceLeDiff, Nat.reduceEqDiff, Nat.reduceBEq, Int.reduceLT, Int.reduceLE, Int.reduceAdd, Int.reduceSub, Int.reduceMul, Int.reduceToNat, Int.reduceNeg, reduceIte, reduceCtorEq, reduceBEq])
  refine callE_pure hp (by rfl) (by rfl) (by rfl) (by decide) (by rfl) (fun _ => by rfl) (by first | rfl | simp [gdOk, newToks]) ?_
  simp -implicitDefEqProofs only [push_cast, Int.reduceBEq, Int.reduceBNe, Int.reduceEq, Int.reduceNe, Int.reducePow, Nat.reduceAdd, Nat.reduceMul, Nat.reduceSub, Nat.reduceLT, Nat.reduceLeDiff, Nat.reduceEqDiff, Nat.reduceBEq, Int.reduceLT, Int.reduceLE, Int.reduceAdd, Int.reduceSub, Int.reduceMul, Int.reduceToNat, Int.reduceNeg, reduceIte, reduceCtorEq, reduceBEq]
def it0 : It := ⟨rq0, 0, 0⟩
theorem it_at {X : List It} {i : Nat} (h : i < X.length) : (itL X).getD i PV.any = (X.getD i it0).pv := by
  rw [itL, List.getD_eq_getElem?_getD, List.getElem?_map, List.getElem?_eq_getElem h, List.getD_eq_getElem?_getD, List.getElem?_eq_getElem h]; rfl
structure AlS (X : List It) where
  i : Nat
  h : i ≤ X.length
def AlS.st {X : List It} (s : AlS X) : PS := { n := 27, env := [(5, .int .i64 s.i), (4, .bool false), (0, .sl 6 (itL X)), (1, .sl 6 (itL X))], objs := [], live := [], nxt := 4 }
set_option maxHeartbeats 4000000 in
theorem all_fs (X : List It) (hf : ∀ x ∈ X, x.R.Few) (hl : X.length ≤ 1000000) : Fsp Tryd.prog 29 [] 0 [.sl 6 (itL X), .sl 6 (itL X)] [] 0 (.bool true) := by
  (refine Fsp.of (nx := 0) mixed Tryd.func29 rfl (by decide) (by first | exact Nat.le_refl _ | simp) (by simp [Tryd.f29]) ⟨by decide, by decide⟩ ?_; simp -implicitDefEqProofs only [push_cast, Tryd.f29, itL_length, bne_self_eq_false, Int.reduceBEq, Int.reduceBNe, Int.reduceEq, Int.reduceNe, Int.reducePow, Nat.reduceAdd, Nat.reduceMul, Nat.reduceSub, Nat.reduceLT, Nat.reduceLeDiff, Nat.reduceEqDiff, Nat.reduceBEq, Int.reduceLT, Int.reduceLE, Int.reduceAdd, Int.reduceSub, Int.reduceMul, Int.reduceToNat, Int.reduceNeg, reduceIte, reduceCtorEq, reduceBEq])
  refine loopC_of (α := AlS X) AlS.st (fun s => X.length - s.i) ⟨0, by omega⟩ ?_ ?_
  · (simp only [AlS.st]; exact Wk.by _ _ _ [] [] [] (by simp) (by simp [wkV, PV.el, PV.weak, PS.get, PS.obj, PS.lv, lkp_hit, lkp_miss, lkp_nil, lko]) (by simp [PS.get, PS.obj, PS.lv, lkp_hit, lkp_miss, lkp_nil, lko, wkL, wkC, PV.weak]) (by simp [PS.get, PS.obj, PS.lv, lkp_hit, lkp_miss, lkp_nil, lko]) (by rfl) (by rfl) (by simp [lko]) (by simp) (by simp) (by simp) (fun i hi => absurd hi (Nat.not_lt_zero i)))
  · rintro ⟨i, hi⟩
    simp -implicitDefEqProofs only [push_cast, AlS.st, itL_length, Int.reduceBEq, Int.reduceBNe, Int.reduceEq, Int.reduceNe, Int.reducePow, Nat.reduceAdd, Nat.reduceMul, Nat.reduceSub, Nat.reduceLT, Nat.reduceLeDiff, Nat.reduceEqDiff, Nat.reduceBEq, Int.reduceLT, Int.reduceLE, Int.reduceAdd, Int.reduceSub, Int.reduceMul, Int.reduceToNat, Int.reduceNeg, reduceIte, reduceCtorEq, reduceBEq]
    refine condC_split (fun h3 => ?_) (fun h3 => ?_)
    · have hlt : i < X.length := by simp at h3; omega
      have hg := it_at hlt
      have hm : X.getD i it0 ∈ X := by rw [List.getD_eq_getElem?_getD, List.getElem?_eq_getElem hlt]; exact List.getElem_mem hlt
      have hwr : IntKind.i64.wrap ((i : Int) + 1) = ((i + 1 : Nat) : Int) := by (rw [wrap_i64_id (by omega) (by omega)]; rfl)
      have hs := samei_fs _ (hf _ hm)
      generalize X.getD i it0 = x at *
      simp only [It.pv] at hs hg
      simp -implicitDefEqProofs only [push_cast, hg, itL_length, Int.reduceBEq, Int.reduceBNe, Int.reduceEq, Int.reduceNe, Int.reducePow, Nat.reduceAdd, Nat.reduceMul, Nat.reduceSub, Nat.reduceLT, Nat.reduceLeDiff, Nat.reduceEqDiff, Nat.reduceBEq, Int.reduceLT, Int.reduceLE, Int.reduceAdd, Int.reduceSub, Int.reduceMul, Int.reduceToNat, Int.reduceNeg, reduceIte, reduceCtorEq, reduceBEq]
      skip
      (repeat (first | refine ⟨by omega, ?_⟩ | refine ⟨by (unfold drawOk; kernel_rfl), ?_⟩))
      refine callE_pure hs (by rfl) (by rfl) (by rfl) (by decide) (by rfl) (fun _ => by rfl) (by first | rfl | simp [gdOk, newToks]) ?_
      simp -implicitDefEqProofs only [push_cast, Int.reduceBEq, Int.reduceBNe, Int.reduceEq, Int.reduceNe, Int.reducePow, Nat.reduceAdd, Nat.reduceMul, Nat.reduceSub, Nat.reduceLT, Nat.reduceLeDiff, Nat.reduceEqDiff, Nat.reduceBEq, Int.reduceLT, Int.reduceLE, Int.reduceAdd, Int.reduceSub, Int.reduceMul, Int.reduceToNat, Int.reduceNeg, reduceIte, reduceCtorEq, reduceBEq]
      (repeat (first | refine ⟨by omega, ?_⟩ | refine ⟨by (unfold drawOk; kernel_rfl), ?_⟩))
      rw [hwr]
      refine ⟨⟨i + 1, by omega⟩, by simp only; omega, ?_⟩
      (simp only [AlS.st]; exact Wk.by _ _ _ [] [] [] (by simp) (by simp [wkV, PV.el, PV.weak, PS.get, PS.obj, PS.lv, lkp_hit, lkp_miss, lkp_nil, lko]) (by simp [PS.get, PS.obj, PS.lv, lkp_hit, lkp_miss, lkp_nil, lko, wkL, wkC, PV.weak]) (by simp [PS.get, PS.obj, PS.lv, lkp_hit, lkp_miss, lkp_nil, lko]) (by rfl) (by rfl) (by simp [lko]) (by simp) (by simp) (by simp) (fun i hi => absurd hi (Nat.not_lt_zero i)))
    · simp -implicitDefEqProofs only [push_cast, Int.reduceBEq, Int.reduceBNe, Int.reduceEq, Int.reduceNe, Int.reducePow, Nat.reduceAdd, Nat.reduceMul, Nat.reduceSub, Nat.reduceLT, Nat.reduceLeDiff, Nat.reduceEqDiff, Nat.reduceBEq, Int.reduceLT, Int.reduceLE, Int.reduceAdd, Int.reduceSub, Int.reduceMul, Int.reduceToNat, Int.reduceNeg, reduceIte, reduceCtorEq, reduceBEq]

end Go.Proofs.Sh

/- Streams: what comes in parts comes the same. Plain. -/
set_option linter.unusedVariables false
namespace Go.Proofs.Sh
open Go.Pv
theorem lenR_app {o : Int} {r : List UInt8} (h : 4 ≤ r.length) (b : List UInt8) : lenR o (r ++ b) = lenR o r := by
  unfold lenR lenN
  have e : ((r ++ b).drop 2).take 2 = (r.drop 2).take 2 := by
    match r, h with
    | _ :: _ :: x :: y :: r, _ => rfl
  rw [e]
  split
  · rw [if_neg (show ¬ (r ++ b).length < 4 by rw [List.length_append]; omega), if_neg (show ¬ r.length < 4 by omega)]
  · rfl
/-- The whole requests, what is left, and whether it is dead. -/
def cutN (o : Int) : Nat → List UInt8 → List (List UInt8) × List UInt8 × Bool
  | 0, r => ([], r, false)
  | k + 1, r =>
    if r.length < 4 then ([], r, false)
    else if (lenR o r).1.toNat = 0 then ([], [], true)
    else if r.length < (lenR o r).1.toNat then ([], r, false)
    else (r.take (lenR o r).1.toNat :: (cutN o k (r.drop (lenR o r).1.toNat)).1, (cutN o k (r.drop (lenR o r).1.toNat)).2)
theorem cutN_more (o : Int) : ∀ (k j : Nat) (r : List UInt8), r.length ≤ k → r.length ≤ j → cutN o k r = cutN o j r
  | 0, 0, r, _, _ => rfl
  | 0, j + 1, r, h, _ => by
    have : r.length = 0 := by omega
    rw [cutN, cutN, if_pos (by omega)]
  | k + 1, 0, r, _, h => by
    have : r.length = 0 := by omega
    rw [cutN, cutN, if_pos (by omega)]
  | k + 1, j + 1, r, hk, hj => by
    rw [cutN, cutN]
    split
    · rfl
    · split
      · rfl
      · split
        · rfl
        · rw [cutN_more o k j (r.drop (lenR o r).1.toNat) (by rw [List.length_drop]; omega) (by rw [List.length_drop]; omega)]
def cutS (o : Int) (r : List UInt8) : List (List UInt8) × List UInt8 × Bool := cutN o r.length r
theorem cutS_eq (o : Int) (r : List UInt8) : cutS o r =
    if r.length < 4 then ([], r, false)
    else if (lenR o r).1.toNat = 0 then ([], [], true)
    else if r.length < (lenR o r).1.toNat then ([], r, false)
    else (r.take (lenR o r).1.toNat :: (cutS o (r.drop (lenR o r).1.toNat)).1, (cutS o (r.drop (lenR o r).1.toNat)).2) := by
  unfold cutS
  cases h : r.length with
  | zero => rw [cutN, if_pos (by omega)]
  | succ k =>
    rw [cutN, h]
    split
    · rfl
    · split
      · rfl
      · split
        · rfl
        · rw [cutN_more o k (r.drop (lenR o r).1.toNat).length (r.drop (lenR o r).1.toNat) (by rw [List.length_drop]; omega) (Nat.le_refl _)]
/-- More bytes: what was dead stays so; what was left goes on. -/
theorem cutS_app (o : Int) (b : List UInt8) : ∀ (n : Nat) (r : List UInt8), r.length ≤ n →
    cutS o (r ++ b) = if (cutS o r).2.2 = true then ((cutS o r).1, [], true) else ((cutS o r).1 ++ (cutS o ((cutS o r).2.1 ++ b)).1, (cutS o ((cutS o r).2.1 ++ b)).2)
  | n, r, hn => by
    by_cases h4 : r.length < 4
    · have e : cutS o r = ([], r, false) := by rw [cutS_eq, if_pos h4]
      rw [e, if_neg Bool.false_ne_true]; rfl
    · have hL := lenR_app (o := o) (r := r) (by omega) b
      have h4' : ¬ (r ++ b).length < 4 := by rw [List.length_append]; omega
      by_cases h0 : (lenR o r).1.toNat = 0
      · have e : cutS o r = ([], [], true) := by rw [cutS_eq, if_neg h4, if_pos h0]
        rw [e, if_pos rfl, cutS_eq, if_neg h4', hL, if_pos h0]
      · by_cases hl : r.length < (lenR o r).1.toNat
        · have e : cutS o r = ([], r, false) := by rw [cutS_eq, if_neg h4, if_neg h0, if_pos hl]
          rw [e, if_neg Bool.false_ne_true]; rfl
        · have e : cutS o r = (r.take (lenR o r).1.toNat :: (cutS o (r.drop (lenR o r).1.toNat)).1, (cutS o (r.drop (lenR o r).1.toNat)).2) := by rw [cutS_eq, if_neg h4, if_neg h0, if_neg hl]
          have ih := cutS_app o b (n - 1) (r.drop (lenR o r).1.toNat) (by rw [List.length_drop]; omega)
          have e2 : cutS o (r ++ b) = (r.take (lenR o r).1.toNat :: (cutS o (r.drop (lenR o r).1.toNat ++ b)).1, (cutS o (r.drop (lenR o r).1.toNat ++ b)).2) := by
            rw [cutS_eq, if_neg h4', hL, if_neg h0, if_neg (by rw [List.length_append]; omega), List.take_append_of_le_length (by omega), List.drop_append_of_le_length (by omega)]
          rw [e2, e, ih]
          simp only
          split
          · rfl
          · rfl
  termination_by n => n
  decreasing_by omega
end Go.Proofs.Sh

/- Streams: what Feed answers, in the terms of what comes whole. Plain. -/
set_option maxRecDepth 100000
set_option linter.unusedSimpArgs false
set_option linter.unusedVariables false
namespace Go.Proofs.Sh
open Go.Pv
def rdF (a : Nat) (l : List (Nat × Nat)) : Nat := match l with | [] => a | x :: l => rdone (x :: l)
theorem rdone_cons (x : Nat × Nat) : ∀ l, rdone (x :: l) = rdF (x.1 + x.2) l
  | [] => rfl
  | _ :: _ => rfl
theorem lenR_nat {o : Int} {s : List UInt8} (h : ¬ (lenR o s).1 = 0) : (lenR o s).1.toNat ≠ 0 := by
  obtain ⟨n, hn, -, -⟩ := lenR_range o s
  rw [hn] at h ⊢; simp at h ⊢; exact h
theorem rds_cut (o : Int) (s : List UInt8) : ∀ (k a : Nat), a ≤ s.length → s.length - a < k →
    ((rds o s k a).takeWhile (rgood s)).map (rpiece s) = (cutS o (s.drop a)).1 ∧ isNo ((rds o s k a).dropWhile (rgood s)).head? = (cutS o (s.drop a)).2.2 ∧
    ((cutS o (s.drop a)).2.2 = false → s.drop (rdF a ((rds o s k a).takeWhile (rgood s))) = (cutS o (s.drop a)).2.1)
  | 0, a, h1, h2 => by omega
  | k + 1, a, h1, h2 => by
    have hlen : (s.drop a).length = s.length - a := List.length_drop ..
    by_cases h4 : s.length < a + 4
    · have e : cutS o (s.drop a) = ([], s.drop a, false) := by rw [cutS_eq, if_pos (by rw [hlen]; omega)]
      rw [e, rds, if_pos h4]
      exact ⟨rfl, rfl, fun _ => rfl⟩
    · by_cases h0 : (lenR o (s.drop a)).1 = 0
      · have e : cutS o (s.drop a) = ([], [], true) := by rw [cutS_eq, if_neg (by rw [hlen]; omega), if_pos (by rw [h0]; rfl)]
        have hg : rgood s (a, 0) = false := rfl
        rw [e, rds, if_neg h4, if_pos h0]
        refine ⟨by simp [hg], by simp [hg, isNo], fun h => by cases h⟩
      · have hn := lenR_nat h0
        have er : rds o s (k + 1) a = (a, (lenR o (s.drop a)).1.toNat) :: rds o s k (a + (lenR o (s.drop a)).1.toNat) := by rw [rds, if_neg h4, if_neg h0]
        have ec := cutS_eq o (s.drop a)
        rw [if_neg (by rw [hlen]; omega), if_neg hn] at ec
        generalize (lenR o (s.drop a)).1.toNat = n at *
        rw [er]
        by_cases hl : (s.drop a).length < n
        · rw [if_pos hl] at ec
          have hg : rgood s (a, n) = false := by
            have : ¬ a + n ≤ s.length := by rw [hlen] at hl; omega
            simp [rgood, this]
          rw [ec]
          refine ⟨by simp [hg], by simp [hg, isNo, hn], fun _ => by simp [hg, rdF]⟩
        · rw [if_neg hl] at ec
          have hle : a + n ≤ s.length := by rw [hlen] at hl; omega
          have hg : rgood s (a, n) = true := rgood_of hn hle
          obtain ⟨i1, i2, i3⟩ := rds_cut o s k (a + n) hle (by omega)
          rw [← List.drop_drop] at i1 i2 i3
          rw [ec, List.takeWhile_cons, List.dropWhile_cons, hg]
          simp only [if_true, List.map_cons, i1, i2]
          refine ⟨rfl, trivial, fun h => ?_⟩
          have := i3 h
          rw [show rdF a ((a, n) :: List.takeWhile (rgood s) (rds o s k (a + n))) = rdF (a + n) (List.takeWhile (rgood s) (rds o s k (a + n))) from rdone_cons _ _]
          exact this
theorem runS_cut (t : Sm) : runS t = (⟨true, t.d || (cutS t.o t.r).2.2, t.o, if (t.d || (cutS t.o t.r).2.2) = true then [] else (cutS t.o t.r).2.1⟩, (cutS t.o t.r).1.map (itemOf t.o)) := by
  obtain ⟨h1, h2, h3⟩ := rds_cut t.o t.r (t.r.length + 1) 0 (Nat.zero_le _) (by omega)
  rw [List.drop_zero] at h1 h2 h3
  have e1 : isNo (cutX t.o t.r) = (cutS t.o t.r).2.2 := h2
  have e2 : ritems t.o t.r (cutR t.o t.r) = (cutS t.o t.r).1.map (itemOf t.o) := by
    rw [← h1, List.map_map]; rfl
  have e0 : ∀ l, rdF 0 l = rdone l := fun l => by cases l <;> rfl
  unfold runS
  rw [e1, e2]
  cases hd : (t.d || (cutS t.o t.r).2.2) with
  | true => rfl
  | false =>
    have hc : (cutS t.o t.r).2.2 = false := by cases h : (cutS t.o t.r).2.2 <;> simp [h] at hd ⊢
    have := h3 hc
    rw [e0] at this
    simp only [if_neg Bool.false_ne_true]
    rw [← this]; rfl
/-- What a stream has come to, of all that came. -/
def begO (a : List UInt8) : Option Int := if a.take 4 = beg0 then some 0 else if a.take 4 = beg1 then some 1 else none
def stO (a : List UInt8) : Sm :=
  if a.length < 4 then ⟨false, false, 0, a⟩
  else match begO a with
    | some o => ⟨true, (cutS o (a.drop 4)).2.2, o, (cutS o (a.drop 4)).2.1⟩
    | none => ⟨false, true, 0, []⟩
def itO (a : List UInt8) : List It :=
  if a.length < 4 then []
  else match begO a with
    | some o => (cutS o (a.drop 4)).1.map (itemOf o)
    | none => []
theorem cutS_dead {o : Int} : ∀ (n : Nat) (r : List UInt8), r.length ≤ n → (cutS o r).2.2 = true → (cutS o r).2.1 = []
  | n, r, hn, h => by
    rw [cutS_eq] at h ⊢
    split at h
    · cases h
    · split at h
      · rw [if_neg (by assumption), if_pos (by assumption)]
      · split at h
        · cases h
        · rename_i a b c
          rw [if_neg a, if_neg b, if_neg c]
          exact cutS_dead (n - 1) _ (by rw [List.length_drop]; omega) h
  termination_by n => n
  decreasing_by omega
theorem cutS_rest {o : Int} : ∀ (n : Nat) (r : List UInt8), r.length ≤ n → (cutS o r).2.1.length ≤ r.length
  | n, r, hn => by
    rw [cutS_eq]
    split
    · exact Nat.le_refl _
    · split
      · exact Nat.zero_le _
      · split
        · exact Nat.le_refl _
        · have := cutS_rest (o := o) (n - 1) (r.drop (lenR o r).1.toNat) (by rw [List.length_drop]; omega)
          rw [List.length_drop] at this
          exact Nat.le_trans this (Nat.sub_le _ _)
  termination_by n => n
  decreasing_by omega
theorem begin_O (a : List UInt8) : beginS ⟨false, false, 0, a⟩ = if a.length < 4 then ⟨false, false, 0, a⟩ else match begO a with | some o => ⟨true, false, o, a.drop 4⟩ | none => ⟨false, true, 0, []⟩ := by
  unfold beginS begO
  simp only
  rw [if_neg Bool.false_ne_true]
  split
  · rfl
  · split
    · rfl
    · split <;> rfl
theorem feed_O (a : List UInt8) : feedS ⟨false, false, 0, []⟩ a = (stO a, itO a) := by
  unfold feedS
  rw [if_neg Bool.false_ne_true]
  simp only [List.nil_append]
  rw [begin_O]
  unfold stO itO
  split
  · rfl
  · cases begO a with
    | none => rfl
    | some o =>
      simp only
      rw [if_pos trivial, runS_cut]
      simp only [Bool.false_or]
      cases h : (cutS o (a.drop 4)).2.2 with
      | true => simp only [if_true]; rw [cutS_dead _ _ (Nat.le_refl _) h]
      | false => simp
end Go.Proofs.Sh

/- The document's numbers of two bytes. -/
set_option maxRecDepth 100000
set_option linter.unusedSimpArgs false
set_option linter.unusedVariables false
namespace Go.Proofs.Sh
open Go.Pv

theorem gz2 : Fsp Tryd.prog 55 [] 0 [.int .i64 2] [] 0 (.int .i64 2) := ranIs mixed (noCl_ok _) (wbf := fun _ => false) (n := 60) (d := 10) (by kernel_rfl)
theorem gm2 : Fsp Tryd.prog 57 [] 0 [.int .i64 2] [] 0 (.int .i64 65535) := ranIs mixed (noCl_ok _) (wbf := fun _ => false) (n := 60) (d := 10) (by kernel_rfl)
theorem gtu2 (x y : UInt8) : Fsp Tryd.prog 56 [] 0 [.str [x, y]] [] 0 (.str [y, x]) := by
  (refine Fsp.of (nx := 0) mixed Tryd.func56 rfl (by decide) (by first | exact Nat.le_refl _ | simp) (by simp [Tryd.f56]) ⟨by decide, by decide⟩ ?_; simp -implicitDefEqProofs only [push_cast, Tryd.f56, Int.reduceBEq, Int.reduceBNe, Int.reduceEq, Int.reduceNe, Int.reducePow, Nat.reduceAdd, Nat.reduceMul, Nat.reduceSub, Nat.reduceLT, Nat.reduceLeDiff, Nat.reduceEqDiff, Nat.reduceBEq, Int.reduceLT, Int.reduceLE, Int.reduceAdd, Int.reduceSub, Int.reduceMul, Int.reduceToNat, Int.reduceNeg, reduceIte, reduceCtorEq, reduceBEq])
  refine loopC_un 3 ?_
  simp -implicitDefEqProofs only [push_cast, Int.reduceBEq, Int.reduceBNe, Int.reduceEq, Int.reduceNe, Int.reducePow, Nat.reduceAdd, Nat.reduceMul, Nat.reduceSub, Nat.reduceLT, Nat.reduceLeDiff, Nat.reduceEqDiff, Nat.reduceBEq, Int.reduceLT, Int.reduceLE, Int.reduceAdd, Int.reduceSub, Int.reduceMul, Int.reduceToNat, Int.reduceNeg, reduceIte, reduceCtorEq, reduceBEq]
  trace_state
theorem gwv (a b : Nat) (ha : a < 256) (hb : b < 256) : IntKind.i64.wrap (IntKind.i64.wrap (256 * IntKind.i64.wrap (0 + IntKind.i64.wrap (a : Int))) + IntKind.i64.wrap (b : Int)) = ((a * 256 + b : Nat) : Int) := by
  rw [wrap_i64_id (n := (a : Int)) (by omega) (by omega), Int.zero_add, wrap_i64_id (n := (a : Int)) (by omega) (by omega), wrap_i64_id (n := (b : Int)) (by omega) (by omega), wrap_i64_id (n := 256 * (a : Int)) (by omega) (by omega), wrap_i64_id (by omega) (by omega)]
  omega
theorem gw0 (a : Nat) (ha : a < 256) : IntKind.i64.wrap (IntKind.i64.wrap (256 * 0) + IntKind.i64.wrap (a : Int)) = (a : Int) := by
  rw [wrap_i64_id (n := (a : Int)) (by omega) (by omega), show (256 * 0 : Int) = 0 by decide, show IntKind.i64.wrap 0 = 0 by decide, Int.zero_add, wrap_i64_id (n := (a : Int)) (by omega) (by omega)]
set_option maxHeartbeats 4000000 in
theorem gget1 (x y : UInt8) : Fsp Tryd.prog 40 [] 0 [.int .i64 1, .int .i64 2, .str [x, y]] [] 0 (.tup [.int .i64 ((x.toNat * 256 + y.toNat : Nat) : Int), .int .i64 0]) := by
  have hx := x.toNat_lt
  have hy := y.toNat_lt
  obtain ⟨n, hn⟩ : ∃ n : Nat, n = x.toNat * 256 + y.toNat := ⟨_, rfl⟩
  have hgw := gwv x.toNat y.toNat (by omega) (by omega)
  rw [← hn] at hgw ⊢
  have hlt : decide ((65535 : Int) < (n : Int)) = false := by simp; omega
  (refine Fsp.of (nx := 0) mixed Tryd.func40 rfl (by decide) (by first | exact Nat.le_refl _ | simp) (by simp [Tryd.f40]) ⟨by decide, by decide⟩ ?_; simp -implicitDefEqProofs only [push_cast, Tryd.f40, Int.reduceBEq, Int.reduceBNe, Int.reduceEq, Int.reduceNe, Int.reducePow, Nat.reduceAdd, Nat.reduceMul, Nat.reduceSub, Nat.reduceLT, Nat.reduceLeDiff, Nat.reduceEqDiff, Nat.reduceBEq, Int.reduceLT, Int.reduceLE, Int.reduceAdd, Int.reduceSub, Int.reduceMul, Int.reduceToNat, Int.reduceNeg, reduceIte, reduceCtorEq, reduceBEq])
  refine callE_pure gz2 (by rfl) (by rfl) (by rfl) (by decide) (by rfl) (fun _ => by rfl) (by first | rfl | simp [gdOk, newToks]) ?_
  simp -implicitDefEqProofs only [push_cast, Int.reduceBEq, Int.reduceBNe, Int.reduceEq, Int.reduceNe, Int.reducePow, Nat.reduceAdd, Nat.reduceMul, Nat.reduceSub, Nat.reduceLT, Nat.reduceLeDiff, Nat.reduceEqDiff, Nat.reduceBEq, Int.reduceLT, Int.reduceLE, Int.reduceAdd, Int.reduceSub, Int.reduceMul, Int.reduceToNat, Int.reduceNeg, reduceIte, reduceCtorEq, reduceBEq]
  refine loopC_un 3 ?_
  simp -implicitDefEqProofs only [push_cast, Int.reduceBEq, Int.reduceBNe, Int.reduceEq, Int.reduceNe, Int.reducePow, Nat.reduceAdd, Nat.reduceMul, Nat.reduceSub, Nat.reduceLT, Nat.reduceLeDiff, Nat.reduceEqDiff, Nat.reduceBEq, Int.reduceLT, Int.reduceLE, Int.reduceAdd, Int.reduceSub, Int.reduceMul, Int.reduceToNat, Int.reduceNeg, reduceIte, reduceCtorEq, reduceBEq]
  trace_state
  refine callE_pure gm2 (by rfl) (by rfl) (by rfl) (by decide) (by rfl) (fun _ => by rfl) (by first | rfl | simp [gdOk, newToks]) ?_
  simp -implicitDefEqProofs only [push_cast, Int.reduceBEq, Int.reduceBNe, Int.reduceEq, Int.reduceNe, Int.reducePow, Nat.reduceAdd, Nat.reduceMul, Nat.reduceSub, Nat.reduceLT, Nat.reduceLeDiff, Nat.reduceEqDiff, Nat.reduceBEq, Int.reduceLT, Int.reduceLE, Int.reduceAdd, Int.reduceSub, Int.reduceMul, Int.reduceToNat, Int.reduceNeg, reduceIte, reduceCtorEq, reduceBEq]
  rw [hgw, hlt, condC_false]
  simp -implicitDefEqProofs only [push_cast, Int.reduceBEq, Int.reduceBNe, Int.reduceEq, Int.reduceNe, Int.reducePow, Nat.reduceAdd, Nat.reduceMul, Nat.reduceSub, Nat.reduceLT, Nat.reduceLeDiff, Nat.reduceEqDiff, Nat.reduceBEq, Int.reduceLT, Int.reduceLE, Int.reduceAdd, Int.reduceSub, Int.reduceMul, Int.reduceToNat, Int.reduceNeg, reduceIte, reduceCtorEq, reduceBEq]
  exact ⟨_, rfl, by simp [wkL, res2, res1, PV.weak, PV.el]⟩
set_option maxHeartbeats 4000000 in
theorem gget0 (x y : UInt8) : Fsp Tryd.prog 40 [] 0 [.int .i64 0, .int .i64 2, .str [x, y]] [] 0 (.tup [.int .i64 ((y.toNat * 256 + x.toNat : Nat) : Int), .int .i64 0]) := by
  have hx := x.toNat_lt
  have hy := y.toNat_lt
  obtain ⟨n, hn⟩ : ∃ n : Nat, n = y.toNat * 256 + x.toNat := ⟨_, rfl⟩
  have hgw := gwv y.toNat x.toNat (by omega) (by omega)
  rw [← hn] at hgw ⊢
  have hlt : decide ((65535 : Int) < (n : Int)) = false := by simp; omega
  (refine Fsp.of (nx := 0) mixed Tryd.func40 rfl (by decide) (by first | exact Nat.le_refl _ | simp) (by simp [Tryd.f40]) ⟨by decide, by decide⟩ ?_; simp -implicitDefEqProofs only [push_cast, Tryd.f40, Int.reduceBEq, Int.reduceBNe, Int.reduceEq, Int.reduceNe, Int.reducePow, Nat.reduceAdd, Nat.reduceMul, Nat.reduceSub, Nat.reduceLT, Nat.reduceLeDiff, Nat.reduceEqDiff, Nat.reduceBEq, Int.reduceLT, Int.reduceLE, Int.reduceAdd, Int.reduceSub, Int.reduceMul, Int.reduceToNat, Int.reduceNeg, reduceIte, reduceCtorEq, reduceBEq])
  refine callE_pure gz2 (by rfl) (by rfl) (by rfl) (by decide) (by rfl) (fun _ => by rfl) (by first | rfl | simp [gdOk, newToks]) ?_
  simp -implicitDefEqProofs only [push_cast, Int.reduceBEq, Int.reduceBNe, Int.reduceEq, Int.reduceNe, Int.reducePow, Nat.reduceAdd, Nat.reduceMul, Nat.reduceSub, Nat.reduceLT, Nat.reduceLeDiff, Nat.reduceEqDiff, Nat.reduceBEq, Int.reduceLT, Int.reduceLE, Int.reduceAdd, Int.reduceSub, Int.reduceMul, Int.reduceToNat, Int.reduceNeg, reduceIte, reduceCtorEq, reduceBEq]
  trace_state
  refine callE_pure (gtu2 x y) (by rfl) (by rfl) (by rfl) (by decide) (by rfl) (fun _ => by rfl) (by first | rfl | simp [gdOk, newToks]) ?_
  simp -implicitDefEqProofs only [push_cast, Int.reduceBEq, Int.reduceBNe, Int.reduceEq, Int.reduceNe, Int.reducePow, Nat.reduceAdd, Nat.reduceMul, Nat.reduceSub, Nat.reduceLT, Nat.reduceLeDiff, Nat.reduceEqDiff, Nat.reduceBEq, Int.reduceLT, Int.reduceLE, Int.reduceAdd, Int.reduceSub, Int.reduceMul, Int.reduceToNat, Int.reduceNeg, reduceIte, reduceCtorEq, reduceBEq]
  refine loopC_un 3 ?_
  simp -implicitDefEqProofs only [push_cast, Int.reduceBEq, Int.reduceBNe, Int.reduceEq, Int.reduceNe, Int.reducePow, Nat.reduceAdd, Nat.reduceMul, Nat.reduceSub, Nat.reduceLT, Nat.reduceLeDiff, Nat.reduceEqDiff, Nat.reduceBEq, Int.reduceLT, Int.reduceLE, Int.reduceAdd, Int.reduceSub, Int.reduceMul, Int.reduceToNat, Int.reduceNeg, reduceIte, reduceCtorEq, reduceBEq]
  trace_state
  refine callE_pure gm2 (by rfl) (by rfl) (by rfl) (by decide) (by rfl) (fun _ => by rfl) (by first | rfl | simp [gdOk, newToks]) ?_
  simp -implicitDefEqProofs only [push_cast, Int.reduceBEq, Int.reduceBNe, Int.reduceEq, Int.reduceNe, Int.reducePow, Nat.reduceAdd, Nat.reduceMul, Nat.reduceSub, Nat.reduceLT, Nat.reduceLeDiff, Nat.reduceEqDiff, Nat.reduceBEq, Int.reduceLT, Int.reduceLE, Int.reduceAdd, Int.reduceSub, Int.reduceMul, Int.reduceToNat, Int.reduceNeg, reduceIte, reduceCtorEq, reduceBEq]
  rw [hgw, hlt, condC_false]
  simp -implicitDefEqProofs only [push_cast, Int.reduceBEq, Int.reduceBNe, Int.reduceEq, Int.reduceNe, Int.reducePow, Nat.reduceAdd, Nat.reduceMul, Nat.reduceSub, Nat.reduceLT, Nat.reduceLeDiff, Nat.reduceEqDiff, Nat.reduceBEq, Int.reduceLT, Int.reduceLE, Int.reduceAdd, Int.reduceSub, Int.reduceMul, Int.reduceToNat, Int.reduceNeg, reduceIte, reduceCtorEq, reduceBEq]
  exact ⟨_, rfl, by simp [wkL, res2, res1, PV.weak, PV.el]⟩

end Go.Proofs.Sh

/- The document's cut of a stream. -/
set_option maxRecDepth 100000
set_option linter.unusedSimpArgs false
set_option linter.unusedVariables false
namespace Go.Proofs.Sh
open Go.Pv

/-- The requests from a place on: where each begins and ends; whether it is dead; where it stops. -/
def posS (o : Int) (s : List UInt8) : Nat → Nat → List (Nat × Nat) × Bool × Nat
  | 0, a => ([], false, a)
  | k + 1, a =>
    if s.length < a + 4 then ([], false, a)
    else if (lenR o (s.drop a)).1.toNat = 0 then ([], true, a)
    else if s.length < a + (lenR o (s.drop a)).1.toNat then ([], false, a)
    else ((a, a + (lenR o (s.drop a)).1.toNat) :: (posS o s k (a + (lenR o (s.drop a)).1.toNat)).1, (posS o s k (a + (lenR o (s.drop a)).1.toNat)).2)
theorem posS_more (o : Int) (s : List UInt8) : ∀ (k j a : Nat), s.length - a < k → s.length - a < j → posS o s k a = posS o s j a
  | 0, j, a, h, _ => by omega
  | k, 0, a, _, h => by omega
  | k + 1, j + 1, a, hk, hj => by
    rw [posS, posS]
    split
    · rfl
    · split
      · rfl
      · split
        · rfl
        · rw [posS_more o s k j _ (by omega) (by omega)]
def posA (o : Int) (s : List UInt8) (a : Nat) : List (Nat × Nat) × Bool × Nat := posS o s (s.length + 1) a
theorem posA_eq (o : Int) (s : List UInt8) (a : Nat) (ha : a ≤ s.length) : posA o s a =
    if s.length < a + 4 then ([], false, a)
    else if (lenR o (s.drop a)).1.toNat = 0 then ([], true, a)
    else if s.length < a + (lenR o (s.drop a)).1.toNat then ([], false, a)
    else ((a, a + (lenR o (s.drop a)).1.toNat) :: (posA o s (a + (lenR o (s.drop a)).1.toNat)).1, (posA o s (a + (lenR o (s.drop a)).1.toNat)).2) := by
  unfold posA
  rw [posS]
  split
  · rfl
  · split
    · rfl
    · split
      · rfl
      · rw [posS_more o s s.length (s.length + 1) _ (by omega) (by omega)]
theorem posS_cut (o : Int) (s : List UInt8) : ∀ (k a : Nat), a ≤ s.length → s.length - a < k →
    (posS o s k a).1.map (fun p => (s.drop p.1).take (p.2 - p.1)) = (cutS o (s.drop a)).1 ∧ (posS o s k a).2.1 = (cutS o (s.drop a)).2.2 ∧ ((posS o s k a).2.1 = false → s.drop (posS o s k a).2.2 = (cutS o (s.drop a)).2.1) ∧ (posS o s k a).2.2 ≤ s.length
  | 0, a, h1, h2 => by omega
  | k + 1, a, h1, h2 => by
    have hlen : (s.drop a).length = s.length - a := List.length_drop ..
    have ec := cutS_eq o (s.drop a)
    rw [posS]
    by_cases h4 : s.length < a + 4
    · rw [if_pos (by rw [hlen]; omega)] at ec
      rw [if_pos h4, ec]; exact ⟨rfl, rfl, fun _ => rfl, h1⟩
    · rw [if_neg (by rw [hlen]; omega)] at ec
      rw [if_neg h4]
      generalize (lenR o (s.drop a)).1.toNat = n at *
      by_cases h0 : n = 0
      · rw [if_pos h0] at ec
        rw [if_pos h0, ec]; exact ⟨rfl, rfl, fun h => (by cases h), h1⟩
      · rw [if_neg h0] at ec
        rw [if_neg h0]
        by_cases hl : s.length < a + n
        · rw [if_pos (by rw [hlen]; omega)] at ec
          rw [if_pos hl, ec]; exact ⟨rfl, rfl, fun _ => rfl, h1⟩
        · rw [if_neg (by rw [hlen]; omega)] at ec
          rw [if_neg hl, ec]
          obtain ⟨i1, i2, i3, i4⟩ := posS_cut o s k (a + n) (by omega) (by omega)
          rw [← List.drop_drop] at i1 i2 i3
          simp only [List.map_cons, i1, i2]
          rw [i2] at i3
          exact ⟨by rw [show a + n - a = n by omega], trivial, i3, i4⟩
theorem posA_cut {o : Int} {s : List UInt8} {a : Nat} (ha : a ≤ s.length) : (posA o s a).1.map (fun p => (s.drop p.1).take (p.2 - p.1)) = (cutS o (s.drop a)).1 ∧ (posA o s a).2.1 = (cutS o (s.drop a)).2.2 ∧ ((posA o s a).2.1 = false → s.drop (posA o s a).2.2 = (cutS o (s.drop a)).2.1) ∧ (posA o s a).2.2 ≤ s.length := posS_cut o s _ a ha (by omega)
/-- The number that the document reads of the length. -/
def rawN (o : Int) (s : List UInt8) (a : Nat) : Nat := if o = 1 then (s.getD (a + 2) 0).toNat * 256 + (s.getD (a + 3) 0).toNat else (s.getD (a + 3) 0).toNat * 256 + (s.getD (a + 2) 0).toNat
theorem getD_drop' (s : List UInt8) (a i : Nat) : (s.drop a).getD i 0 = s.getD (a + i) 0 := by
  simp [List.getD_eq_getElem?_getD, List.getElem?_drop]
theorem rawN_len {o : Int} (ho : o = 0 ∨ o = 1) {s : List UInt8} {a : Nat} (h : a + 4 ≤ s.length) : (lenR o (s.drop a)).1.toNat = if 4 * rawN o s a = 0 ∨ 65536 < 4 * rawN o s a then 0 else 4 * rawN o s a := by
  have hl : 4 ≤ (s.drop a).length := by rw [List.length_drop]; omega
  have e : lenN o (s.drop a) = rawN o s a := by
    rcases ho with rfl | rfl
    · rw [lenN_0 hl, rawN, if_neg (by decide), getD_drop', getD_drop']; omega
    · rw [lenN_1 hl, rawN, if_pos rfl, getD_drop', getD_drop']; omega
  unfold lenR
  rw [e, if_pos (show isOrd o = true by rcases ho with rfl | rfl <;> rfl), if_neg (by omega)]
  by_cases h0 : rawN o s a = 0
  · rw [if_pos h0, if_pos (by omega)]; rfl
  · rw [if_neg h0]
    by_cases h1 : 16384 < rawN o s a
    · rw [if_pos h1, if_pos (by omega)]; rfl
    · rw [if_neg h1, if_neg (by omega)]; exact Int.toNat_natCast _
theorem rawN_lt {o : Int} {s : List UInt8} {a : Nat} : rawN o s a < 65536 := by
  unfold rawN
  have h1 := (s.getD (a + 2) 0).toNat_lt
  have h2 := (s.getD (a + 3) 0).toNat_lt
  split <;> omega
theorem two_at {s : List UInt8} {a : Nat} (h : a + 4 ≤ s.length) : ((s.drop (a + 2)).take 2) = [s.getD (a + 2) 0, s.getD (a + 3) 0] := by
  have e := two_of (s := s.drop a) (by rw [List.length_drop]; omega)
  rw [List.drop_drop, getD_drop', getD_drop'] at e
  exact e
theorem get2_fs {o : Int} (ho : o = 0 ∨ o = 1) {s : List UInt8} {a : Nat} (h : a + 4 ≤ s.length) : Fsp Tryd.prog 40 [] 0 [.int .i64 o, .int .i64 2, .str ((s.drop (a + 2)).take 2)] [] 0 (.tup [.int .i64 (rawN o s a), .int .i64 0]) := by
  rw [two_at h]
  rcases ho with rfl | rfl
  · have := gget0 (s.getD (a + 2) 0) (s.getD (a + 3) 0)
    rw [rawN, if_neg (by decide)]; exact this
  · have := gget1 (s.getD (a + 2) 0) (s.getD (a + 3) 0)
    rw [rawN, if_pos rfl]; exact this

end Go.Proofs.Sh

/- The document's cut of a stream: the walk. -/
set_option maxRecDepth 100000
set_option linter.unusedSimpArgs false
set_option linter.unusedVariables false
namespace Go.Proofs.Sh
open Go.Pv

def fsL (l : List (Nat × Nat)) : List Int := l.map fun p => (p.1 : Int)
def tsL (l : List (Nat × Nat)) : List Int := l.map fun p => (p.2 : Int)
theorem fsL_sn (l : List (Nat × Nat)) (x : Nat × Nat) : ints (fsL (l ++ [x])) = ints (fsL l) ++ [.int .i64 x.1] := by simp [fsL, ints]
theorem tsL_sn (l : List (Nat × Nat)) (x : Nat × Nat) : ints (tsL (l ++ [x])) = ints (tsL l) ++ [.int .i64 x.2] := by simp [tsL, ints]
theorem fsL_len (l : List (Nat × Nat)) : (fsL l).length = l.length := List.length_map _
theorem tsL_len (l : List (Nat × Nat)) : (tsL l).length = l.length := List.length_map _
/-- What the document's cut comes to. -/
def ofPV (b d : Bool) (o : Int) (l : List (Nat × Nat)) (r : Int) : PV := .agg [.int .i64 o, .bool b, .bool d, .sl 1 (ints (fsL l)), .sl 1 (ints (tsL l)), .int .i64 r]
def ofL (a : List UInt8) : List (Nat × Nat) := if a.length < 4 then [] else match begO a with | some o => (posA o a 4).1 | none => []
def ofR (a : List UInt8) : PV := ofPV (stO a).b (stO a).d (stO a).o (ofL a) (stO a).r.length
theorem take4_eq {s : List UInt8} (h : 4 ≤ s.length) (a b c d : UInt8) : s.take 4 = [a, b, c, d] ↔ s.getD 0 0 = a ∧ s.getD 1 0 = b ∧ s.getD 2 0 = c ∧ s.getD 3 0 = d := by
  match s, h with
  | x :: y :: z :: u :: r, _ => simp
theorem u8n (x : UInt8) (k : UInt8) : x = k ↔ (x.toNat : Int) = (k.toNat : Int) := by
  constructor
  · rintro rfl; rfl
  · intro h; exact UInt8.toNat_inj.1 (by omega)
theorem begO_is {s : List UInt8} (h : 4 ≤ s.length) : begO s = if ((s.getD 1 0).toNat : Int) = 1 ∧ ((s.getD 2 0).toNat : Int) = 0 ∧ ((s.getD 3 0).toNat : Int) = 0 then (if ((s.getD 0 0).toNat : Int) = 108 then some 0 else if ((s.getD 0 0).toNat : Int) = 66 then some 1 else none) else none := by
  have e0 := (take4_eq h 108 1 0 0).trans (by rw [u8n, u8n, u8n, u8n])
  have e1 := (take4_eq h 66 1 0 0).trans (by rw [u8n, u8n, u8n, u8n])
  unfold begO beg0 beg1
  rw [show (UInt8.toNat 108 : Int) = 108 from rfl, show (UInt8.toNat 1 : Int) = 1 from rfl, show (UInt8.toNat 0 : Int) = 0 from rfl] at e0
  rw [show (UInt8.toNat 66 : Int) = 66 from rfl, show (UInt8.toNat 1 : Int) = 1 from rfl, show (UInt8.toNat 0 : Int) = 0 from rfl] at e1
  by_cases h1 : ((s.getD 1 0).toNat : Int) = 1 ∧ ((s.getD 2 0).toNat : Int) = 0 ∧ ((s.getD 3 0).toNat : Int) = 0
  · rw [if_pos h1]
    by_cases p : ((s.getD 0 0).toNat : Int) = 108
    · rw [if_pos (e0.2 ⟨p, h1⟩), if_pos p]
    · rw [if_neg (fun q => p (e0.1 q).1), if_neg p]
      by_cases q : ((s.getD 0 0).toNat : Int) = 66
      · rw [if_pos (e1.2 ⟨q, h1⟩), if_pos q]
      · rw [if_neg (fun z => q (e1.1 z).1), if_neg q]
  · rw [if_neg h1, if_neg (fun q => h1 (e0.1 q).2), if_neg (fun q => h1 (e1.1 q).2)]
theorem of_end {o : Int} {s : List UInt8} (h : 4 ≤ s.length) : ofPV true (cutS o (s.drop 4)).2.2 o (posA o s 4).1 (cutS o (s.drop 4)).2.1.length = ofPV true (posA o s 4).2.1 o (posA o s 4).1 (if (posA o s 4).2.1 = true then (0 : Nat) else s.length - (posA o s 4).2.2 : Nat) := by
  obtain ⟨h1, h2, h3, h4⟩ := posA_cut (o := o) h
  rw [← h2]
  cases hd : (posA o s 4).2.1 with
  | true => rw [if_pos rfl, cutS_dead _ _ (Nat.le_refl _) (by rw [← h2, hd])]; rfl
  | false => rw [if_neg Bool.false_ne_true, ← h3 hd, List.length_drop]
structure OfS (o : Int) (s : List UInt8) where
  a : Nat
  pre : List (Nat × Nat)
  ha : a ≤ s.length
  h4 : 4 ≤ a
  hp : pre.length ≤ a
  h : posA o s 4 = (pre ++ (posA o s a).1, (posA o s a).2)
def OfS.st {o : Int} {s : List UInt8} (x : OfS o s) : PS := { n := 101, env := [(4, .int .i64 x.a), (3, .box 1 0), (2, .box 0 0), (0, .str s)], objs := [(0, some [.int .i64 0, .bool false, .bool false, .nilsl, .nilsl, .int .i64 0]), (1, some [.int .i64 o, .bool true, .bool false, .slt 1 (ints (fsL x.pre)) 50, .slt 1 (ints (tsL x.pre)) 51, .int .i64 0])], live := [(50, true), (51, true)], nxt := 60 }
set_option maxHeartbeats 8000000 in
theorem of_fs (s : List UInt8) (hs : s.length ≤ 900000) : Fsp Tryd.prog 27 [] 0 [.str s] [] 0 (ofR s) := by
  cases h1 : decide ((s.length : Int) < 4)
  · have h1' : ¬ s.length < 4 := by simp at h1; omega
    have hbo := begO_is (s := s) (by omega)
    have i0 : decide ((0 : Int) < (s.length : Int)) = true := by simp; omega
    unfold ofR ofL stO
    rw [if_neg h1', if_neg h1']
    cases kA : (((s.getD 0 0).toNat : Int) == 108)
    · have qA : ¬ (((s.getD 0 0).toNat : Int) = 108) := by simpa only [beq_eq_false_iff_ne, ne_eq, beq_iff_eq] using kA
      have mA : (((s.getD 0 0).toNat : Int) != 108) = true := by rw [bne, kA]; rfl
      cases kE : (((s.getD 0 0).toNat : Int) == 66)
      · have qE : ¬ (((s.getD 0 0).toNat : Int) = 66) := by simpa only [beq_eq_false_iff_ne, ne_eq, beq_iff_eq] using kE
        have mE : (((s.getD 0 0).toNat : Int) != 66) = true := by rw [bne, kE]; rfl
        have hno : begO s = none := by
          rw [hbo]; first | (simp [qA, qE, -List.getD_eq_getElem?_getD]; done) | (simp [qA, qE, -List.getD_eq_getElem?_getD]; omega)
        rw [hno]
        simp only
        (refine Fsp.of (nx := 0) mixed Tryd.func27 rfl (by decide) (by first | exact Nat.le_refl _ | simp) (by simp [Tryd.f27]) ⟨by decide, by decide⟩ ?_; simp -implicitDefEqProofs only [push_cast, Tryd.f27, h1, mA, mE, Int.reduceBEq, Int.reduceBNe, Int.reduceEq, Int.reduceNe, Int.reducePow, Nat.reduceAdd, Nat.reduceMul, Nat.reduceSub, Nat.reduceLT, Nat.reduceLeDiff, Nat.reduceEqDiff, Nat.reduceBEq, Int.reduceLT, Int.reduceLE, Int.reduceAdd, Int.reduceSub, Int.reduceMul, Int.reduceToNat, Int.reduceNeg, reduceIte, reduceCtorEq, reduceBEq])
        (repeat (first | refine ⟨by omega, ?_⟩ | refine ⟨by (unfold drawOk; kernel_rfl), ?_⟩ | refine ⟨by (simp; omega), ?_⟩))
        skip
        (repeat (first | refine ⟨by omega, ?_⟩ | refine ⟨by (unfold drawOk; kernel_rfl), ?_⟩))
        all_goals first | done | rfl | omega | (unfold drawOk; kernel_rfl) | exact ⟨by (unfold drawOk; kernel_rfl), _, rfl, by simp [wkL, res2, res1, res3, PV.weak, PV.el]⟩ | exact ⟨_, rfl, by simp [wkL, res2, res1, res3, PV.weak, PV.el, ints, fsL, tsL, ofPV]⟩ | simp [wkL, res2, res1, res3, PV.weak, PV.el, ints, fsL, tsL, ofPV] | skip
      · have qE : ((s.getD 0 0).toNat : Int) = 66 := by simpa only [beq_eq_false_iff_ne, ne_eq, beq_iff_eq] using kE
        have mE : (((s.getD 0 0).toNat : Int) != 66) = false := by rw [bne, kE]; rfl
        cases kB : (((s.getD 1 0).toNat : Int) == 1)
        · have qB : ¬ (((s.getD 1 0).toNat : Int) = 1) := by simpa only [beq_eq_false_iff_ne, ne_eq, beq_iff_eq] using kB
          have mB : (((s.getD 1 0).toNat : Int) != 1) = true := by rw [bne, kB]; rfl
          have hno : begO s = none := by
            rw [hbo]; first | (simp [qA, qE, qB, -List.getD_eq_getElem?_getD]; done) | (simp [qA, qE, qB, -List.getD_eq_getElem?_getD]; omega)
          rw [hno]
          simp only
          (refine Fsp.of (nx := 0) mixed Tryd.func27 rfl (by decide) (by first | exact Nat.le_refl _ | simp) (by simp [Tryd.f27]) ⟨by decide, by decide⟩ ?_; simp -implicitDefEqProofs only [push_cast, Tryd.f27, h1, mA, mE, mB, Int.reduceBEq, Int.reduceBNe, Int.reduceEq, Int.reduceNe, Int.reducePow, Nat.reduceAdd, Nat.reduceMul, Nat.reduceSub, Nat.reduceLT, Nat.reduceLeDiff, Nat.reduceEqDiff, Nat.reduceBEq, Int.reduceLT, Int.reduceLE, Int.reduceAdd, Int.reduceSub, Int.reduceMul, Int.reduceToNat, Int.reduceNeg, reduceIte, reduceCtorEq, reduceBEq])
          (repeat (first | refine ⟨by omega, ?_⟩ | refine ⟨by (unfold drawOk; kernel_rfl), ?_⟩ | refine ⟨by (simp; omega), ?_⟩))
          skip
          (repeat (first | refine ⟨by omega, ?_⟩ | refine ⟨by (unfold drawOk; kernel_rfl), ?_⟩))
          all_goals first | done | rfl | omega | (unfold drawOk; kernel_rfl) | exact ⟨by (unfold drawOk; kernel_rfl), _, rfl, by simp [wkL, res2, res1, res3, PV.weak, PV.el]⟩ | exact ⟨_, rfl, by simp [wkL, res2, res1, res3, PV.weak, PV.el, ints, fsL, tsL, ofPV]⟩ | simp [wkL, res2, res1, res3, PV.weak, PV.el, ints, fsL, tsL, ofPV] | skip
        · have qB : ((s.getD 1 0).toNat : Int) = 1 := by simpa only [beq_eq_false_iff_ne, ne_eq, beq_iff_eq] using kB
          have mB : (((s.getD 1 0).toNat : Int) != 1) = false := by rw [bne, kB]; rfl
          cases kC : (((s.getD 2 0).toNat : Int) == 0)
          · have qC : ¬ (((s.getD 2 0).toNat : Int) = 0) := by simpa only [beq_eq_false_iff_ne, ne_eq, beq_iff_eq] using kC
            have mC : (((s.getD 2 0).toNat : Int) != 0) = true := by rw [bne, kC]; rfl
            have hno : begO s = none := by
              rw [hbo]; first | (simp [qA, qE, qB, qC, -List.getD_eq_getElem?_getD]; done) | (simp [qA, qE, qB, qC, -List.getD_eq_getElem?_getD]; omega)
            rw [hno]
            simp only
            (refine Fsp.of (nx := 0) mixed Tryd.func27 rfl (by decide) (by first | exact Nat.le_refl _ | simp) (by simp [Tryd.f27]) ⟨by decide, by decide⟩ ?_; simp -implicitDefEqProofs only [push_cast, Tryd.f27, h1, mA, mE, mB, mC, Int.reduceBEq, Int.reduceBNe, Int.reduceEq, Int.reduceNe, Int.reducePow, Nat.reduceAdd, Nat.reduceMul, Nat.reduceSub, Nat.reduceLT, Nat.reduceLeDiff, Nat.reduceEqDiff, Nat.reduceBEq, Int.reduceLT, Int.reduceLE, Int.reduceAdd, Int.reduceSub, Int.reduceMul, Int.reduceToNat, Int.reduceNeg, reduceIte, reduceCtorEq, reduceBEq])
            (repeat (first | refine ⟨by omega, ?_⟩ | refine ⟨by (unfold drawOk; kernel_rfl), ?_⟩ | refine ⟨by (simp; omega), ?_⟩))
            skip
            (repeat (first | refine ⟨by omega, ?_⟩ | refine ⟨by (unfold drawOk; kernel_rfl), ?_⟩))
            all_goals first | done | rfl | omega | (unfold drawOk; kernel_rfl) | exact ⟨by (unfold drawOk; kernel_rfl), _, rfl, by simp [wkL, res2, res1, res3, PV.weak, PV.el]⟩ | exact ⟨_, rfl, by simp [wkL, res2, res1, res3, PV.weak, PV.el, ints, fsL, tsL, ofPV]⟩ | simp [wkL, res2, res1, res3, PV.weak, PV.el, ints, fsL, tsL, ofPV] | skip
          · have qC : ((s.getD 2 0).toNat : Int) = 0 := by simpa only [beq_eq_false_iff_ne, ne_eq, beq_iff_eq] using kC
            have mC : (((s.getD 2 0).toNat : Int) != 0) = false := by rw [bne, kC]; rfl
            cases kD : (((s.getD 3 0).toNat : Int) == 0)
            · have qD : ¬ (((s.getD 3 0).toNat : Int) = 0) := by simpa only [beq_eq_false_iff_ne, ne_eq, beq_iff_eq] using kD
              have mD : (((s.getD 3 0).toNat : Int) != 0) = true := by rw [bne, kD]; rfl
              have hno : begO s = none := by
                rw [hbo]; first | (simp [qA, qE, qB, qC, qD, -List.getD_eq_getElem?_getD]; done) | (simp [qA, qE, qB, qC, qD, -List.getD_eq_getElem?_getD]; omega)
              rw [hno]
              simp only
              (refine Fsp.of (nx := 0) mixed Tryd.func27 rfl (by decide) (by first | exact Nat.le_refl _ | simp) (by simp [Tryd.f27]) ⟨by decide, by decide⟩ ?_; simp -implicitDefEqProofs only [push_cast, Tryd.f27, h1, mA, mE, mB, mC, mD, Int.reduceBEq, Int.reduceBNe, Int.reduceEq, Int.reduceNe, Int.reducePow, Nat.reduceAdd, Nat.reduceMul, Nat.reduceSub, Nat.reduceLT, Nat.reduceLeDiff, Nat.reduceEqDiff, Nat.reduceBEq, Int.reduceLT, Int.reduceLE, Int.reduceAdd, Int.reduceSub, Int.reduceMul, Int.reduceToNat, Int.reduceNeg, reduceIte, reduceCtorEq, reduceBEq])
              (repeat (first | refine ⟨by omega, ?_⟩ | refine ⟨by (unfold drawOk; kernel_rfl), ?_⟩ | refine ⟨by (simp; omega), ?_⟩))
              skip
              (repeat (first | refine ⟨by omega, ?_⟩ | refine ⟨by (unfold drawOk; kernel_rfl), ?_⟩))
              all_goals first | done | rfl | omega | (unfold drawOk; kernel_rfl) | exact ⟨by (unfold drawOk; kernel_rfl), _, rfl, by simp [wkL, res2, res1, res3, PV.weak, PV.el]⟩ | exact ⟨_, rfl, by simp [wkL, res2, res1, res3, PV.weak, PV.el, ints, fsL, tsL, ofPV]⟩ | simp [wkL, res2, res1, res3, PV.weak, PV.el, ints, fsL, tsL, ofPV] | skip
            · have qD : ((s.getD 3 0).toNat : Int) = 0 := by simpa only [beq_eq_false_iff_ne, ne_eq, beq_iff_eq] using kD
              have mD : (((s.getD 3 0).toNat : Int) != 0) = false := by rw [bne, kD]; rfl
              have hyes : begO s = some 1 := by
                rw [hbo]; simp [qA, qE, qB, qC, qD, -List.getD_eq_getElem?_getD]
              rw [hyes]
              simp only
              rw [of_end (o := 1) (s := s) (by omega)]
              (refine Fsp.of (nx := 0) mixed Tryd.func27 rfl (by decide) (by first | exact Nat.le_refl _ | simp) (by simp [Tryd.f27]) ⟨by decide, by decide⟩ ?_; simp -implicitDefEqProofs only [push_cast, Tryd.f27, h1, kE, mA, mE, mB, mC, mD, Int.reduceBEq, Int.reduceBNe, Int.reduceEq, Int.reduceNe, Int.reducePow, Nat.reduceAdd, Nat.reduceMul, Nat.reduceSub, Nat.reduceLT, Nat.reduceLeDiff, Nat.reduceEqDiff, Nat.reduceBEq, Int.reduceLT, Int.reduceLE, Int.reduceAdd, Int.reduceSub, Int.reduceMul, Int.reduceToNat, Int.reduceNeg, reduceIte, reduceCtorEq, reduceBEq])
              (repeat (first | refine ⟨by omega, ?_⟩ | refine ⟨by (unfold drawOk; kernel_rfl), ?_⟩ | refine ⟨by (simp; omega), ?_⟩))
              skip
              refine loopC_of (α := OfS 1 s) OfS.st (fun x => s.length - x.a) ⟨4, [], by omega, by omega, by simp, by simp⟩ ?_ ?_
              · (simp only [OfS.st]; exact Wk.by _ _ _ [(0, 0), (1, 4)] [] [50, 51] (by simp) (by simp [wkV, PV.el, PV.weak, PS.get, PS.obj, PS.lv, lkp_hit, lkp_miss, lkp_nil, lko, wkL, wkC, res1, fsL, tsL, ints]) (by simp [PS.get, PS.obj, PS.lv, lkp_hit, lkp_miss, lkp_nil, lko, wkL, wkC, PV.weak, wkL, wkC, res1, fsL, tsL, ints]) (by simp [PS.get, PS.obj, PS.lv, lkp_hit, lkp_miss, lkp_nil, lko]) (by rfl) (by rfl) (by simp [lko]) (by simp) (by simp) (by simp) (fun i hi => by rcases i with _ | i <;> first | rfl | (exfalso; omega)))
              · rintro ⟨a, pre, ha, ha4, hpl, hpre⟩
                have hpe := posA_eq 1 s a ha
                have w1 : IntKind.i64.wrap ((s.length : Int) - (a : Int)) = ((s.length - a : Nat) : Int) := by (rw [wrap_i64_id (by omega) (by omega)]; omega)
                obtain ⟨z, hz⟩ : ∃ z, z = s.length - a := ⟨_, rfl⟩
                rw [← hz] at w1
                simp -implicitDefEqProofs only [push_cast, OfS.st, w1, Int.reduceBEq, Int.reduceBNe, Int.reduceEq, Int.reduceNe, Int.reducePow, Nat.reduceAdd, Nat.reduceMul, Nat.reduceSub, Nat.reduceLT, Nat.reduceLeDiff, Nat.reduceEqDiff, Nat.reduceBEq, Int.reduceLT, Int.reduceLE, Int.reduceAdd, Int.reduceSub, Int.reduceMul, Int.reduceToNat, Int.reduceNeg, reduceIte, reduceCtorEq, reduceBEq]
                refine condC_split (fun g1 => ?_) (fun g1 => ?_)
                · have g1' : a + 4 ≤ s.length := by simp at g1; omega
                  obtain ⟨a2, ha2⟩ : ∃ a2, a2 = a + 2 := ⟨_, rfl⟩
                  obtain ⟨a4, hq4⟩ : ∃ a4, a4 = a + 4 := ⟨_, rfl⟩
                  have w2 : IntKind.i64.wrap ((a : Int) + 2) = (a2 : Int) := by (rw [wrap_i64_id (by omega) (by omega)]; omega)
                  have w4 : IntKind.i64.wrap ((a : Int) + 4) = (a4 : Int) := by (rw [wrap_i64_id (by omega) (by omega)]; omega)
                  have hge := get2_fs (o := 1) (.inr rfl) g1'
                  have hln := rawN_len (o := 1) (.inr rfl) g1'
                  have hlt := rawN_lt (o := 1) (s := s) (a := a)
                  have hsl : List.take (a4 - a2) (List.drop a2 s) = List.take 2 (List.drop a2 s) := by rw [show a4 - a2 = 2 by omega]
                  rw [← ha2] at hge
                  rw [if_neg (by omega)] at hpe
                  generalize rawN 1 s a = n at *
                  obtain ⟨m, hm⟩ : ∃ m, m = 4 * n := ⟨_, rfl⟩
                  have w5 : IntKind.i64.wrap (4 * (n : Int)) = (m : Int) := by (rw [wrap_i64_id (by omega) (by omega)]; omega)
                  rw [← hm] at hln
                  simp -implicitDefEqProofs only [push_cast, w2, w4, hsl, Int.reduceBEq, Int.reduceBNe, Int.reduceEq, Int.reduceNe, Int.reducePow, Nat.reduceAdd, Nat.reduceMul, Nat.reduceSub, Nat.reduceLT, Nat.reduceLeDiff, Nat.reduceEqDiff, Nat.reduceBEq, Int.reduceLT, Int.reduceLE, Int.reduceAdd, Int.reduceSub, Int.reduceMul, Int.reduceToNat, Int.reduceNeg, reduceIte, reduceCtorEq, reduceBEq]
                  (repeat (first | refine ⟨by omega, ?_⟩ | refine ⟨by (unfold drawOk; kernel_rfl), ?_⟩ | refine ⟨by (simp; omega), ?_⟩))
                  refine callE_pure hge (by rfl) (by rfl) (by rfl) (by decide) (by rfl) (fun _ => by rfl) (by first | rfl | simp [gdOk, newToks]) ?_
                  simp -implicitDefEqProofs only [push_cast, w5, Int.reduceBEq, Int.reduceBNe, Int.reduceEq, Int.reduceNe, Int.reducePow, Nat.reduceAdd, Nat.reduceMul, Nat.reduceSub, Nat.reduceLT, Nat.reduceLeDiff, Nat.reduceEqDiff, Nat.reduceBEq, Int.reduceLT, Int.reduceLE, Int.reduceAdd, Int.reduceSub, Int.reduceMul, Int.reduceToNat, Int.reduceNeg, reduceIte, reduceCtorEq, reduceBEq]
                  (repeat (first | refine ⟨by omega, ?_⟩ | refine ⟨by (unfold drawOk; kernel_rfl), ?_⟩ | refine ⟨by (simp; omega), ?_⟩))
                  cases g2 : ((m : Int) == 0)
                  · have g2' : m ≠ 0 := by simp at g2; exact g2
                    cases g3 : decide ((65536 : Int) < (m : Int))
                    · have g3' : m ≤ 65536 := by simp at g3; omega
                      rw [if_neg (by omega)] at hln
                      rw [hln, if_neg g2'] at hpe
                      simp -implicitDefEqProofs only [push_cast, g2, g3, Int.reduceBEq, Int.reduceBNe, Int.reduceEq, Int.reduceNe, Int.reducePow, Nat.reduceAdd, Nat.reduceMul, Nat.reduceSub, Nat.reduceLT, Nat.reduceLeDiff, Nat.reduceEqDiff, Nat.reduceBEq, Int.reduceLT, Int.reduceLE, Int.reduceAdd, Int.reduceSub, Int.reduceMul, Int.reduceToNat, Int.reduceNeg, reduceIte, reduceCtorEq, reduceBEq]
                      skip
                      refine condC_split (fun g4 => ?_) (fun g4 => ?_)
                      · have g4' : s.length < a + m := by simp at g4; omega
                        rw [if_pos g4'] at hpe
                        rw [hpre, hpe]
                        simp -implicitDefEqProofs only [push_cast, w1, List.append_nil, if_neg, Int.reduceBEq, Int.reduceBNe, Int.reduceEq, Int.reduceNe, Int.reducePow, Nat.reduceAdd, Nat.reduceMul, Nat.reduceSub, Nat.reduceLT, Nat.reduceLeDiff, Nat.reduceEqDiff, Nat.reduceBEq, Int.reduceLT, Int.reduceLE, Int.reduceAdd, Int.reduceSub, Int.reduceMul, Int.reduceToNat, Int.reduceNeg, reduceIte, reduceCtorEq, reduceBEq]
                        (repeat (first | refine ⟨by omega, ?_⟩ | refine ⟨by (unfold drawOk; kernel_rfl), ?_⟩ | refine ⟨by (simp; omega), ?_⟩))
                        skip
                        (repeat (first | refine ⟨by omega, ?_⟩ | refine ⟨by (unfold drawOk; kernel_rfl), ?_⟩))
                        all_goals first | done | rfl | omega | (unfold drawOk; kernel_rfl) | exact ⟨by (unfold drawOk; kernel_rfl), _, rfl, by simp [wkL, res2, res1, res3, PV.weak, PV.el]⟩ | exact ⟨_, rfl, by simp [wkL, res2, res1, res3, PV.weak, PV.el, ints, fsL, tsL, ofPV]⟩ | simp [wkL, res2, res1, res3, PV.weak, PV.el, ints, fsL, tsL, ofPV] | skip
                        all_goals (try omega)
                      · have g4' : ¬ s.length < a + m := by simp at g4; omega
                        rw [if_neg g4'] at hpe
                        obtain ⟨am, ham⟩ : ∃ am, am = a + m := ⟨_, rfl⟩
                        have w6 : IntKind.i64.wrap ((a : Int) + (m : Int)) = (am : Int) := by (rw [wrap_i64_id (by omega) (by omega)]; omega)
                        rw [← ham] at hpe
                        have hf := fsL_sn pre (a, am)
                        have ht := tsL_sn pre (a, am)
                        simp -implicitDefEqProofs only [push_cast, w6, fsL_len, tsL_len, ints_length, Int.reduceBEq, Int.reduceBNe, Int.reduceEq, Int.reduceNe, Int.reducePow, Nat.reduceAdd, Nat.reduceMul, Nat.reduceSub, Nat.reduceLT, Nat.reduceLeDiff, Nat.reduceEqDiff, Nat.reduceBEq, Int.reduceLT, Int.reduceLE, Int.reduceAdd, Int.reduceSub, Int.reduceMul, Int.reduceToNat, Int.reduceNeg, reduceIte, reduceCtorEq, reduceBEq]
                        (repeat (first | refine ⟨by omega, ?_⟩ | refine ⟨by (unfold drawOk; kernel_rfl), ?_⟩ | refine ⟨by (simp; omega), ?_⟩))
                        skip
                        refine ⟨⟨am, pre ++ [(a, am)], by omega, by omega, by simp; omega, by rw [hpre, hpe]; simp⟩, by simp only; omega, ?_⟩
                        (simp only [OfS.st, hf, ht]; exact Wk.by _ _ _ [(0, 0), (1, 1)] [(50, 212), (51, 248)] [] (by simp) (by simp [wkV, PV.el, PV.weak, PS.get, PS.obj, PS.lv, lkp_hit, lkp_miss, lkp_nil, lko, wkL, wkC, res1]) (by simp [PS.get, PS.obj, PS.lv, lkp_hit, lkp_miss, lkp_nil, lko, wkL, wkC, PV.weak, wkL, wkC, res1]) (by simp [PS.get, PS.obj, PS.lv, lkp_hit, lkp_miss, lkp_nil, lko]) (by rfl) (by rfl) (by simp [lko]) (by simp) (by simp) (by simp) (fun i hi => by rcases i with _ | i <;> first | rfl | (exfalso; omega)))
                    · have g3' : 65536 < m := by simp at g3; omega
                      rw [if_pos (by omega)] at hln
                      rw [hln, if_pos rfl] at hpe
                      rw [hpre, hpe]
                      simp -implicitDefEqProofs only [push_cast, g2, g3, Int.reduceBEq, Int.reduceBNe, Int.reduceEq, Int.reduceNe, Int.reducePow, Nat.reduceAdd, Nat.reduceMul, Nat.reduceSub, Nat.reduceLT, Nat.reduceLeDiff, Nat.reduceEqDiff, Nat.reduceBEq, Int.reduceLT, Int.reduceLE, Int.reduceAdd, Int.reduceSub, Int.reduceMul, Int.reduceToNat, Int.reduceNeg, reduceIte, reduceCtorEq, reduceBEq]
                      (repeat (first | refine ⟨by omega, ?_⟩ | refine ⟨by (unfold drawOk; kernel_rfl), ?_⟩ | refine ⟨by (simp; omega), ?_⟩))
                      skip
                      (repeat (first | refine ⟨by omega, ?_⟩ | refine ⟨by (unfold drawOk; kernel_rfl), ?_⟩))
                      all_goals first | done | rfl | omega | (unfold drawOk; kernel_rfl) | exact ⟨by (unfold drawOk; kernel_rfl), _, rfl, by simp [wkL, res2, res1, res3, PV.weak, PV.el]⟩ | exact ⟨_, rfl, by simp [wkL, res2, res1, res3, PV.weak, PV.el, ints, fsL, tsL, ofPV]⟩ | simp [wkL, res2, res1, res3, PV.weak, PV.el, ints, fsL, tsL, ofPV] | skip
                  · have g2' : m = 0 := by simp at g2; exact g2
                    rw [if_pos (by omega)] at hln
                    rw [hln, if_pos rfl] at hpe
                    rw [hpre, hpe]
                    simp -implicitDefEqProofs only [push_cast, g2, Int.reduceBEq, Int.reduceBNe, Int.reduceEq, Int.reduceNe, Int.reducePow, Nat.reduceAdd, Nat.reduceMul, Nat.reduceSub, Nat.reduceLT, Nat.reduceLeDiff, Nat.reduceEqDiff, Nat.reduceBEq, Int.reduceLT, Int.reduceLE, Int.reduceAdd, Int.reduceSub, Int.reduceMul, Int.reduceToNat, Int.reduceNeg, reduceIte, reduceCtorEq, reduceBEq]
                    (repeat (first | refine ⟨by omega, ?_⟩ | refine ⟨by (unfold drawOk; kernel_rfl), ?_⟩ | refine ⟨by (simp; omega), ?_⟩))
                    skip
                    (repeat (first | refine ⟨by omega, ?_⟩ | refine ⟨by (unfold drawOk; kernel_rfl), ?_⟩))
                    all_goals first | done | rfl | omega | (unfold drawOk; kernel_rfl) | exact ⟨by (unfold drawOk; kernel_rfl), _, rfl, by simp [wkL, res2, res1, res3, PV.weak, PV.el]⟩ | exact ⟨_, rfl, by simp [wkL, res2, res1, res3, PV.weak, PV.el, ints, fsL, tsL, ofPV]⟩ | simp [wkL, res2, res1, res3, PV.weak, PV.el, ints, fsL, tsL, ofPV] | skip
                · have g1' : s.length < a + 4 := by simp at g1; omega
                  rw [if_pos g1'] at hpe
                  rw [hpre, hpe]
                  simp -implicitDefEqProofs only [push_cast, w1, Int.reduceBEq, Int.reduceBNe, Int.reduceEq, Int.reduceNe, Int.reducePow, Nat.reduceAdd, Nat.reduceMul, Nat.reduceSub, Nat.reduceLT, Nat.reduceLeDiff, Nat.reduceEqDiff, Nat.reduceBEq, Int.reduceLT, Int.reduceLE, Int.reduceAdd, Int.reduceSub, Int.reduceMul, Int.reduceToNat, Int.reduceNeg, reduceIte, reduceCtorEq, reduceBEq]
                  (repeat (first | refine ⟨by omega, ?_⟩ | refine ⟨by (unfold drawOk; kernel_rfl), ?_⟩ | refine ⟨by (simp; omega), ?_⟩))
                  skip
                  (repeat (first | refine ⟨by omega, ?_⟩ | refine ⟨by (unfold drawOk; kernel_rfl), ?_⟩))
                  all_goals first | done | rfl | omega | (unfold drawOk; kernel_rfl) | exact ⟨by (unfold drawOk; kernel_rfl), _, rfl, by simp [wkL, res2, res1, res3, PV.weak, PV.el]⟩ | exact ⟨_, rfl, by simp [wkL, res2, res1, res3, PV.weak, PV.el, ints, fsL, tsL, ofPV]⟩ | simp [wkL, res2, res1, res3, PV.weak, PV.el, ints, fsL, tsL, ofPV] | skip
                  all_goals (try omega)
    · have qA : ((s.getD 0 0).toNat : Int) = 108 := by simpa only [beq_eq_false_iff_ne, ne_eq, beq_iff_eq] using kA
      have mA : (((s.getD 0 0).toNat : Int) != 108) = false := by rw [bne, kA]; rfl
      cases kB : (((s.getD 1 0).toNat : Int) == 1)
      · have qB : ¬ (((s.getD 1 0).toNat : Int) = 1) := by simpa only [beq_eq_false_iff_ne, ne_eq, beq_iff_eq] using kB
        have mB : (((s.getD 1 0).toNat : Int) != 1) = true := by rw [bne, kB]; rfl
        have hno : begO s = none := by
          rw [hbo]; first | (simp [qA, qB, -List.getD_eq_getElem?_getD]; done) | (simp [qA, qB, -List.getD_eq_getElem?_getD]; omega)
        rw [hno]
        simp only
        (refine Fsp.of (nx := 0) mixed Tryd.func27 rfl (by decide) (by first | exact Nat.le_refl _ | simp) (by simp [Tryd.f27]) ⟨by decide, by decide⟩ ?_; simp -implicitDefEqProofs only [push_cast, Tryd.f27, h1, mA, mB, Int.reduceBEq, Int.reduceBNe, Int.reduceEq, Int.reduceNe, Int.reducePow, Nat.reduceAdd, Nat.reduceMul, Nat.reduceSub, Nat.reduceLT, Nat.reduceLeDiff, Nat.reduceEqDiff, Nat.reduceBEq, Int.reduceLT, Int.reduceLE, Int.reduceAdd, Int.reduceSub, Int.reduceMul, Int.reduceToNat, Int.reduceNeg, reduceIte, reduceCtorEq, reduceBEq])
        (repeat (first | refine ⟨by omega, ?_⟩ | refine ⟨by (unfold drawOk; kernel_rfl), ?_⟩ | refine ⟨by (simp; omega), ?_⟩))
        skip
        (repeat (first | refine ⟨by omega, ?_⟩ | refine ⟨by (unfold drawOk; kernel_rfl), ?_⟩))
        all_goals first | done | rfl | omega | (unfold drawOk; kernel_rfl) | exact ⟨by (unfold drawOk; kernel_rfl), _, rfl, by simp [wkL, res2, res1, res3, PV.weak, PV.el]⟩ | exact ⟨_, rfl, by simp [wkL, res2, res1, res3, PV.weak, PV.el, ints, fsL, tsL, ofPV]⟩ | simp [wkL, res2, res1, res3, PV.weak, PV.el, ints, fsL, tsL, ofPV] | skip
      · have qB : ((s.getD 1 0).toNat : Int) = 1 := by simpa only [beq_eq_false_iff_ne, ne_eq, beq_iff_eq] using kB
        have mB : (((s.getD 1 0).toNat : Int) != 1) = false := by rw [bne, kB]; rfl
        cases kC : (((s.getD 2 0).toNat : Int) == 0)
        · have qC : ¬ (((s.getD 2 0).toNat : Int) = 0) := by simpa only [beq_eq_false_iff_ne, ne_eq, beq_iff_eq] using kC
          have mC : (((s.getD 2 0).toNat : Int) != 0) = true := by rw [bne, kC]; rfl
          have hno : begO s = none := by
            rw [hbo]; first | (simp [qA, qB, qC, -List.getD_eq_getElem?_getD]; done) | (simp [qA, qB, qC, -List.getD_eq_getElem?_getD]; omega)
          rw [hno]
          simp only
          (refine Fsp.of (nx := 0) mixed Tryd.func27 rfl (by decide) (by first | exact Nat.le_refl _ | simp) (by simp [Tryd.f27]) ⟨by decide, by decide⟩ ?_; simp -implicitDefEqProofs only [push_cast, Tryd.f27, h1, mA, mB, mC, Int.reduceBEq, Int.reduceBNe, Int.reduceEq, Int.reduceNe, Int.reducePow, Nat.reduceAdd, Nat.reduceMul, Nat.reduceSub, Nat.reduceLT, Nat.reduceLeDiff, Nat.reduceEqDiff, Nat.reduceBEq, Int.reduceLT, Int.reduceLE, Int.reduceAdd, Int.reduceSub, Int.reduceMul, Int.reduceToNat, Int.reduceNeg, reduceIte, reduceCtorEq, reduceBEq])
          (repeat (first | refine ⟨by omega, ?_⟩ | refine ⟨by (unfold drawOk; kernel_rfl), ?_⟩ | refine ⟨by (simp; omega), ?_⟩))
          skip
          (repeat (first | refine ⟨by omega, ?_⟩ | refine ⟨by (unfold drawOk; kernel_rfl), ?_⟩))
          all_goals first | done | rfl | omega | (unfold drawOk; kernel_rfl) | exact ⟨by (unfold drawOk; kernel_rfl), _, rfl, by simp [wkL, res2, res1, res3, PV.weak, PV.el]⟩ | exact ⟨_, rfl, by simp [wkL, res2, res1, res3, PV.weak, PV.el, ints, fsL, tsL, ofPV]⟩ | simp [wkL, res2, res1, res3, PV.weak, PV.el, ints, fsL, tsL, ofPV] | skip
        · have qC : ((s.getD 2 0).toNat : Int) = 0 := by simpa only [beq_eq_false_iff_ne, ne_eq, beq_iff_eq] using kC
          have mC : (((s.getD 2 0).toNat : Int) != 0) = false := by rw [bne, kC]; rfl
          cases kD : (((s.getD 3 0).toNat : Int) == 0)
          · have qD : ¬ (((s.getD 3 0).toNat : Int) = 0) := by simpa only [beq_eq_false_iff_ne, ne_eq, beq_iff_eq] using kD
            have mD : (((s.getD 3 0).toNat : Int) != 0) = true := by rw [bne, kD]; rfl
            have hno : begO s = none := by
              rw [hbo]; first | (simp [qA, qB, qC, qD, -List.getD_eq_getElem?_getD]; done) | (simp [qA, qB, qC, qD, -List.getD_eq_getElem?_getD]; omega)
            rw [hno]
            simp only
            (refine Fsp.of (nx := 0) mixed Tryd.func27 rfl (by decide) (by first | exact Nat.le_refl _ | simp) (by simp [Tryd.f27]) ⟨by decide, by decide⟩ ?_; simp -implicitDefEqProofs only [push_cast, Tryd.f27, h1, mA, mB, mC, mD, Int.reduceBEq, Int.reduceBNe, Int.reduceEq, Int.reduceNe, Int.reducePow, Nat.reduceAdd, Nat.reduceMul, Nat.reduceSub, Nat.reduceLT, Nat.reduceLeDiff, Nat.reduceEqDiff, Nat.reduceBEq, Int.reduceLT, Int.reduceLE, Int.reduceAdd, Int.reduceSub, Int.reduceMul, Int.reduceToNat, Int.reduceNeg, reduceIte, reduceCtorEq, reduceBEq])
            (repeat (first | refine ⟨by omega, ?_⟩ | refine ⟨by (unfold drawOk; kernel_rfl), ?_⟩ | refine ⟨by (simp; omega), ?_⟩))
            skip
            (repeat (first | refine ⟨by omega, ?_⟩ | refine ⟨by (unfold drawOk; kernel_rfl), ?_⟩))
            all_goals first | done | rfl | omega | (unfold drawOk; kernel_rfl) | exact ⟨by (unfold drawOk; kernel_rfl), _, rfl, by simp [wkL, res2, res1, res3, PV.weak, PV.el]⟩ | exact ⟨_, rfl, by simp [wkL, res2, res1, res3, PV.weak, PV.el, ints, fsL, tsL, ofPV]⟩ | simp [wkL, res2, res1, res3, PV.weak, PV.el, ints, fsL, tsL, ofPV] | skip
          · have qD : ((s.getD 3 0).toNat : Int) = 0 := by simpa only [beq_eq_false_iff_ne, ne_eq, beq_iff_eq] using kD
            have mD : (((s.getD 3 0).toNat : Int) != 0) = false := by rw [bne, kD]; rfl
            have hyes : begO s = some 0 := by
              rw [hbo]; simp [qA, qB, qC, qD, -List.getD_eq_getElem?_getD]
            rw [hyes]
            simp only
            have kE : (((s.getD 0 0).toNat : Int) == 66) = false := by rw [qA]; rfl
            rw [of_end (o := 0) (s := s) (by omega)]
            (refine Fsp.of (nx := 0) mixed Tryd.func27 rfl (by decide) (by first | exact Nat.le_refl _ | simp) (by simp [Tryd.f27]) ⟨by decide, by decide⟩ ?_; simp -implicitDefEqProofs only [push_cast, Tryd.f27, h1, kE, mA, mB, mC, mD, Int.reduceBEq, Int.reduceBNe, Int.reduceEq, Int.reduceNe, Int.reducePow, Nat.reduceAdd, Nat.reduceMul, Nat.reduceSub, Nat.reduceLT, Nat.reduceLeDiff, Nat.reduceEqDiff, Nat.reduceBEq, Int.reduceLT, Int.reduceLE, Int.reduceAdd, Int.reduceSub, Int.reduceMul, Int.reduceToNat, Int.reduceNeg, reduceIte, reduceCtorEq, reduceBEq])
            (repeat (first | refine ⟨by omega, ?_⟩ | refine ⟨by (unfold drawOk; kernel_rfl), ?_⟩ | refine ⟨by (simp; omega), ?_⟩))
            skip
            refine loopC_of (α := OfS 0 s) OfS.st (fun x => s.length - x.a) ⟨4, [], by omega, by omega, by simp, by simp⟩ ?_ ?_
            · (simp only [OfS.st]; exact Wk.by _ _ _ [(0, 0), (1, 4)] [] [50, 51] (by simp) (by simp [wkV, PV.el, PV.weak, PS.get, PS.obj, PS.lv, lkp_hit, lkp_miss, lkp_nil, lko, wkL, wkC, res1, fsL, tsL, ints]) (by simp [PS.get, PS.obj, PS.lv, lkp_hit, lkp_miss, lkp_nil, lko, wkL, wkC, PV.weak, wkL, wkC, res1, fsL, tsL, ints]) (by simp [PS.get, PS.obj, PS.lv, lkp_hit, lkp_miss, lkp_nil, lko]) (by rfl) (by rfl) (by simp [lko]) (by simp) (by simp) (by simp) (fun i hi => by rcases i with _ | i <;> first | rfl | (exfalso; omega)))
            · rintro ⟨a, pre, ha, ha4, hpl, hpre⟩
              have hpe := posA_eq 0 s a ha
              have w1 : IntKind.i64.wrap ((s.length : Int) - (a : Int)) = ((s.length - a : Nat) : Int) := by (rw [wrap_i64_id (by omega) (by omega)]; omega)
              obtain ⟨z, hz⟩ : ∃ z, z = s.length - a := ⟨_, rfl⟩
              rw [← hz] at w1
              simp -implicitDefEqProofs only [push_cast, OfS.st, w1, Int.reduceBEq, Int.reduceBNe, Int.reduceEq, Int.reduceNe, Int.reducePow, Nat.reduceAdd, Nat.reduceMul, Nat.reduceSub, Nat.reduceLT, Nat.reduceLeDiff, Nat.reduceEqDiff, Nat.reduceBEq, Int.reduceLT, Int.reduceLE, Int.reduceAdd, Int.reduceSub, Int.reduceMul, Int.reduceToNat, Int.reduceNeg, reduceIte, reduceCtorEq, reduceBEq]
              refine condC_split (fun g1 => ?_) (fun g1 => ?_)
              · have g1' : a + 4 ≤ s.length := by simp at g1; omega
                obtain ⟨a2, ha2⟩ : ∃ a2, a2 = a + 2 := ⟨_, rfl⟩
                obtain ⟨a4, hq4⟩ : ∃ a4, a4 = a + 4 := ⟨_, rfl⟩
                have w2 : IntKind.i64.wrap ((a : Int) + 2) = (a2 : Int) := by (rw [wrap_i64_id (by omega) (by omega)]; omega)
                have w4 : IntKind.i64.wrap ((a : Int) + 4) = (a4 : Int) := by (rw [wrap_i64_id (by omega) (by omega)]; omega)
                have hge := get2_fs (o := 0) (.inl rfl) g1'
                have hln := rawN_len (o := 0) (.inl rfl) g1'
                have hlt := rawN_lt (o := 0) (s := s) (a := a)
                have hsl : List.take (a4 - a2) (List.drop a2 s) = List.take 2 (List.drop a2 s) := by rw [show a4 - a2 = 2 by omega]
                rw [← ha2] at hge
                rw [if_neg (by omega)] at hpe
                generalize rawN 0 s a = n at *
                obtain ⟨m, hm⟩ : ∃ m, m = 4 * n := ⟨_, rfl⟩
                have w5 : IntKind.i64.wrap (4 * (n : Int)) = (m : Int) := by (rw [wrap_i64_id (by omega) (by omega)]; omega)
                rw [← hm] at hln
                simp -implicitDefEqProofs only [push_cast, w2, w4, hsl, Int.reduceBEq, Int.reduceBNe, Int.reduceEq, Int.reduceNe, Int.reducePow, Nat.reduceAdd, Nat.reduceMul, Nat.reduceSub, Nat.reduceLT, Nat.reduceLeDiff, Nat.reduceEqDiff, Nat.reduceBEq, Int.reduceLT, Int.reduceLE, Int.reduceAdd, Int.reduceSub, Int.reduceMul, Int.reduceToNat, Int.reduceNeg, reduceIte, reduceCtorEq, reduceBEq]
                (repeat (first | refine ⟨by omega, ?_⟩ | refine ⟨by (unfold drawOk; kernel_rfl), ?_⟩ | refine ⟨by (simp; omega), ?_⟩))
                refine callE_pure hge (by rfl) (by rfl) (by rfl) (by decide) (by rfl) (fun _ => by rfl) (by first | rfl | simp [gdOk, newToks]) ?_
                simp -implicitDefEqProofs only [push_cast, w5, Int.reduceBEq, Int.reduceBNe, Int.reduceEq, Int.reduceNe, Int.reducePow, Nat.reduceAdd, Nat.reduceMul, Nat.reduceSub, Nat.reduceLT, Nat.reduceLeDiff, Nat.reduceEqDiff, Nat.reduceBEq, Int.reduceLT, Int.reduceLE, Int.reduceAdd, Int.reduceSub, Int.reduceMul, Int.reduceToNat, Int.reduceNeg, reduceIte, reduceCtorEq, reduceBEq]
                (repeat (first | refine ⟨by omega, ?_⟩ | refine ⟨by (unfold drawOk; kernel_rfl), ?_⟩ | refine ⟨by (simp; omega), ?_⟩))
                cases g2 : ((m : Int) == 0)
                · have g2' : m ≠ 0 := by simp at g2; exact g2
                  cases g3 : decide ((65536 : Int) < (m : Int))
                  · have g3' : m ≤ 65536 := by simp at g3; omega
                    rw [if_neg (by omega)] at hln
                    rw [hln, if_neg g2'] at hpe
                    simp -implicitDefEqProofs only [push_cast, g2, g3, Int.reduceBEq, Int.reduceBNe, Int.reduceEq, Int.reduceNe, Int.reducePow, Nat.reduceAdd, Nat.reduceMul, Nat.reduceSub, Nat.reduceLT, Nat.reduceLeDiff, Nat.reduceEqDiff, Nat.reduceBEq, Int.reduceLT, Int.reduceLE, Int.reduceAdd, Int.reduceSub, Int.reduceMul, Int.reduceToNat, Int.reduceNeg, reduceIte, reduceCtorEq, reduceBEq]
                    skip
                    refine condC_split (fun g4 => ?_) (fun g4 => ?_)
                    · have g4' : s.length < a + m := by simp at g4; omega
                      rw [if_pos g4'] at hpe
                      rw [hpre, hpe]
                      simp -implicitDefEqProofs only [push_cast, w1, List.append_nil, if_neg, Int.reduceBEq, Int.reduceBNe, Int.reduceEq, Int.reduceNe, Int.reducePow, Nat.reduceAdd, Nat.reduceMul, Nat.reduceSub, Nat.reduceLT, Nat.reduceLeDiff, Nat.reduceEqDiff, Nat.reduceBEq, Int.reduceLT, Int.reduceLE, Int.reduceAdd, Int.reduceSub, Int.reduceMul, Int.reduceToNat, Int.reduceNeg, reduceIte, reduceCtorEq, reduceBEq]
                      (repeat (first | refine ⟨by omega, ?_⟩ | refine ⟨by (unfold drawOk; kernel_rfl), ?_⟩ | refine ⟨by (simp; omega), ?_⟩))
                      skip
                      (repeat (first | refine ⟨by omega, ?_⟩ | refine ⟨by (unfold drawOk; kernel_rfl), ?_⟩))
                      all_goals first | done | rfl | omega | (unfold drawOk; kernel_rfl) | exact ⟨by (unfold drawOk; kernel_rfl), _, rfl, by simp [wkL, res2, res1, res3, PV.weak, PV.el]⟩ | exact ⟨_, rfl, by simp [wkL, res2, res1, res3, PV.weak, PV.el, ints, fsL, tsL, ofPV]⟩ | simp [wkL, res2, res1, res3, PV.weak, PV.el, ints, fsL, tsL, ofPV] | skip
                      all_goals (try omega)
                    · have g4' : ¬ s.length < a + m := by simp at g4; omega
                      rw [if_neg g4'] at hpe
                      obtain ⟨am, ham⟩ : ∃ am, am = a + m := ⟨_, rfl⟩
                      have w6 : IntKind.i64.wrap ((a : Int) + (m : Int)) = (am : Int) := by (rw [wrap_i64_id (by omega) (by omega)]; omega)
                      rw [← ham] at hpe
                      have hf := fsL_sn pre (a, am)
                      have ht := tsL_sn pre (a, am)
                      simp -implicitDefEqProofs only [push_cast, w6, fsL_len, tsL_len, ints_length, Int.reduceBEq, Int.reduceBNe, Int.reduceEq, Int.reduceNe, Int.reducePow, Nat.reduceAdd, Nat.reduceMul, Nat.reduceSub, Nat.reduceLT, Nat.reduceLeDiff, Nat.reduceEqDiff, Nat.reduceBEq, Int.reduceLT, Int.reduceLE, Int.reduceAdd, Int.reduceSub, Int.reduceMul, Int.reduceToNat, Int.reduceNeg, reduceIte, reduceCtorEq, reduceBEq]
                      (repeat (first | refine ⟨by omega, ?_⟩ | refine ⟨by (unfold drawOk; kernel_rfl), ?_⟩ | refine ⟨by (simp; omega), ?_⟩))
                      skip
                      refine ⟨⟨am, pre ++ [(a, am)], by omega, by omega, by simp; omega, by rw [hpre, hpe]; simp⟩, by simp only; omega, ?_⟩
                      (simp only [OfS.st, hf, ht]; exact Wk.by _ _ _ [(0, 0), (1, 1)] [(50, 212), (51, 248)] [] (by simp) (by simp [wkV, PV.el, PV.weak, PS.get, PS.obj, PS.lv, lkp_hit, lkp_miss, lkp_nil, lko, wkL, wkC, res1]) (by simp [PS.get, PS.obj, PS.lv, lkp_hit, lkp_miss, lkp_nil, lko, wkL, wkC, PV.weak, wkL, wkC, res1]) (by simp [PS.get, PS.obj, PS.lv, lkp_hit, lkp_miss, lkp_nil, lko]) (by rfl) (by rfl) (by simp [lko]) (by simp) (by simp) (by simp) (fun i hi => by rcases i with _ | i <;> first | rfl | (exfalso; omega)))
                  · have g3' : 65536 < m := by simp at g3; omega
                    rw [if_pos (by omega)] at hln
                    rw [hln, if_pos rfl] at hpe
                    rw [hpre, hpe]
                    simp -implicitDefEqProofs only [push_cast, g2, g3, Int.reduceBEq, Int.reduceBNe, Int.reduceEq, Int.reduceNe, Int.reducePow, Nat.reduceAdd, Nat.reduceMul, Nat.reduceSub, Nat.reduceLT, Nat.reduceLeDiff, Nat.reduceEqDiff, Nat.reduceBEq, Int.reduceLT, Int.reduceLE, Int.reduceAdd, Int.reduceSub, Int.reduceMul, Int.reduceToNat, Int.reduceNeg, reduceIte, reduceCtorEq, reduceBEq]
                    (repeat (first | refine ⟨by omega, ?_⟩ | refine ⟨by (unfold drawOk; kernel_rfl), ?_⟩ | refine ⟨by (simp; omega), ?_⟩))
                    skip
                    (repeat (first | refine ⟨by omega, ?_⟩ | refine ⟨by (unfold drawOk; kernel_rfl), ?_⟩))
                    all_goals first | done | rfl | omega | (unfold drawOk; kernel_rfl) | exact ⟨by (unfold drawOk; kernel_rfl), _, rfl, by simp [wkL, res2, res1, res3, PV.weak, PV.el]⟩ | exact ⟨_, rfl, by simp [wkL, res2, res1, res3, PV.weak, PV.el, ints, fsL, tsL, ofPV]⟩ | simp [wkL, res2, res1, res3, PV.weak, PV.el, ints, fsL, tsL, ofPV] | skip
                · have g2' : m = 0 := by simp at g2; exact g2
                  rw [if_pos (by omega)] at hln
                  rw [hln, if_pos rfl] at hpe
                  rw [hpre, hpe]
                  simp -implicitDefEqProofs only [push_cast, g2, Int.reduceBEq, Int.reduceBNe, Int.reduceEq, Int.reduceNe, Int.reducePow, Nat.reduceAdd, Nat.reduceMul, Nat.reduceSub, Nat.reduceLT, Nat.reduceLeDiff, Nat.reduceEqDiff, Nat.reduceBEq, Int.reduceLT, Int.reduceLE, Int.reduceAdd, Int.reduceSub, Int.reduceMul, Int.reduceToNat, Int.reduceNeg, reduceIte, reduceCtorEq, reduceBEq]
                  (repeat (first | refine ⟨by omega, ?_⟩ | refine ⟨by (unfold drawOk; kernel_rfl), ?_⟩ | refine ⟨by (simp; omega), ?_⟩))
                  skip
                  (repeat (first | refine ⟨by omega, ?_⟩ | refine ⟨by (unfold drawOk; kernel_rfl), ?_⟩))
                  all_goals first | done | rfl | omega | (unfold drawOk; kernel_rfl) | exact ⟨by (unfold drawOk; kernel_rfl), _, rfl, by simp [wkL, res2, res1, res3, PV.weak, PV.el]⟩ | exact ⟨_, rfl, by simp [wkL, res2, res1, res3, PV.weak, PV.el, ints, fsL, tsL, ofPV]⟩ | simp [wkL, res2, res1, res3, PV.weak, PV.el, ints, fsL, tsL, ofPV] | skip
              · have g1' : s.length < a + 4 := by simp at g1; omega
                rw [if_pos g1'] at hpe
                rw [hpre, hpe]
                simp -implicitDefEqProofs only [push_cast, w1, Int.reduceBEq, Int.reduceBNe, Int.reduceEq, Int.reduceNe, Int.reducePow, Nat.reduceAdd, Nat.reduceMul, Nat.reduceSub, Nat.reduceLT, Nat.reduceLeDiff, Nat.reduceEqDiff, Nat.reduceBEq, Int.reduceLT, Int.reduceLE, Int.reduceAdd, Int.reduceSub, Int.reduceMul, Int.reduceToNat, Int.reduceNeg, reduceIte, reduceCtorEq, reduceBEq]
                (repeat (first | refine ⟨by omega, ?_⟩ | refine ⟨by (unfold drawOk; kernel_rfl), ?_⟩ | refine ⟨by (simp; omega), ?_⟩))
                skip
                (repeat (first | refine ⟨by omega, ?_⟩ | refine ⟨by (unfold drawOk; kernel_rfl), ?_⟩))
                all_goals first | done | rfl | omega | (unfold drawOk; kernel_rfl) | exact ⟨by (unfold drawOk; kernel_rfl), _, rfl, by simp [wkL, res2, res1, res3, PV.weak, PV.el]⟩ | exact ⟨_, rfl, by simp [wkL, res2, res1, res3, PV.weak, PV.el, ints, fsL, tsL, ofPV]⟩ | simp [wkL, res2, res1, res3, PV.weak, PV.el, ints, fsL, tsL, ofPV] | skip
                all_goals (try omega)
  · have h1' : s.length < 4 := by simp at h1; omega
    unfold ofR ofL stO
    rw [if_pos h1', if_pos h1']
    (refine Fsp.of (nx := 0) mixed Tryd.func27 rfl (by decide) (by first | exact Nat.le_refl _ | simp) (by simp [Tryd.f27]) ⟨by decide, by decide⟩ ?_; simp -implicitDefEqProofs only [push_cast, Tryd.f27, h1, Int.reduceBEq, Int.reduceBNe, Int.reduceEq, Int.reduceNe, Int.reducePow, Nat.reduceAdd, Nat.reduceMul, Nat.reduceSub, Nat.reduceLT, Nat.reduceLeDiff, Nat.reduceEqDiff, Nat.reduceBEq, Int.reduceLT, Int.reduceLE, Int.reduceAdd, Int.reduceSub, Int.reduceMul, Int.reduceToNat, Int.reduceNeg, reduceIte, reduceCtorEq, reduceBEq])
    skip
    (repeat (first | refine ⟨by omega, ?_⟩ | refine ⟨by (unfold drawOk; kernel_rfl), ?_⟩))
    all_goals first | done | rfl | omega | (unfold drawOk; kernel_rfl) | exact ⟨by (unfold drawOk; kernel_rfl), _, rfl, by simp [wkL, res2, res1, res3, PV.weak, PV.el]⟩ | exact ⟨_, rfl, by simp [wkL, res2, res1, res3, PV.weak, PV.el, ints, fsL, tsL, ofPV]⟩ | simp [wkL, res2, res1, res3, PV.weak, PV.el, ints, fsL, tsL, ofPV] | skip

end Go.Proofs.Sh

/- The law's look at a stream's state. -/
set_option maxRecDepth 100000
set_option linter.unusedSimpArgs false
set_option linter.unusedVariables false
namespace Go.Proofs.Sh
open Go.Pv

theorem stO_len (a : List UInt8) : (stO a).r.length ≤ a.length := by
  unfold stO
  split
  · exact Nat.le_refl _
  · split
    · have := cutS_rest (o := ‹Int›) (a.drop 4).length (a.drop 4) (Nat.le_refl _)
      rw [List.length_drop] at this
      exact Nat.le_trans this (Nat.sub_le _ _)
    · exact Nat.zero_le _
theorem state_fs (a : List UInt8) (ha : a.length ≤ 900000) : Fsp Tryd.prog 30 [] 0 [(stO a).pv, ofR a] [] 0 (.bool true) := by
  have hl := stO_len a
  have hO := order_fs (stO a)
  have hD := dead_fs (stO a)
  have hR := rest_fs (stO a) (by omega)
  unfold ofR
  generalize stO a = t at *
  obtain ⟨b, d, o, r⟩ := t
  simp only [Sm.pv] at *
  (refine Fsp.of (nx := 0) mixed Tryd.func30 rfl (by decide) (by first | exact Nat.le_refl _ | simp) (by simp [Tryd.f30]) ⟨by decide, by decide⟩ ?_; simp -implicitDefEqProofs only [push_cast, Tryd.f30, ofPV, beq_self_eq_true, Int.reduceBEq, Int.reduceBNe, Int.reduceEq, Int.reduceNe, Int.reducePow, Nat.reduceAdd, Nat.reduceMul, Nat.reduceSub, Nat.reduceLT, Nat.reduceLeDiff, Nat.reduceEqDiff, Nat.reduceBEq, Int.reduceLT, Int.reduceLE, Int.reduceAdd, Int.reduceSub, Int.reduceMul, Int.reduceToNat, Int.reduceNeg, reduceIte, reduceCtorEq, reduceBEq])
  refine callE_pure hO (by rfl) (by rfl) (by rfl) (by decide) (by rfl) (fun _ => by rfl) (by first | rfl | simp [gdOk, newToks]) ?_
  simp -implicitDefEqProofs only [push_cast, beq_self_eq_true, Int.reduceBEq, Int.reduceBNe, Int.reduceEq, Int.reduceNe, Int.reducePow, Nat.reduceAdd, Nat.reduceMul, Nat.reduceSub, Nat.reduceLT, Nat.reduceLeDiff, Nat.reduceEqDiff, Nat.reduceBEq, Int.reduceLT, Int.reduceLE, Int.reduceAdd, Int.reduceSub, Int.reduceMul, Int.reduceToNat, Int.reduceNeg, reduceIte, reduceCtorEq, reduceBEq]
  (repeat (first | refine ⟨by omega, ?_⟩ | refine ⟨by (unfold drawOk; kernel_rfl), ?_⟩ | refine ⟨by (simp; omega), ?_⟩))
  refine callE_pure hD (by rfl) (by rfl) (by rfl) (by decide) (by rfl) (fun _ => by rfl) (by first | rfl | simp [gdOk, newToks]) ?_
  simp -implicitDefEqProofs only [push_cast, beq_self_eq_true, Int.reduceBEq, Int.reduceBNe, Int.reduceEq, Int.reduceNe, Int.reducePow, Nat.reduceAdd, Nat.reduceMul, Nat.reduceSub, Nat.reduceLT, Nat.reduceLeDiff, Nat.reduceEqDiff, Nat.reduceBEq, Int.reduceLT, Int.reduceLE, Int.reduceAdd, Int.reduceSub, Int.reduceMul, Int.reduceToNat, Int.reduceNeg, reduceIte, reduceCtorEq, reduceBEq]
  (repeat (first | refine ⟨by omega, ?_⟩ | refine ⟨by (unfold drawOk; kernel_rfl), ?_⟩ | refine ⟨by (simp; omega), ?_⟩))
  refine callE_pure hR (by rfl) (by rfl) (by rfl) (by decide) (by rfl) (fun _ => by rfl) (by first | rfl | simp [gdOk, newToks]) ?_
  simp -implicitDefEqProofs only [push_cast, beq_self_eq_true, Int.reduceBEq, Int.reduceBNe, Int.reduceEq, Int.reduceNe, Int.reducePow, Nat.reduceAdd, Nat.reduceMul, Nat.reduceSub, Nat.reduceLT, Nat.reduceLeDiff, Nat.reduceEqDiff, Nat.reduceBEq, Int.reduceLT, Int.reduceLE, Int.reduceAdd, Int.reduceSub, Int.reduceMul, Int.reduceToNat, Int.reduceNeg, reduceIte, reduceCtorEq, reduceBEq]
  (repeat (first | refine ⟨by omega, ?_⟩ | refine ⟨by (unfold drawOk; kernel_rfl), ?_⟩ | refine ⟨by (simp; omega), ?_⟩))
  all_goals first | done | (unfold drawOk; kernel_rfl) | exact ⟨by (unfold drawOk; kernel_rfl), _, rfl, by simp [wkL, res1, PV.weak]⟩
/-- What comes next. -/
theorem feed_next (a b : List UInt8) : (feedS (stO a) b).1 = stO (a ++ b) ∧ itO (a ++ b) = itO a ++ (feedS (stO a) b).2 := by
  by_cases h4 : a.length < 4
  · have e1 : stO a = ⟨false, false, 0, a⟩ := by rw [stO, if_pos h4]
    have e2 : itO a = [] := by rw [itO, if_pos h4]
    have e3 : feedS ⟨false, false, 0, a⟩ b = feedS ⟨false, false, 0, []⟩ (a ++ b) := by unfold feedS; rfl
    rw [e1, e2, e3, feed_O]; exact ⟨rfl, rfl⟩
  · have h4' : ¬ (a ++ b).length < 4 := by rw [List.length_append]; omega
    have hb : begO (a ++ b) = begO a := by
      unfold begO
      rw [List.take_append_of_le_length (by omega)]
    have hd : (a ++ b).drop 4 = a.drop 4 ++ b := List.drop_append_of_le_length (by omega)
    unfold stO itO
    rw [if_neg h4, if_neg h4', if_neg h4, if_neg h4', hb, hd]
    cases begO a with
    | none => exact ⟨rfl, rfl⟩
    | some o =>
      simp only
      have hc := cutS_app o b (a.drop 4).length (a.drop 4) (Nat.le_refl _)
      cases hde : (cutS o (a.drop 4)).2.2 with
      | true =>
        rw [hde, if_pos rfl] at hc
        rw [hc]
        have := cutS_dead _ _ (Nat.le_refl _) hde
        unfold feedS
        rw [if_pos rfl, this]
        exact ⟨rfl, by simp⟩
      | false =>
        rw [hde, if_neg Bool.false_ne_true] at hc
        rw [hc]
        unfold feedS
        rw [if_neg Bool.false_ne_true]
        have hbg : beginS ⟨true, false, o, (cutS o (a.drop 4)).2.1 ++ b⟩ = ⟨true, false, o, (cutS o (a.drop 4)).2.1 ++ b⟩ := rfl
        simp only [hbg]
        rw [if_pos trivial, runS_cut]
        simp only [Bool.false_or]
        constructor
        · cases h2 : (cutS o ((cutS o (a.drop 4)).2.1 ++ b)).2.2 with
          | true => simp only [if_true]; rw [cutS_dead _ _ (Nat.le_refl _) h2]
          | false => simp
        · rw [List.map_append]
theorem cut_mem {o : Int} : ∀ (n : Nat) (r : List UInt8), r.length ≤ n → ∀ p ∈ (cutS o r).1, p.length ≤ r.length
  | n, r, hn, p, hp => by
    rw [cutS_eq] at hp
    split at hp
    · cases hp
    · split at hp
      · cases hp
      · split at hp
        · cases hp
        · rcases List.mem_cons.1 hp with rfl | hp
          · rw [List.length_take]; omega
          · have := cut_mem (o := o) (n - 1) (r.drop (lenR o r).1.toNat) (by rw [List.length_drop]; omega) p hp
            rw [List.length_drop] at this
            omega
  termination_by n => n
  decreasing_by omega
theorem cut_len {o : Int} : ∀ (n : Nat) (r : List UInt8), r.length ≤ n → (cutS o r).1.length ≤ r.length
  | n, r, hn => by
    rw [cutS_eq]
    split
    · exact Nat.zero_le _
    · split
      · exact Nat.zero_le _
      · split
        · exact Nat.zero_le _
        · have := cut_len (o := o) (n - 1) (r.drop (lenR o r).1.toNat) (by rw [List.length_drop]; omega)
          rw [List.length_drop] at this
          rw [List.length_cons]
          omega
  termination_by n => n
  decreasing_by omega
theorem itO_few (a : List UInt8) (ha : a.length ≤ 900000) : ∀ x ∈ itO a, x.R.Few := by
  unfold itO
  split
  · intro x hx; cases hx
  · split
    · intro x hx
      obtain ⟨p, hp, rfl⟩ := List.mem_map.1 hx
      refine itemOf_few _ _ ?_
      have := cut_mem _ _ (Nat.le_refl _) p hp
      rw [List.length_drop] at this
      omega
    · intro x hx; cases hx
theorem itO_len (a : List UInt8) : (itO a).length ≤ a.length := by
  unfold itO
  split
  · exact Nat.zero_le _
  · split
    · rw [List.length_map]
      have := cut_len (o := ‹Int›) _ (a.drop 4) (Nat.le_refl _)
      rw [List.length_drop] at this
      omega
    · exact Nat.zero_le _
theorem feed_sub {a b : List UInt8} {x : It} (h : x ∈ (feedS (stO a) b).2) : x ∈ itO (a ++ b) := by
  rw [(feed_next a b).2]; exact List.mem_append_right _ h
theorem feed_len (a b : List UInt8) : (feedS (stO a) b).2.length ≤ (a ++ b).length := by
  have := itO_len (a ++ b)
  rw [(feed_next a b).2, List.length_append] at this
  omega

end Go.Proofs.Sh
