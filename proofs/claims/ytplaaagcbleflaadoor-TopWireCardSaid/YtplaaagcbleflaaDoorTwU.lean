/- Streams: awake. -/
import Derived.Test.YtplaaagcbleflaaDoorSxFeed
import Derived.Test.YtplaaagcbleflaaDoorPvZ
import Derived.Test.YtplaaagcbleflaaDoorSxIt
import Derived.Test.YtplaaagcbleflaaDoorPkGet
import Derived.Test.YtplaaagcbleflaaDoorPkPack
set_option maxRecDepth 100000
set_option linter.unusedSimpArgs false
set_option linter.unusedVariables false
namespace Go.Proofs.Sh
open Go.Pv
def awkB : List UInt8 := [66, 1, 0, 0, 58, 0, 0, 1, 99, 0, 0, 1, 58]
def jnkB : List UInt8 := [66, 1, 0, 0, 58, 0, 0, 1]
def isSm0 : PV → Bool := pvEq sm0.pv
def fdCl : Cl := fnCl 13 fun args => match args with
  | [s, .str b] => if isSm0 s then (if u8sEq b awkB then some (feedR sm0 awkB) else if u8sEq b jnkB then some (feedR sm0 jnkB) else none) else none
  | _ => none
theorem fdCl_ok : fdCl.Ok Tryd.prog := fnCl_ok fun args r h => by
  split at h
  · rename_i s b
    split at h
    · rename_i hs
      have hs := pvEq_eq hs
      subst hs
      split at h
      · rename_i hb; cases h
        rw [u8sEq_eq hb]; exact feed_fs sm0 awkB (by simp [sm0, awkB])
      · split at h
        · rename_i hb; cases h
          rw [u8sEq_eq hb]; exact feed_fs sm0 jnkB (by simp [sm0, jnkB])
        · cases h
    · cases h
  · cases h
def restCl : Cl := fnCl 16 fun args => match args with
  | [s] => if pvEq (feedS sm0 awkB).1.pv s then some (.int .i64 1) else none
  | _ => none
theorem awake_fs : Fsp Tryd.prog 19 [] 0 [] [] 0 (.bool true) := ranTrue mixed fdCl_ok (wbf := fun f => false) (n := 60) (d := 10) (by kernel_rfl)
theorem junkAwake_fs : Fsp Tryd.prog 12 [] 0 [] [] 0 (.bool true) := ranTrue mixed fdCl_ok (wbf := fun f => false) (n := 60) (d := 10) (by kernel_rfl)
end Go.Proofs.Sh

/- What is read is not long. -/
set_option maxRecDepth 100000
set_option linter.unusedSimpArgs false
set_option linter.unusedVariables false
namespace Go.Proofs.Sh
open Go.Pv
theorem stB_len (o : Int) (s : List UInt8) (b : Bool) (c : Cu) : (stB o s b c).2.1.length ≤ s.length := by
  unfold stB
  split
  · split
    · split
      · simp
      · simp only [List.length_take, List.length_drop]; omega
    · simp
  · simp
theorem stL_len {o : Int} (ho : isOrder o) {s : List UInt8} (hs : s.length ≤ 1000000) {z : Int} (hz : z = 0 ∨ isSize z) (c : Cu) : (stL o s z c).1.length ≤ 1000000 := by
  unfold stL
  split
  · simp
  · rename_i h0
    have hw := wid_pos (hz.resolve_left h0)
    split
    · split
      · simp
      · rename_i h2
        have hn := num4 (o := o) (s := s) ho c
        generalize num o s 4 c = q at *
        obtain ⟨q1, q2⟩ := q
        simp only at hn h2
        obtain ⟨n, rfl⟩ := Int.eq_ofNat_of_zero_le hn.1
        simp only [nums_length, List.length_replicate, Int.toNat_natCast]
        have h3 : (n : Int) * (wid z : Int) = ((n * wid z : Nat) : Int) := by rw [Int.natCast_mul]
        rw [h3] at h2
        have h4 : n * 1 ≤ n * wid z := Nat.mul_le_mul_left _ hw.1
        omega
    · simp
theorem getF_few {o : Int} (ho : isOrder o) {f : Fm} (h : f.Ok) {s : List UInt8} (hs : s.length ≤ 1000000) : (getF o f s).1.N.length ≤ 1000000 ∧ (getF o f s).1.B.length ≤ 1000000 ∧ (getF o f s).1.L.length ≤ 1000000 := by
  have hb : (body o s f ⟨0, 0⟩).1.N.length ≤ 1000000 ∧ (body o s f ⟨0, 0⟩).1.B.length ≤ 1000000 ∧ (body o s f ⟨0, 0⟩).1.L.length ≤ 1000000 := by
    have hn := h.n
    unfold body
    split
    · refine ⟨?_, ?_, ?_⟩
      · simp only [nums_length]; omega
      · exact Nat.le_trans (stB_len o s _ _) hs
      · exact stL_len ho hs h.l _
    · refine ⟨?_, ?_, ?_⟩
      · simp only [nums_length]; omega
      · simp
      · simp
  unfold getF
  split
  · simp [fd0]
  · split
    · exact hb
    · simp [fd0]
theorem getP_few {o : Int} {s : List UInt8} (hs : s.length ≤ 1000000) : (getP o s).1.Few := by
  have h0 : rq0.Few := ⟨by simp [rq0], by simp [rq0], by simp [rq0]⟩
  unfold getP
  split
  · rename_i ho
    split
    · exact h0
    · split
      · exact h0
      · rename_i f hf
        obtain ⟨hok, -, -⟩ := formOf_some hf
        have hb := getF_few (isOrd_of ho) hok (s := s.drop 4) (by simp; omega)
        unfold getQ
        split
        · split
          · split
            · split
              · exact ⟨Nat.le_trans hb.1 (by decide), Nat.le_trans hb.2.1 (by decide), Nat.le_trans hb.2.2 (by decide)⟩
              · exact h0
            · exact h0
          · exact h0
        · exact h0
  · exact h0
end Go.Proofs.Sh

/- The laws of streams: item, same, all. -/
set_option maxRecDepth 100000
set_option linter.unusedSimpArgs false
set_option linter.unusedVariables false
namespace Go.Proofs.Sh
open Go.Pv

set_option maxHeartbeats 2000000 in
theorem litem_fs (o : Int) (s : List UInt8) (hs : s.length ≤ 1000000) (h0 : 0 < s.length) : Fsp Tryd.prog 28 [] 0 [.int .i64 o, .str s] [] 0 (itemOf o s).pv := by
  have hg := packGet_fs o s hs
  rw [getPR] at hg
  unfold itemOf
  generalize getP o s = x at *
  obtain ⟨⟨c, N, B, L⟩, e⟩ := x
  simp only [Rq.pv] at hg
  simp only
  cases h1 : (e == 0)
  · have h1' : ¬ e = 0 := by simpa using h1
    rw [if_neg h1']
    cases h2 : (e == 10)
    · have h2' : ¬ e = 10 := by simpa using h2
      rw [if_neg h2']
      (refine Fsp.ofs (nx := 0) mixed Tryd.func28 rfl (by simp [Tryd.f28]) ?_; simp -implicitDefEqProofs only [push_cast, Tryd.f28, seval])
      refine callE_p hg ?_
      simp -implicitDefEqProofs only [push_cast, h1, h2, wb, seval]
      (repeat (first | refine ⟨by omega, ?_⟩ | refine ⟨by (unfold drawOk; kernel_rfl), ?_⟩))
      (repeat (first | refine ⟨by omega, ?_⟩ | refine ⟨by (unfold drawOk; kernel_rfl), ?_⟩))
      all_goals first | done | rfl | omega | (unfold drawOk; kernel_rfl) | exact ⟨by (unfold drawOk; kernel_rfl), _, rfl, by simp [wkL, res2, res1, res3, PV.weak, PV.el]⟩ | exact ⟨_, rfl, by simp [wkL, res2, res1, res3, PV.weak, PV.el, ints, Sm.pv, It.pv, rq0]⟩ | simp [wkL, res2, res1, res3, PV.weak, PV.el, ints, Sm.pv, It.pv, rq0] | skip
    · have h2' : e = 10 := by simpa using h2
      rw [if_pos h2']
      (refine Fsp.ofs (nx := 0) mixed Tryd.func28 rfl (by simp [Tryd.f28]) ?_; simp -implicitDefEqProofs only [push_cast, Tryd.f28, seval])
      refine callE_p hg ?_
      simp -implicitDefEqProofs only [push_cast, h1, h2, wb, seval]
      (repeat (first | refine ⟨by omega, ?_⟩ | refine ⟨by (unfold drawOk; kernel_rfl), ?_⟩))
      (repeat (first | refine ⟨by omega, ?_⟩ | refine ⟨by (unfold drawOk; kernel_rfl), ?_⟩))
      all_goals first | done | rfl | omega | (unfold drawOk; kernel_rfl) | exact ⟨by (unfold drawOk; kernel_rfl), _, rfl, by simp [wkL, res2, res1, res3, PV.weak, PV.el]⟩ | exact ⟨_, rfl, by simp [wkL, res2, res1, res3, PV.weak, PV.el, ints, Sm.pv, It.pv, rq0]⟩ | simp [wkL, res2, res1, res3, PV.weak, PV.el, ints, Sm.pv, It.pv, rq0] | skip
  · have h1' : e = 0 := by simpa using h1
    rw [if_pos h1']
    (refine Fsp.ofs (nx := 0) mixed Tryd.func28 rfl (by simp [Tryd.f28]) ?_; simp -implicitDefEqProofs only [push_cast, Tryd.f28, seval])
    refine callE_p hg ?_
    simp -implicitDefEqProofs only [push_cast, h1, seval]
    (repeat (first | refine ⟨by omega, ?_⟩ | refine ⟨by (unfold drawOk; kernel_rfl), ?_⟩))
    (repeat (first | refine ⟨by omega, ?_⟩ | refine ⟨by (unfold drawOk; kernel_rfl), ?_⟩))
    all_goals first | done | rfl | omega | (unfold drawOk; kernel_rfl) | exact ⟨by (unfold drawOk; kernel_rfl), _, rfl, by simp [wkL, res2, res1, res3, PV.weak, PV.el]⟩ | exact ⟨_, rfl, by simp [wkL, res2, res1, res3, PV.weak, PV.el, ints, Sm.pv, It.pv, rq0]⟩ | simp [wkL, res2, res1, res3, PV.weak, PV.el, ints, Sm.pv, It.pv, rq0] | skip
theorem itemOf_few (o : Int) (s : List UInt8) (hs : s.length ≤ 1000000) : (itemOf o s).R.Few := by
  unfold itemOf
  split
  · exact getP_few hs
  · split
    · exact ⟨by simp [rq0], by simp [rq0], by simp [rq0]⟩
    · exact ⟨by simp [rq0], by simp [rq0], by simp [rq0]⟩
theorem sameR_refl' (x : Rq) : sameR x x = true := by simp [sameR]
theorem samei_fs (x : It) (hx : x.R.Few) : Fsp Tryd.prog 32 [] 0 [x.pv, x.pv] [] 0 (.bool true) := by
  have hp := packSame_fs x.R x.R hx hx
  rw [sameR_refl'] at hp
  simp only [Rq.pv] at hp
  (refine Fsp.ofs (nx := 0) mixed Tryd.func32 rfl (by simp [Tryd.f32]) ?_; simp -implicitDefEqProofs only [push_cast, Tryd.f32, It.pv, beq_self_eq_true, seval])
  refine callE_p hp ?_
  simp -implicitDefEqProofs only [push_cast, seval]
def it0 : It := ⟨rq0, 0, 0⟩
theorem it_at {X : List It} {i : Nat} (h : i < X.length) : (itL X).getD i PV.any = (X.getD i it0).pv := by
  rw [itL, List.getD_eq_getElem?_getD, List.getElem?_map, List.getElem?_eq_getElem h, List.getD_eq_getElem?_getD, List.getElem?_eq_getElem h]; rfl
structure AlS (X : List It) where
  i : Nat
  h : i ≤ X.length
def AlS.st {X : List It} (s : AlS X) : PS := { n := 27, env := [(5, .int .i64 s.i), (4, .bool false), (0, .sl 6 (itL X)), (1, .sl 6 (itL X))], objs := [], live := [], nxt := 4 }
set_option maxHeartbeats 4000000 in
theorem all_fs (X : List It) (hf : ∀ x ∈ X, x.R.Few) (hl : X.length ≤ 1000000) : Fsp Tryd.prog 29 [] 0 [.sl 6 (itL X), .sl 6 (itL X)] [] 0 (.bool true) := by
  (refine Fsp.ofs (nx := 0) mixed Tryd.func29 rfl (by simp [Tryd.f29]) ?_; simp -implicitDefEqProofs only [push_cast, Tryd.f29, itL_length, bne_self_eq_false, seval])
  refine loopC_of (α := AlS X) AlS.st (fun s => X.length - s.i) ⟨0, by omega⟩ ?_ ?_
  · (simp only [AlS.st]; exact Wk.at _ _ _ [] [] [] (by simp) (by simp [wkV, PV.el, PV.weak, PS.get, PS.obj, PS.lv, lkp_hit, lkp_miss, lkp_nil, lko]) (by simp [PS.get, PS.obj, PS.lv, lkp_hit, lkp_miss, lkp_nil, lko, wkL, wkC, PV.weak]))
  · rintro ⟨i, hi⟩
    simp -implicitDefEqProofs only [push_cast, AlS.st, itL_length, seval]
    refine condC_split (fun h3 => ?_) (fun h3 => ?_)
    · have hlt : i < X.length := by simp at h3; omega
      have hg := it_at hlt
      have hm : X.getD i it0 ∈ X := by rw [List.getD_eq_getElem?_getD, List.getElem?_eq_getElem hlt]; exact List.getElem_mem hlt
      have hwr : IntKind.i64.wrap ((i : Int) + 1) = ((i + 1 : Nat) : Int) := by (rw [wrap_i64_id (by omega) (by omega)]; rfl)
      have hs := samei_fs _ (hf _ hm)
      generalize X.getD i it0 = x at *
      simp only [It.pv] at hs hg
      simp -implicitDefEqProofs only [push_cast, hg, itL_length, seval]
      skip
      (repeat (first | refine ⟨by omega, ?_⟩ | refine ⟨by (unfold drawOk; kernel_rfl), ?_⟩))
      refine callE_p hs ?_
      simp -implicitDefEqProofs only [push_cast, seval]
      (repeat (first | refine ⟨by omega, ?_⟩ | refine ⟨by (unfold drawOk; kernel_rfl), ?_⟩))
      rw [hwr]
      refine ⟨⟨i + 1, by omega⟩, by simp only; omega, ?_⟩
      (simp only [AlS.st]; exact Wk.at _ _ _ [] [] [] (by simp) (by simp [wkV, PV.el, PV.weak, PS.get, PS.obj, PS.lv, lkp_hit, lkp_miss, lkp_nil, lko]) (by simp [PS.get, PS.obj, PS.lv, lkp_hit, lkp_miss, lkp_nil, lko, wkL, wkC, PV.weak]))
    · simp -implicitDefEqProofs only [push_cast, seval]

end Go.Proofs.Sh

/- Streams: what comes in parts comes the same. Plain. -/
set_option linter.unusedVariables false
namespace Go.Proofs.Sh
open Go.Pv
theorem lenR_app {o : Int} {r : List UInt8} (h : 4 ≤ r.length) (b : List UInt8) : lenR o (r ++ b) = lenR o r := by
  unfold lenR lenN
  have e : ((r ++ b).drop 2).take 2 = (r.drop 2).take 2 := by
    match r, h with
    | _ :: _ :: x :: y :: r, _ => rfl
  rw [e]
  split
  · rw [if_neg (show ¬ (r ++ b).length < 4 by rw [List.length_append]; omega), if_neg (show ¬ r.length < 4 by omega)]
  · rfl
/-- The whole requests, what is left, and whether it is dead. -/
def cutN (o : Int) : Nat → List UInt8 → List (List UInt8) × List UInt8 × Bool
  | 0, r => ([], r, false)
  | k + 1, r =>
    if r.length < 4 then ([], r, false)
    else if (lenR o r).1.toNat = 0 then ([], [], true)
    else if r.length < (lenR o r).1.toNat then ([], r, false)
    else (r.take (lenR o r).1.toNat :: (cutN o k (r.drop (lenR o r).1.toNat)).1, (cutN o k (r.drop (lenR o r).1.toNat)).2)
theorem cutN_more (o : Int) : ∀ (k j : Nat) (r : List UInt8), r.length ≤ k → r.length ≤ j → cutN o k r = cutN o j r
  | 0, 0, r, _, _ => rfl
  | 0, j + 1, r, h, _ => by
    have : r.length = 0 := by omega
    rw [cutN, cutN, if_pos (by omega)]
  | k + 1, 0, r, _, h => by
    have : r.length = 0 := by omega
    rw [cutN, cutN, if_pos (by omega)]
  | k + 1, j + 1, r, hk, hj => by
    rw [cutN, cutN]
    split
    · rfl
    · split
      · rfl
      · split
        · rfl
        · rw [cutN_more o k j (r.drop (lenR o r).1.toNat) (by rw [List.length_drop]; omega) (by rw [List.length_drop]; omega)]
def cutS (o : Int) (r : List UInt8) : List (List UInt8) × List UInt8 × Bool := cutN o r.length r
theorem cutS_eq (o : Int) (r : List UInt8) : cutS o r =
    if r.length < 4 then ([], r, false)
    else if (lenR o r).1.toNat = 0 then ([], [], true)
    else if r.length < (lenR o r).1.toNat then ([], r, false)
    else (r.take (lenR o r).1.toNat :: (cutS o (r.drop (lenR o r).1.toNat)).1, (cutS o (r.drop (lenR o r).1.toNat)).2) := by
  unfold cutS
  cases h : r.length with
  | zero => rw [cutN, if_pos (by omega)]
  | succ k =>
    rw [cutN, h]
    split
    · rfl
    · split
      · rfl
      · split
        · rfl
        · rw [cutN_more o k (r.drop (lenR o r).1.toNat).length (r.drop (lenR o r).1.toNat) (by rw [List.length_drop]; omega) (Nat.le_refl _)]
/-- More bytes: what was dead stays so; what was left goes on. -/
theorem cutS_app (o : Int) (b : List UInt8) : ∀ (n : Nat) (r : List UInt8), r.length ≤ n →
    cutS o (r ++ b) = if (cutS o r).2.2 = true then ((cutS o r).1, [], true) else ((cutS o r).1 ++ (cutS o ((cutS o r).2.1 ++ b)).1, (cutS o ((cutS o r).2.1 ++ b)).2)
  | n, r, hn => by
    by_cases h4 : r.length < 4
    · have e : cutS o r = ([], r, false) := by rw [cutS_eq, if_pos h4]
      rw [e, if_neg Bool.false_ne_true]; rfl
    · have hL := lenR_app (o := o) (r := r) (by omega) b
      have h4' : ¬ (r ++ b).length < 4 := by rw [List.length_append]; omega
      by_cases h0 : (lenR o r).1.toNat = 0
      · have e : cutS o r = ([], [], true) := by rw [cutS_eq, if_neg h4, if_pos h0]
        rw [e, if_pos rfl, cutS_eq, if_neg h4', hL, if_pos h0]
      · by_cases hl : r.length < (lenR o r).1.toNat
        · have e : cutS o r = ([], r, false) := by rw [cutS_eq, if_neg h4, if_neg h0, if_pos hl]
          rw [e, if_neg Bool.false_ne_true]; rfl
        · have e : cutS o r = (r.take (lenR o r).1.toNat :: (cutS o (r.drop (lenR o r).1.toNat)).1, (cutS o (r.drop (lenR o r).1.toNat)).2) := by rw [cutS_eq, if_neg h4, if_neg h0, if_neg hl]
          have ih := cutS_app o b (n - 1) (r.drop (lenR o r).1.toNat) (by rw [List.length_drop]; omega)
          have e2 : cutS o (r ++ b) = (r.take (lenR o r).1.toNat :: (cutS o (r.drop (lenR o r).1.toNat ++ b)).1, (cutS o (r.drop (lenR o r).1.toNat ++ b)).2) := by
            rw [cutS_eq, if_neg h4', hL, if_neg h0, if_neg (by rw [List.length_append]; omega), List.take_append_of_le_length (by omega), List.drop_append_of_le_length (by omega)]
          rw [e2, e, ih]
          simp only
          split
          · rfl
          · rfl
  termination_by n => n
  decreasing_by omega
end Go.Proofs.Sh

/- Streams: what Feed answers, in the terms of what comes whole. Plain. -/
set_option maxRecDepth 100000
set_option linter.unusedSimpArgs false
set_option linter.unusedVariables false
namespace Go.Proofs.Sh
open Go.Pv
def rdF (a : Nat) (l : List (Nat × Nat)) : Nat := match l with | [] => a | x :: l => rdone (x :: l)
theorem rdone_cons (x : Nat × Nat) : ∀ l, rdone (x :: l) = rdF (x.1 + x.2) l
  | [] => rfl
  | _ :: _ => rfl
theorem lenR_nat {o : Int} {s : List UInt8} (h : ¬ (lenR o s).1 = 0) : (lenR o s).1.toNat ≠ 0 := by
  obtain ⟨n, hn, -, -⟩ := lenR_range o s
  rw [hn] at h ⊢; simp at h ⊢; exact h
theorem rds_cut (o : Int) (s : List UInt8) : ∀ (k a : Nat), a ≤ s.length → s.length - a < k →
    ((rds o s k a).takeWhile (rgood s)).map (rpiece s) = (cutS o (s.drop a)).1 ∧ isNo ((rds o s k a).dropWhile (rgood s)).head? = (cutS o (s.drop a)).2.2 ∧
    ((cutS o (s.drop a)).2.2 = false → s.drop (rdF a ((rds o s k a).takeWhile (rgood s))) = (cutS o (s.drop a)).2.1)
  | 0, a, h1, h2 => by omega
  | k + 1, a, h1, h2 => by
    have hlen : (s.drop a).length = s.length - a := List.length_drop ..
    by_cases h4 : s.length < a + 4
    · have e : cutS o (s.drop a) = ([], s.drop a, false) := by rw [cutS_eq, if_pos (by rw [hlen]; omega)]
      rw [e, rds, if_pos h4]
      exact ⟨rfl, rfl, fun _ => rfl⟩
    · by_cases h0 : (lenR o (s.drop a)).1 = 0
      · have e : cutS o (s.drop a) = ([], [], true) := by rw [cutS_eq, if_neg (by rw [hlen]; omega), if_pos (by rw [h0]; rfl)]
        have hg : rgood s (a, 0) = false := rfl
        rw [e, rds, if_neg h4, if_pos h0]
        refine ⟨by simp [hg], by simp [hg, isNo], fun h => by cases h⟩
      · have hn := lenR_nat h0
        have er : rds o s (k + 1) a = (a, (lenR o (s.drop a)).1.toNat) :: rds o s k (a + (lenR o (s.drop a)).1.toNat) := by rw [rds, if_neg h4, if_neg h0]
        have ec := cutS_eq o (s.drop a)
        rw [if_neg (by rw [hlen]; omega), if_neg hn] at ec
        generalize (lenR o (s.drop a)).1.toNat = n at *
        rw [er]
        by_cases hl : (s.drop a).length < n
        · rw [if_pos hl] at ec
          have hg : rgood s (a, n) = false := by
            have : ¬ a + n ≤ s.length := by rw [hlen] at hl; omega
            simp [rgood, this]
          rw [ec]
          refine ⟨by simp [hg], by simp [hg, isNo, hn], fun _ => by simp [hg, rdF]⟩
        · rw [if_neg hl] at ec
          have hle : a + n ≤ s.length := by rw [hlen] at hl; omega
          have hg : rgood s (a, n) = true := rgood_of hn hle
          obtain ⟨i1, i2, i3⟩ := rds_cut o s k (a + n) hle (by omega)
          rw [← List.drop_drop] at i1 i2 i3
          rw [ec, List.takeWhile_cons, List.dropWhile_cons, hg]
          simp only [if_true, List.map_cons, i1, i2]
          refine ⟨rfl, trivial, fun h => ?_⟩
          have := i3 h
          rw [show rdF a ((a, n) :: List.takeWhile (rgood s) (rds o s k (a + n))) = rdF (a + n) (List.takeWhile (rgood s) (rds o s k (a + n))) from rdone_cons _ _]
          exact this
theorem runS_cut (t : Sm) : runS t = (⟨true, t.d || (cutS t.o t.r).2.2, t.o, if (t.d || (cutS t.o t.r).2.2) = true then [] else (cutS t.o t.r).2.1⟩, (cutS t.o t.r).1.map (itemOf t.o)) := by
  obtain ⟨h1, h2, h3⟩ := rds_cut t.o t.r (t.r.length + 1) 0 (Nat.zero_le _) (by omega)
  rw [List.drop_zero] at h1 h2 h3
  have e1 : isNo (cutX t.o t.r) = (cutS t.o t.r).2.2 := h2
  have e2 : ritems t.o t.r (cutR t.o t.r) = (cutS t.o t.r).1.map (itemOf t.o) := by
    rw [← h1, List.map_map]; rfl
  have e0 : ∀ l, rdF 0 l = rdone l := fun l => by cases l <;> rfl
  unfold runS
  rw [e1, e2]
  cases hd : (t.d || (cutS t.o t.r).2.2) with
  | true => rfl
  | false =>
    have hc : (cutS t.o t.r).2.2 = false := by cases h : (cutS t.o t.r).2.2 <;> simp [h] at hd ⊢
    have := h3 hc
    rw [e0] at this
    simp only [if_neg Bool.false_ne_true]
    rw [← this]; rfl
/-- What a stream has come to, of all that came. -/
def begO (a : List UInt8) : Option Int := if a.take 4 = beg0 then some 0 else if a.take 4 = beg1 then some 1 else none
def stO (a : List UInt8) : Sm :=
  if a.length < 4 then ⟨false, false, 0, a⟩
  else match begO a with
    | some o => ⟨true, (cutS o (a.drop 4)).2.2, o, (cutS o (a.drop 4)).2.1⟩
    | none => ⟨false, true, 0, []⟩
def itO (a : List UInt8) : List It :=
  if a.length < 4 then []
  else match begO a with
    | some o => (cutS o (a.drop 4)).1.map (itemOf o)
    | none => []
theorem cutS_dead {o : Int} : ∀ (n : Nat) (r : List UInt8), r.length ≤ n → (cutS o r).2.2 = true → (cutS o r).2.1 = []
  | n, r, hn, h => by
    rw [cutS_eq] at h ⊢
    split at h
    · cases h
    · split at h
      · rw [if_neg (by assumption), if_pos (by assumption)]
      · split at h
        · cases h
        · rename_i a b c
          rw [if_neg a, if_neg b, if_neg c]
          exact cutS_dead (n - 1) _ (by rw [List.length_drop]; omega) h
  termination_by n => n
  decreasing_by omega
theorem cutS_rest {o : Int} : ∀ (n : Nat) (r : List UInt8), r.length ≤ n → (cutS o r).2.1.length ≤ r.length
  | n, r, hn => by
    rw [cutS_eq]
    split
    · exact Nat.le_refl _
    · split
      · exact Nat.zero_le _
      · split
        · exact Nat.le_refl _
        · have := cutS_rest (o := o) (n - 1) (r.drop (lenR o r).1.toNat) (by rw [List.length_drop]; omega)
          rw [List.length_drop] at this
          exact Nat.le_trans this (Nat.sub_le _ _)
  termination_by n => n
  decreasing_by omega
theorem begin_O (a : List UInt8) : beginS ⟨false, false, 0, a⟩ = if a.length < 4 then ⟨false, false, 0, a⟩ else match begO a with | some o => ⟨true, false, o, a.drop 4⟩ | none => ⟨false, true, 0, []⟩ := by
  unfold beginS begO
  simp only
  rw [if_neg Bool.false_ne_true]
  split
  · rfl
  · split
    · rfl
    · split <;> rfl
theorem feed_O (a : List UInt8) : feedS ⟨false, false, 0, []⟩ a = (stO a, itO a) := by
  unfold feedS
  rw [if_neg Bool.false_ne_true]
  simp only [List.nil_append]
  rw [begin_O]
  unfold stO itO
  split
  · rfl
  · cases begO a with
    | none => rfl
    | some o =>
      simp only
      rw [if_pos trivial, runS_cut]
      simp only [Bool.false_or]
      cases h : (cutS o (a.drop 4)).2.2 with
      | true => simp only [if_true]; rw [cutS_dead _ _ (Nat.le_refl _) h]
      | false => simp
end Go.Proofs.Sh

/- Bytes of numbers; fields' bytes are as many as a multiple of four. Plain. -/
set_option maxRecDepth 100000
namespace Go.Proofs.Sh
open Go.Pv
theorem fmt_mod (o : Int) (f : Fm) (x : Fd) : (fmt o f x).length % 4 = 0 := by
  have hp : ∀ l : List UInt8, (p1 l).length % 4 = 0 := fun l => by
    simp only [p1, zeros, List.length_append, List.length_replicate, padN]; omega
  unfold fmt
  split
  · exact hp _
  · unfold fmt2
    split
    · exact hp _
    · exact hp _
theorem byteAt_of {n k : Nat} : (byteAt (n : Int) k).toNat = n / 256 ^ k % 256 := by
  have := byteAt_toNat (n : Int) k
  have h : ((256 : Int) ^ k) = ((256 ^ k : Nat) : Int) := by rw [Int.natCast_pow]; rfl
  rw [h, ← Int.natCast_ediv] at this
  omega
theorem enc2_0 (n : Int) : encB 0 2 n = [byteAt n 0, byteAt n 1] := rfl
theorem enc2_1 (n : Int) : encB 1 2 n = [byteAt n 1, byteAt n 0] := rfl
theorem enc_1 (o v : Int) : encB o 1 v = [byteAt v 0] := by
  unfold encB
  cases (o == 1) <;> rfl
end Go.Proofs.Sh

/- Numbers as bytes, and back. Plain. -/
set_option maxRecDepth 100000
namespace Go.Proofs.Sh
open Go.Pv
theorem byteAt_nat (v : Int) (k : Nat) : ((byteAt v k).toNat : Int) = (v / 256 ^ k) % 256 := byteAt_toNat v k
theorem dec_enc {o : Int} (ho : isOrder o) {s : Int} (hs : isSize s) (v : Int) : (decU o (encB o (wid s) v) : Int) = v % 256 ^ wid s := by
  have h0 := byteAt_nat v 0
  have h1 := byteAt_nat v 1
  have h2 := byteAt_nat v 2
  have h3 := byteAt_nat v 3
  simp only [Int.reducePow] at h0 h1 h2 h3
  rcases ho with rfl | rfl <;> rcases hs with rfl | rfl | rfl | rfl | rfl | rfl <;>
    simp [encB, decU, little, wid, List.range_succ] <;> omega
theorem read_enc {o : Int} (ho : isOrder o) {s : Int} (hs : isSize s) {v : Int} (hf : fitsN s v = true) : readV o s (encB o (wid s) v) = v := by
  have h := dec_enc ho hs v
  unfold readV
  rcases hs with rfl | rfl | rfl | rfl | rfl | rfl <;> simp [fitsN, low, high, wid] at hf h ⊢ <;> split <;> omega
theorem fits_read {o : Int} {s : Int} (hs : isSize s) {b : List UInt8} (hb : b.length = wid s) : fitsN s (readV o s b) = true := by
  have h := decU_lt o b
  rw [hb] at h
  unfold readV
  rcases hs with rfl | rfl | rfl | rfl | rfl | rfl <;> simp [fitsN, low, high, wid] at h ⊢ <;> split <;> omega
theorem byteAt_eq {v : Int} {k : Nat} {x : UInt8} (h : (v / 256 ^ k) % 256 = (x.toNat : Int)) : byteAt v k = x := by
  apply UInt8.toNat_inj.1
  have := byteAt_nat v k
  omega
theorem enc_read {o : Int} (ho : isOrder o) {s : Int} (hs : isSize s) {b : List UInt8} (hb : b.length = wid s) : encB o (wid s) (readV o s b) = b := by
  have key : ∀ (k : Nat) (x : UInt8), k < 4 → ((decU o b : Int) / 256 ^ k) % 256 = (x.toNat : Int) → k < wid s → byteAt (readV o s b) k = x := by
    intro k x hk h hw
    apply byteAt_eq
    rw [← h]
    unfold readV
    split
    · have : k = 0 ∨ k = 1 ∨ k = 2 ∨ k = 3 := by omega
      rcases hs with rfl | rfl | rfl | rfl | rfl | rfl <;> rcases this with rfl | rfl | rfl | rfl <;> simp [wid] at hw ⊢ <;> omega
    · rfl
  rcases ho with rfl | rfl <;> rcases hs with rfl | rfl | rfl | rfl | rfl | rfl
  · match b, hb with
    | [b0], _ =>
      have h_b0 := b0.toNat_lt
      have e_b0 := key 0 b0 (by decide) (by simp [decU, little]; omega) (by decide)
      show [byteAt _ 0] = _
      rw [e_b0]
  · match b, hb with
    | [b0, b1], _ =>
      have h_b0 := b0.toNat_lt
      have h_b1 := b1.toNat_lt
      have e_b0 := key 0 b0 (by decide) (by simp [decU, little]; omega) (by decide)
      have e_b1 := key 1 b1 (by decide) (by simp [decU, little]; omega) (by decide)
      show [byteAt _ 0, byteAt _ 1] = _
      rw [e_b0, e_b1]
  · match b, hb with
    | [b0, b1, b2, b3], _ =>
      have h_b0 := b0.toNat_lt
      have h_b1 := b1.toNat_lt
      have h_b2 := b2.toNat_lt
      have h_b3 := b3.toNat_lt
      have e_b0 := key 0 b0 (by decide) (by simp [decU, little]; omega) (by decide)
      have e_b1 := key 1 b1 (by decide) (by simp [decU, little]; omega) (by decide)
      have e_b2 := key 2 b2 (by decide) (by simp [decU, little]; omega) (by decide)
      have e_b3 := key 3 b3 (by decide) (by simp [decU, little]; omega) (by decide)
      show [byteAt _ 0, byteAt _ 1, byteAt _ 2, byteAt _ 3] = _
      rw [e_b0, e_b1, e_b2, e_b3]
  · match b, hb with
    | [b0], _ =>
      have h_b0 := b0.toNat_lt
      have e_b0 := key 0 b0 (by decide) (by simp [decU, little]; omega) (by decide)
      show [byteAt _ 0] = _
      rw [e_b0]
  · match b, hb with
    | [b0, b1], _ =>
      have h_b0 := b0.toNat_lt
      have h_b1 := b1.toNat_lt
      have e_b0 := key 0 b0 (by decide) (by simp [decU, little]; omega) (by decide)
      have e_b1 := key 1 b1 (by decide) (by simp [decU, little]; omega) (by decide)
      show [byteAt _ 0, byteAt _ 1] = _
      rw [e_b0, e_b1]
  · match b, hb with
    | [b0, b1, b2, b3], _ =>
      have h_b0 := b0.toNat_lt
      have h_b1 := b1.toNat_lt
      have h_b2 := b2.toNat_lt
      have h_b3 := b3.toNat_lt
      have e_b0 := key 0 b0 (by decide) (by simp [decU, little]; omega) (by decide)
      have e_b1 := key 1 b1 (by decide) (by simp [decU, little]; omega) (by decide)
      have e_b2 := key 2 b2 (by decide) (by simp [decU, little]; omega) (by decide)
      have e_b3 := key 3 b3 (by decide) (by simp [decU, little]; omega) (by decide)
      show [byteAt _ 0, byteAt _ 1, byteAt _ 2, byteAt _ 3] = _
      rw [e_b0, e_b1, e_b2, e_b3]
  · match b, hb with
    | [b0], _ =>
      have h_b0 := b0.toNat_lt
      have e_b0 := key 0 b0 (by decide) (by simp [decU, little]; omega) (by decide)
      show [byteAt _ 0] = _
      rw [e_b0]
  · match b, hb with
    | [b0, b1], _ =>
      have h_b0 := b0.toNat_lt
      have h_b1 := b1.toNat_lt
      have e_b0 := key 1 b0 (by decide) (by simp [decU, little]; omega) (by decide)
      have e_b1 := key 0 b1 (by decide) (by simp [decU, little]; omega) (by decide)
      show [byteAt _ 1, byteAt _ 0] = _
      rw [e_b0, e_b1]
  · match b, hb with
    | [b0, b1, b2, b3], _ =>
      have h_b0 := b0.toNat_lt
      have h_b1 := b1.toNat_lt
      have h_b2 := b2.toNat_lt
      have h_b3 := b3.toNat_lt
      have e_b0 := key 3 b0 (by decide) (by simp [decU, little]; omega) (by decide)
      have e_b1 := key 2 b1 (by decide) (by simp [decU, little]; omega) (by decide)
      have e_b2 := key 1 b2 (by decide) (by simp [decU, little]; omega) (by decide)
      have e_b3 := key 0 b3 (by decide) (by simp [decU, little]; omega) (by decide)
      show [byteAt _ 3, byteAt _ 2, byteAt _ 1, byteAt _ 0] = _
      rw [e_b0, e_b1, e_b2, e_b3]
  · match b, hb with
    | [b0], _ =>
      have h_b0 := b0.toNat_lt
      have e_b0 := key 0 b0 (by decide) (by simp [decU, little]; omega) (by decide)
      show [byteAt _ 0] = _
      rw [e_b0]
  · match b, hb with
    | [b0, b1], _ =>
      have h_b0 := b0.toNat_lt
      have h_b1 := b1.toNat_lt
      have e_b0 := key 1 b0 (by decide) (by simp [decU, little]; omega) (by decide)
      have e_b1 := key 0 b1 (by decide) (by simp [decU, little]; omega) (by decide)
      show [byteAt _ 1, byteAt _ 0] = _
      rw [e_b0, e_b1]
  · match b, hb with
    | [b0, b1, b2, b3], _ =>
      have h_b0 := b0.toNat_lt
      have h_b1 := b1.toNat_lt
      have h_b2 := b2.toNat_lt
      have h_b3 := b3.toNat_lt
      have e_b0 := key 3 b0 (by decide) (by simp [decU, little]; omega) (by decide)
      have e_b1 := key 2 b1 (by decide) (by simp [decU, little]; omega) (by decide)
      have e_b2 := key 1 b2 (by decide) (by simp [decU, little]; omega) (by decide)
      have e_b3 := key 0 b3 (by decide) (by simp [decU, little]; omega) (by decide)
      show [byteAt _ 3, byteAt _ 2, byteAt _ 1, byteAt _ 0] = _
      rw [e_b0, e_b1, e_b2, e_b3]
end Go.Proofs.Sh

/- Requests' bytes: the head. Plain. -/
set_option maxRecDepth 100000
namespace Go.Proofs.Sh
open Go.Pv
theorem enc1 (o v : Int) : encB o 1 v = [byteAt v 0] := by
  unfold encB
  cases (o == 1) <;> rfl
/-- A request's bytes, if they are. -/
theorem packS_shape {o : Int} {r : Rq} (h : (packS o r).2 = 0) : ∃ (f : Fm) (c x y : UInt8) (X : List UInt8), isOrd o = true ∧ formOf r.C = some f ∧ (packS o r).1 = c :: 0 :: x :: y :: X ∧ (c.toNat : Int) = r.C ∧
    4 * decU o [x, y] = X.length + 4 ∧ X.length + 4 ≤ 65536 ∧ X = fmt o f r.fd ∧ fitsE f r.fd = 0 := by
  cases ho : isOrd o
  · rw [packS, if_neg (by rw [ho]; simp)] at h; cases h
  · cases hf : formOf r.C with
    | none => rw [packS, if_pos ho, hf] at h; cases h
    | some f =>
      cases hE : (fitsE f r.fd != 0)
      · rcases Nat.lt_or_ge 65536 ((fmt o f r.fd).length + 4) with h1 | h1
        · rw [packS_big ho hf hE (by omega)] at h; cases h
        · obtain ⟨-, hc1, hc2⟩ := formOf_some hf
          rw [packS_ok ho hf hE h1]
          have hm := fmt_mod o f r.fd
          generalize hX : fmt o f r.fd = X at *
          obtain ⟨C, hC⟩ := Int.eq_ofNat_of_zero_le (show 0 ≤ r.C by omega)
          have hc : ((byteAt r.C 0).toNat : Int) = r.C := by
            rw [hC, byteAt_of]; omega
          have hz : byteAt 0 0 = 0 := by decide
          have hd2 : ∀ n : Nat, n < 65536 → (byteAt (n : Int) 0).toNat + 256 * (byteAt (n : Int) 1).toNat = n := fun n hn => by
            rw [byteAt_of, byteAt_of]; omega
          have hdd := hd2 (X.length / 4 + 1) (by omega)
          rcases isOrd_of ho with rfl | rfl
          · refine ⟨f, byteAt r.C 0, byteAt ((X.length / 4 + 1 : Nat) : Int) 0, byteAt ((X.length / 4 + 1 : Nat) : Int) 1, X, rfl, rfl, ?_, hc, ?_, h1, hX.symm, by simpa using hE⟩
            · rw [hd, enc1, enc1, enc2_0, hz]; rfl
            · simp [decU, little] at hdd ⊢; omega
          · refine ⟨f, byteAt r.C 0, byteAt ((X.length / 4 + 1 : Nat) : Int) 1, byteAt ((X.length / 4 + 1 : Nat) : Int) 0, X, rfl, rfl, ?_, hc, ?_, h1, hX.symm, by simpa using hE⟩
            · rw [hd, enc1, enc1, enc2_1, hz]; rfl
            · simp [decU, little] at hdd ⊢; omega
      · rw [packS_err ho hf hE] at h
        simp at hE
        exact absurd h hE
theorem packS_none {o : Int} {r : Rq} (h : ¬ (packS o r).2 = 0) : (packS o r).1 = [] := by
  cases ho : isOrd o
  · rw [packS, if_neg (by rw [ho]; simp)]
  · cases hf : formOf r.C with
    | none => rw [packS, if_pos ho, hf]
    | some f =>
      cases hE : (fitsE f r.fd != 0)
      · rcases Nat.lt_or_ge 65536 ((fmt o f r.fd).length + 4) with h1 | h1
        · rw [packS_big ho hf hE (by omega)]
        · rw [packS_ok ho hf hE h1] at h; exact absurd rfl h
      · rw [packS_err ho hf hE]
/-- What is told of bytes that have a request's head. -/
theorem lenR_head {o : Int} (ho : isOrd o = true) {t : List UInt8} {x y : UInt8} {m : Nat} (h4 : 4 ≤ t.length) (h2 : t.getD 2 0 = x) (h3 : t.getD 3 0 = y) (hm : 4 * decU o [x, y] = m) (h0 : 0 < m) (h1 : m ≤ 65536) : lenR o t = ((m : Int), 0) := by
  have hn : lenN o t = decU o [x, y] := by rw [lenN, two_of h4, h2, h3]
  rw [lenR, if_pos ho, if_neg (by omega), if_neg (by omega), if_neg (by omega), hn, hm]
theorem getP_head {o : Int} (ho : isOrd o = true) {t : List UInt8} {c : UInt8} {f : Fm} (h4 : 4 ≤ t.length) (hc : t.getD 0 0 = c) (hf : formOf (c.toNat : Int) = some f) : getP o t = getQ o t f :=
  getP_some ho (by omega) (by rw [hc]; exact hf)
/-- Cut short: none. -/
theorem cut_none {o : Int} (ho : isOrd o = true) {c x y : UInt8} {X : List UInt8} {f : Fm} (hf : formOf (c.toNat : Int) = some f) (hm : 4 * decU o [x, y] = X.length + 4) (h1 : X.length + 4 ≤ 65536) {k : Nat} (hk : k < X.length + 4) :
    ¬ (getP o ((c :: 0 :: x :: y :: X).take k)).2 = 0 := by
  rcases Nat.lt_or_ge k 4 with h4 | h4
  · rw [getP, if_pos ho, if_pos (by simp; omega)]; simp
  · obtain ⟨k, rfl⟩ := Nat.exists_eq_add_of_le' h4
    have ht : (c :: 0 :: x :: y :: X).take (k + 4) = c :: 0 :: x :: y :: X.take k := rfl
    rw [ht, getP_head (t := c :: 0 :: x :: y :: X.take k) (c := c) ho (by simp) rfl hf, getQ, lenR_head (t := c :: 0 :: x :: y :: X.take k) (x := x) (y := y) ho (m := X.length + 4) (by simp) rfl rfl hm (by omega) h1, if_pos rfl, if_neg (by simp; omega)]
    simp
/-- One more: none. -/
theorem more_none {o : Int} (ho : isOrd o = true) {c x y z : UInt8} {X : List UInt8} {f : Fm} (hf : formOf (c.toNat : Int) = some f) (hm : 4 * decU o [x, y] = X.length + 4) (h1 : X.length + 4 ≤ 65536) :
    (getP o (c :: 0 :: x :: y :: (X ++ [z]))).2 = 17 := by
  rw [getP_head (t := c :: 0 :: x :: y :: (X ++ [z])) (c := c) ho (by simp) rfl hf, getQ, lenR_head (t := c :: 0 :: x :: y :: (X ++ [z])) (x := x) (y := y) ho (m := X.length + 4) (by simp) rfl rfl hm (by omega) h1, if_pos rfl, if_neg (by simp; omega)]
/-- Another second byte: none. -/
theorem form_none {o : Int} (ho : isOrd o = true) {c x y z : UInt8} {X : List UInt8} {f : Fm} (hf : formOf (c.toNat : Int) = some f) (hm : 4 * decU o [x, y] = X.length + 4) (h1 : X.length + 4 ≤ 65536) (hz : z ≠ 0) :
    (getP o (c :: z :: x :: y :: X)).2 = 2 := by
  rw [getP_head (t := c :: z :: x :: y :: X) (c := c) ho (by simp) rfl hf, getQ, lenR_head (t := c :: z :: x :: y :: X) (x := x) (y := y) ho (m := X.length + 4) (by simp) rfl rfl hm (by omega) h1, if_pos rfl, if_pos (by simp; omega), if_neg (by simpa using hz)]
end Go.Proofs.Sh

/- Numbers taken at their places. Plain. -/
set_option maxRecDepth 100000
namespace Go.Proofs.Sh
open Go.Pv
theorem num_at {o : Int} (ho : isOrder o) {z : Int} (hz : isSize z) {v : Int} (hf : fitsN z v = true) (P B : List UInt8) : num o (P ++ encB o (wid z) v ++ B) z ⟨P.length, 0⟩ = (v, ⟨P.length + wid z, 0⟩) := by
  have he := encB_length o (wid z) v
  rw [num, if_pos rfl, if_neg (by simp only [List.length_append, he]; omega)]
  have ht : ((P ++ encB o (wid z) v ++ B).drop P.length).take (wid z) = encB o (wid z) v := by
    rw [List.append_assoc, List.drop_left]
    exact List.take_left' he
  simp only [ht, read_enc ho hz hf]
theorem filP_zeros (P B : List UInt8) : ∀ k j : Nat, k + j ≤ 4 → filP (P ++ zeros (k + j) ++ B) k (P.length + j) = ⟨P.length + j + k, 0⟩
  | 0, j, _ => rfl
  | k + 1, j, h => by
    unfold filP
    rw [if_neg (by simp [zeros]; omega), if_pos (by
      have : (P ++ zeros (k + 1 + j) ++ B).getD (P.length + j) 0 = 0 := by
        rw [List.append_assoc, List.getD_eq_getElem?_getD, List.getElem?_append_right (by omega), List.getElem?_append_left (by simp [zeros])]
        simp [zeros]
      exact this)]
    have := filP_zeros P B k (j + 1) (by omega)
    rw [show k + 1 + j = k + (j + 1) by omega, show P.length + j + 1 = P.length + (j + 1) by omega, this]
    congr 1; omega
theorem fil_at (P B : List UInt8) : fil (P ++ zeros (padN P.length) ++ B) ⟨P.length, 0⟩ = ⟨P.length + padN P.length, 0⟩ := by
  rw [fil, if_pos rfl]
  exact filP_zeros P B (padN P.length) 0 (by have := padN_le P.length; omega)
theorem fil_p1 (P B : List UInt8) : fil (p1 P ++ B) ⟨P.length, 0⟩ = ⟨(p1 P).length, 0⟩ := by
  have h := fil_at P B
  rw [show (p1 P).length = P.length + padN P.length by simp [p1, zeros]]
  exact h
theorem row_cons (o z v : Int) (F N : List Int) (k : Nat) : row o (z :: F) (v :: N) (k + 1) = putS o z v ++ row o F N k := by
  simp only [row, List.range_succ_eq_map, List.flatMap_cons, List.flatMap_map]
  rfl
theorem allFit_cons {z v : Int} {F N : List Int} {k : Nat} : allFit (z :: F) (v :: N) (k + 1) = (fitsN z v && allFit F N k) := by
  simp only [allFit, List.range_succ_eq_map, List.all_cons, List.all_map]
  rfl
theorem nums_row {o : Int} (ho : isOrder o) : ∀ (F N : List Int) (P B : List UInt8), N.length = F.length → (∀ z ∈ F, isSize z) → allFit F N N.length = true →
    nums o (P ++ row o F N N.length ++ B) F ⟨P.length, 0⟩ = (N, ⟨(P ++ row o F N N.length).length, 0⟩)
  | [], [], P, B, _, _, _ => by simp [nums, row]
  | [], _ :: _, _, _, h, _, _ => by simp at h
  | _ :: _, [], _, _, h, _, _ => by simp at h
  | z :: F, v :: N, P, B, hl, hs, hf => by
    rw [List.length_cons, allFit_cons, Bool.and_eq_true] at hf
    have hz := hs z (List.mem_cons_self ..)
    have hp : putS o z v = encB o (wid z) v := by rw [putS, if_pos hf.1]
    rw [List.length_cons, row_cons, hp]
    have h1 := num_at ho hz hf.1 P (row o F N N.length ++ B)
    have h2 := nums_row ho F N (P ++ encB o (wid z) v) B (by simpa using hl) (fun y hy => hs y (List.mem_cons_of_mem _ hy)) hf.2
    have e1 : P ++ (encB o (wid z) v ++ row o F N N.length) ++ B = P ++ encB o (wid z) v ++ (row o F N N.length ++ B) := by simp
    have e2 : P ++ encB o (wid z) v ++ row o F N N.length ++ B = P ++ encB o (wid z) v ++ (row o F N N.length ++ B) := by simp
    rw [e2] at h2
    rw [e1]
    have e3 : (P ++ encB o (wid z) v).length = P.length + wid z := by rw [List.length_append, encB_length]
    rw [e3] at h2
    simp only [nums, h1, h2]
    simp
theorem row1_row (o z : Int) : ∀ (L : List Int), row1 o z L L.length = row o (List.replicate L.length z) L L.length := by
  intro L
  simp only [row1, row, List.flatMap_def]
  congr 1
  apply List.map_congr_left
  intro j hj
  rw [List.mem_range] at hj
  rw [show (List.replicate L.length z).getD j 0 = z by simp [List.getD_eq_getElem?_getD, hj]]
theorem rowFit_all (z : Int) (L : List Int) (h : rowFit z L L.length = true) : allFit (List.replicate L.length z) L L.length = true := by
  unfold allFit
  unfold rowFit at h
  rw [List.all_eq_true] at h ⊢
  intro j hj
  have hj' := List.mem_range.1 hj
  rw [show (List.replicate L.length z).getD j 0 = z by simp [List.getD_eq_getElem?_getD, hj']]
  exact h j hj
/-- What fits, part by part. -/
structure FitsR (f : Fm) (x : Fd) : Prop where
  n : x.N.length = f.F.length
  a : allFit f.F x.N x.N.length = true
  b : f.B = true ∨ x.B = []
  bl : x.B.length ≤ 65536
  l : f.L ≠ 0 ∨ x.L = []
  ll : x.L.length ≤ 65536
  r : rowFit f.L x.L x.L.length = true
theorem fitsE_parts {f : Fm} {x : Fd} (h : fitsE f x = 0) : FitsR f x := by
  unfold fitsE at h
  split at h
  · exact absurd h (by decide)
  rename_i h1
  split at h
  · exact absurd h (by decide)
  rename_i h2
  split at h
  · exact absurd h (by decide)
  rename_i h3
  split at h
  · exact absurd h (by decide)
  rename_i h4
  split at h
  · exact absurd h (by decide)
  rename_i h5
  split at h
  · exact absurd h (by decide)
  rename_i h6
  split at h
  · exact absurd h (by decide)
  rename_i h7
  refine ⟨by simp at h1; omega, by simpa using h2, ?_, by simp at h4; omega, ?_, by simp at h6; omega, by simpa using h7⟩
  · cases hb : f.B
    · right
      rw [hb] at h3
      simpa using h3
    · exact .inl rfl
  · rcases Decidable.em (f.L = 0) with hl | hl
    · right
      rw [hl] at h5
      simp at h5
      exact List.eq_nil_of_length_eq_zero (by simpa using h5)
    · exact .inl hl
theorem putS4 {o : Int} {n : Nat} (h : n ≤ 65536) : fitsN 4 (n : Int) = true ∧ putS o 4 (n : Int) = encB o (wid 4) (n : Int) := by
  have hf : fitsN 4 (n : Int) = true := by simp [fitsN, low, high]; omega
  exact ⟨hf, by rw [putS, if_pos hf]⟩
/-- The text, taken where it was put. -/
theorem stB_at {o : Int} (ho : isOrder o) (P t B : List UInt8) (ht : t.length ≤ 65536) :
    stB o (p1 (P ++ putS o 4 t.length ++ t) ++ B) true ⟨P.length, 0⟩ = (true, t, ⟨(p1 (P ++ putS o 4 t.length ++ t)).length, 0⟩) := by
  obtain ⟨hf, hp⟩ := putS4 (o := o) ht
  have hz : isSize 4 := by unfold isSize; omega
  have hw : wid 4 = 4 := rfl
  have he := encB_length o (wid 4) (t.length : Int)
  have e1 : p1 (P ++ putS o 4 t.length ++ t) ++ B = P ++ encB o (wid 4) (t.length : Int) ++ (t ++ (zeros (padN (P ++ putS o 4 t.length ++ t).length) ++ B)) := by
    rw [p1, hp]; simp only [List.append_assoc]
  have hn := num_at ho hz hf P (t ++ (zeros (padN (P ++ putS o 4 t.length ++ t).length) ++ B))
  have hfl := fil_p1 (P ++ putS o 4 t.length ++ t) B
  rw [← e1] at hn
  rw [stB, if_pos rfl, hn]
  simp only [if_true]
  have hlen : (p1 (P ++ putS o 4 t.length ++ t) ++ B).length = P.length + wid 4 + (t.length + (padN (P ++ putS o 4 t.length ++ t).length + B.length)) := by
    rw [e1]; simp only [List.length_append, he, zeros, List.length_replicate]
  rw [if_neg (by rw [hlen]; omega)]
  have hd : (p1 (P ++ putS o 4 t.length ++ t) ++ B).drop (P.length + wid 4) = t ++ (zeros (padN (P ++ putS o 4 t.length ++ t).length) ++ B) := by
    rw [e1]
    exact List.drop_left' (by rw [List.length_append, he])
  have hl2 : (P ++ putS o 4 t.length ++ t).length = P.length + wid 4 + t.length := by rw [hp]; simp only [List.length_append, he]
  rw [hl2] at hfl
  rw [hd, Int.toNat_natCast, List.take_left, hfl]
theorem row_len {o : Int} {z : Int} : ∀ (L : List Int), allFit (List.replicate L.length z) L L.length = true → (row o (List.replicate L.length z) L L.length).length = L.length * wid z
  | [], _ => by simp [row]
  | v :: L, h => by
    rw [List.length_cons, List.replicate_succ, allFit_cons, Bool.and_eq_true] at h
    rw [List.length_cons, List.replicate_succ, row_cons, List.length_append, row_len L h.2, putS, if_pos h.1, encB_length, Nat.succ_mul]
    omega
/-- The row, taken where it was put. -/
theorem stL_at {o : Int} (ho : isOrder o) {z : Int} (hz : isSize z) (P : List UInt8) (L : List Int) (hL : L.length ≤ 65536) (hf : rowFit z L L.length = true) :
    stL o (p1 (P ++ putS o 4 L.length ++ row1 o z L L.length)) z ⟨P.length, 0⟩ = (L, ⟨(p1 (P ++ putS o 4 L.length ++ row1 o z L L.length)).length, 0⟩) := by
  obtain ⟨hf4, hp⟩ := putS4 (o := o) hL
  have hz4 : isSize 4 := by unfold isSize; omega
  have hz0 : ¬ z = 0 := by rcases hz with rfl | rfl | rfl | rfl | rfl | rfl <;> decide
  have he := encB_length o (wid 4) (L.length : Int)
  have hr := row1_row o z L
  have hall := rowFit_all z L hf
  have hnr := nums_row ho (List.replicate L.length z) L (P ++ putS o 4 L.length) (zeros (padN (P ++ putS o 4 L.length ++ row1 o z L L.length).length)) (by simp) (fun y hy => by rw [List.eq_of_mem_replicate hy]; exact hz) hall
  rw [← hr] at hnr
  have hfl := fil_p1 (P ++ putS o 4 L.length ++ row1 o z L L.length) []
  rw [List.append_nil] at hfl
  have e1 : p1 (P ++ putS o 4 L.length ++ row1 o z L L.length) = P ++ encB o (wid 4) (L.length : Int) ++ (row1 o z L L.length ++ zeros (padN (P ++ putS o 4 L.length ++ row1 o z L L.length).length)) := by
    rw [p1, hp]; simp only [List.append_assoc]
  have hn := num_at ho hz4 hf4 P (row1 o z L L.length ++ zeros (padN (P ++ putS o 4 L.length ++ row1 o z L L.length).length))
  rw [← e1] at hn
  rw [show P ++ putS o 4 ↑L.length ++ row1 o z L L.length ++ zeros (padN (P ++ putS o 4 ↑L.length ++ row1 o z L L.length).length) = p1 (P ++ putS o 4 L.length ++ row1 o z L L.length) from rfl] at hnr
  rw [show (P ++ putS o 4 (L.length : Int)).length = P.length + wid 4 by rw [hp, List.length_append, he]] at hnr
  rw [stL, if_neg hz0, hn]
  simp only [if_true, Int.toNat_natCast]
  have hrl := row_len (o := o) L hall
  rw [← hr] at hrl
  have hlen : (p1 (P ++ putS o 4 L.length ++ row1 o z L L.length)).length = P.length + wid 4 + (L.length * wid z + padN (P ++ putS o 4 L.length ++ row1 o z L L.length).length) := by
    rw [e1]; simp only [List.length_append, he, zeros, List.length_replicate, hrl]
  have hm : (L.length : Int) * (wid z : Int) = ((L.length * wid z : Nat) : Int) := (Int.natCast_mul _ _).symm
  rw [hm, if_neg (by rw [hlen]; omega), hnr]
  simp only
  rw [hfl]
end Go.Proofs.Sh

/- What is put is got, and what is got is put. Plain. -/
set_option maxRecDepth 100000
namespace Go.Proofs.Sh
open Go.Pv
theorem p1_eq (l : List UInt8) : p1 l = l ++ zeros (padN l.length) := rfl
theorem stB_none {o : Int} {s : List UInt8} {c : Cu} : stB o s false c = (true, [], c) := by rw [stB, if_neg (by decide)]
theorem stL_none {o : Int} {s : List UInt8} {c : Cu} : stL o s 0 c = ([], c) := by rw [stL, if_pos rfl]
/-- The text of fields, taken where it was put. -/
theorem stB_fmt {o : Int} (ho : isOrder o) {f : Fm} {x : Fd} (h : FitsR f x) (B : List UInt8) :
    stB o (fmt2 o f x ++ B) f.B ⟨(fmt1 o f x).length, 0⟩ = (true, x.B, ⟨(fmt2 o f x).length, 0⟩) := by
  cases hb : f.B
  · have hx : x.B = [] := by rcases h.b with h1 | h1
                             · rw [hb] at h1; cases h1
                             · exact h1
    have h2 : fmt2 o f x = fmt1 o f x := by rw [fmt2, if_neg (by rw [hb]; decide)]
    rw [stB_none, hx, h2]
  · have h2 : fmt2 o f x = p1 (fmt1 o f x ++ putS o 4 x.B.length ++ x.B) := by rw [fmt2, if_pos hb]
    rw [h2]
    exact stB_at ho (fmt1 o f x) x.B B h.bl
theorem stL_fmt {o : Int} (ho : isOrder o) {f : Fm} (hf : f.Ok) {x : Fd} (h : FitsR f x) :
    stL o (fmt o f x) f.L ⟨(fmt2 o f x).length, 0⟩ = (x.L, ⟨(fmt o f x).length, 0⟩) := by
  rcases Decidable.em (f.L = 0) with hl | hl
  · have hx : x.L = [] := by rcases h.l with h1 | h1
                             · exact absurd hl h1
                             · exact h1
    have h2 : fmt o f x = fmt2 o f x := by rw [fmt, if_neg (by simp [hl])]
    rw [h2, hl, stL_none, hx]
  · have h2 : fmt o f x = p1 (fmt2 o f x ++ putS o 4 x.L.length ++ row1 o f.L x.L x.L.length) := by rw [fmt, if_pos (by simpa using hl)]
    have hz : isSize f.L := hf.l.resolve_left hl
    rw [h2]
    exact stL_at ho hz (fmt2 o f x) x.L h.ll h.r
theorem fmt2_ext (o : Int) (f : Fm) (x : Fd) : ∃ C, fmt2 o f x = fmt1 o f x ++ C := by
  unfold fmt2
  split
  · exact ⟨putS o 4 x.B.length ++ x.B ++ zeros (padN (fmt1 o f x ++ putS o 4 x.B.length ++ x.B).length), by rw [p1]; simp only [List.append_assoc]⟩
  · exact ⟨[], (List.append_nil _).symm⟩
theorem fmt_ext (o : Int) (f : Fm) (x : Fd) : ∃ C, fmt o f x = fmt2 o f x ++ C := by
  unfold fmt
  split
  · exact ⟨putS o 4 x.L.length ++ row1 o f.L x.L x.L.length ++ zeros (padN (fmt2 o f x ++ putS o 4 x.L.length ++ row1 o f.L x.L x.L.length).length), by rw [p1]; simp only [List.append_assoc]⟩
  · exact ⟨[], (List.append_nil _).symm⟩
/-- What is put is got. -/
theorem body_fmt {o : Int} (ho : isOrder o) {f : Fm} (hf : f.Ok) {x : Fd} (h : fitsE f x = 0) : body o (fmt o f x) f ⟨0, 0⟩ = (x, ⟨(fmt o f x).length, 0⟩) := by
  have hp := fitsE_parts h
  obtain ⟨C1, hC1⟩ := fmt2_ext o f x
  obtain ⟨C2, hC2⟩ := fmt_ext o f x
  have hn : nums o (fmt o f x) f.F ⟨0, 0⟩ = (x.N, ⟨(row o f.F x.N x.N.length).length, 0⟩) := by
    have := nums_row ho f.F x.N [] (zeros (padN (row o f.F x.N x.N.length).length) ++ (C1 ++ C2)) hp.n hf.s hp.a
    have e : [] ++ row o f.F x.N x.N.length ++ (zeros (padN (row o f.F x.N x.N.length).length) ++ (C1 ++ C2)) = fmt o f x := by
      rw [hC2, hC1, fmt1, p1]; simp only [List.append_assoc, List.nil_append]
    rw [e] at this
    exact this
  have hfl : fil (fmt o f x) ⟨(row o f.F x.N x.N.length).length, 0⟩ = ⟨(fmt1 o f x).length, 0⟩ := by
    have := fil_p1 (row o f.F x.N x.N.length) (C1 ++ C2)
    have e : p1 (row o f.F x.N x.N.length) ++ (C1 ++ C2) = fmt o f x := by
      rw [hC2, hC1, fmt1]; simp only [List.append_assoc]
    rw [e] at this
    exact this
  have hB := stB_fmt ho hp C2
  rw [← hC2] at hB
  have hL := stL_fmt ho hf hp
  unfold body
  simp only [hn, hfl, hB, hL, if_true]
theorem getF_fmt {o : Int} (ho : isOrder o) {f : Fm} (hf : f.Ok) {x : Fd} (h : fitsE f x = 0) (hl : (fmt o f x).length ≤ 65536) : getF o f (fmt o f x) = (x, 0) := by
  have hb := body_fmt ho hf h
  have hX : getX (fmt o f x) ⟨(fmt o f x).length, 0⟩ = 0 := by rw [getX, if_neg (by simp)]
  rw [getF, if_neg (by omega), hb]
  simp only [hX, if_true]
/-- Back: a number. -/
theorem num_back {o : Int} (ho : isOrder o) {z : Int} (hz : isSize z) {s : List UInt8} {c : Cu} (h : (num o s z c).2.e = 0) :
    c.e = 0 ∧ (num o s z c).2.a ≤ s.length ∧ (num o s z c).2.a = c.a + wid z ∧ fitsN z (num o s z c).1 = true ∧ s.take (num o s z c).2.a = s.take c.a ++ putS o z (num o s z c).1 := by
  unfold num at h ⊢
  split at h
  · rename_i h0
    rw [if_pos h0]
    split at h
    · exact absurd h (by simp)
    · rename_i h1
      rw [if_neg h1]
      have hb : ((s.drop c.a).take (wid z)).length = wid z := by simp; omega
      have hfit := fits_read (o := o) hz hb
      refine ⟨h0, by simp only; omega, rfl, hfit, ?_⟩
      simp only [putS, if_pos hfit, enc_read ho hz hb, List.take_add]
  · rename_i h0
    exact absurd h h0
theorem nums_back {o : Int} (ho : isOrder o) {s : List UInt8} : ∀ (F : List Int) {c : Cu}, (∀ z ∈ F, isSize z) → (nums o s F c).2.e = 0 → c.a ≤ s.length →
    c.e = 0 ∧ (nums o s F c).2.a ≤ s.length ∧ allFit F (nums o s F c).1 (nums o s F c).1.length = true ∧ s.take (nums o s F c).2.a = s.take c.a ++ row o F (nums o s F c).1 (nums o s F c).1.length
  | [], c, _, h, ha => ⟨h, ha, by simp [nums, allFit], by simp [nums, row]⟩
  | z :: F, c, hs, h, ha => by
    have h' : (nums o s F (num o s z c).2).2.e = 0 := h
    obtain ⟨h1, h2, h3, h4⟩ := nums_back ho F (fun y hy => hs y (List.mem_cons_of_mem _ hy)) h' (num_le ha)
    obtain ⟨g1, g2, g3, g4, g5⟩ := num_back ho (hs z (List.mem_cons_self ..)) h1
    refine ⟨g1, h2, ?_, ?_⟩
    · show allFit (z :: F) ((num o s z c).1 :: (nums o s F (num o s z c).2).1) ((nums o s F (num o s z c).2).1.length + 1) = true
      rw [allFit_cons, g4, h3]; rfl
    · show s.take (nums o s F (num o s z c).2).2.a = s.take c.a ++ row o (z :: F) ((num o s z c).1 :: (nums o s F (num o s z c).2).1) ((nums o s F (num o s z c).2).1.length + 1)
      rw [row_cons, h4, g5, List.append_assoc]
theorem filP_back {s : List UInt8} : ∀ (k a : Nat), a ≤ s.length → (filP s k a).e = 0 → (filP s k a).a = a + k ∧ a + k ≤ s.length ∧ s.take (a + k) = s.take a ++ zeros k
  | 0, a, ha, _ => ⟨rfl, ha, by simp [zeros]⟩
  | k + 1, a, ha, h => by
    unfold filP at h ⊢
    split at h
    · exact absurd h (by simp)
    · rename_i h1
      split at h
      · rename_i h2
        obtain ⟨g1, g2, g3⟩ := filP_back k (a + 1) (by omega) h
        rw [if_neg h1, if_pos h2]
        refine ⟨by rw [g1]; omega, by omega, ?_⟩
        rw [show a + (k + 1) = a + 1 + k by omega, g3]
        have hlt : a < s.length := by omega
        rw [List.take_add_one, List.getElem?_eq_getElem hlt]
        have h3 : s[a] = 0 := by
          rw [List.getD_eq_getElem?_getD, List.getElem?_eq_getElem hlt] at h2; exact h2
        rw [h3]
        simp [zeros, List.replicate_succ]
      · exact absurd h (by simp)
theorem fil_back {s : List UInt8} {c : Cu} (ha : c.a ≤ s.length) (h : (fil s c).e = 0) : c.e = 0 ∧ (fil s c).a ≤ s.length ∧ s.take (fil s c).a = p1 (s.take c.a) := by
  unfold fil at h ⊢
  split at h
  · rename_i h0
    rw [if_pos h0]
    obtain ⟨g1, g2, g3⟩ := filP_back _ _ ha h
    refine ⟨h0, by rw [g1]; exact g2, ?_⟩
    rw [g1, g3, p1, List.length_take, Nat.min_eq_left ha]
  · rename_i h0
    exact absurd h h0
theorem stB_back {o : Int} (ho : isOrder o) {s : List UInt8} {b : Bool} {c : Cu} (ha : c.a ≤ s.length) (hs : s.length ≤ 65536) (h : (stB o s b c).2.2.e = 0) :
    c.e = 0 ∧ (stB o s b c).1 = true ∧ (stB o s b c).2.2.a ≤ s.length ∧ (b = true ∨ (stB o s b c).2.1 = []) ∧ (stB o s b c).2.1.length ≤ 65536 ∧
      s.take (stB o s b c).2.2.a = if b = true then p1 (s.take c.a ++ putS o 4 (stB o s b c).2.1.length ++ (stB o s b c).2.1) else s.take c.a := by
  cases b
  · rw [stB_none] at h ⊢
    exact ⟨h, rfl, ha, .inr rfl, by simp, rfl⟩
  · have h4 := num4 (s := s) ho c
    have hz4 : isSize 4 := by unfold isSize; omega
    unfold stB at h ⊢
    rw [if_pos rfl] at h ⊢
    split at h
    · rename_i h1
      rw [if_pos h1]
      obtain ⟨g1, g2, g3, g4, g5⟩ := num_back ho hz4 h1
      split at h
      · exact absurd h (by simp)
      · rename_i h2
        rw [if_neg h2]
        obtain ⟨n, hn⟩ := Int.eq_ofNat_of_zero_le h4.1
        have hlen : ((s.drop (num o s 4 c).2.a).take (num o s 4 c).1.toNat).length = n := by
          rw [hn]; rw [hn] at h2; simp; omega
        have hle : (num o s 4 c).2.a + (num o s 4 c).1.toNat ≤ s.length := by rw [hn]; rw [hn] at h2; simp; omega
        obtain ⟨k1, k2, k3⟩ := fil_back (c := ⟨(num o s 4 c).2.a + (num o s 4 c).1.toNat, 0⟩) hle h
        refine ⟨g1, rfl, k2, .inl rfl, by rw [hlen]; rw [hn] at hle; simp at hle; omega, ?_⟩
        simp only [if_true]
        rw [k3, hlen, List.take_add, g5]
        rw [hn]
        try rfl
    · rename_i h1
      exact absurd h h1
theorem allFit_rep (z : Int) (L : List Int) (h : allFit (List.replicate L.length z) L L.length = true) : rowFit z L L.length = true := by
  unfold allFit at h
  unfold rowFit
  rw [List.all_eq_true] at h ⊢
  intro j hj
  have hj' := List.mem_range.1 hj
  have := h j hj
  rwa [show (List.replicate L.length z).getD j 0 = z by simp [List.getD_eq_getElem?_getD, hj']] at this
theorem stL_back {o : Int} (ho : isOrder o) {s : List UInt8} {z : Int} (hz : z = 0 ∨ isSize z) {c : Cu} (ha : c.a ≤ s.length) (hs : s.length ≤ 65536) (h : (stL o s z c).2.e = 0) :
    c.e = 0 ∧ (stL o s z c).2.a ≤ s.length ∧ (z ≠ 0 ∨ (stL o s z c).1 = []) ∧ (stL o s z c).1.length ≤ 65536 ∧ rowFit z (stL o s z c).1 (stL o s z c).1.length = true ∧
      s.take (stL o s z c).2.a = if (z != 0) = true then p1 (s.take c.a ++ putS o 4 (stL o s z c).1.length ++ row1 o z (stL o s z c).1 (stL o s z c).1.length) else s.take c.a := by
  rcases Decidable.em (z = 0) with rfl | hz0
  · rw [stL_none] at h ⊢
    exact ⟨h, ha, .inr rfl, by simp, by simp [rowFit], rfl⟩
  · have hzs := hz.resolve_left hz0
    have hw := wid_pos hzs
    have h4 := num4 (s := s) ho c
    have hz4 : isSize 4 := by unfold isSize; omega
    unfold stL at h ⊢
    rw [if_neg hz0] at h ⊢
    split at h
    · rename_i h1
      rw [if_pos h1]
      obtain ⟨g1, g2, g3, g4, g5⟩ := num_back ho hz4 h1
      split at h
      · exact absurd h (by simp)
      · rename_i h2
        rw [if_neg h2]
        obtain ⟨n, hn⟩ := Int.eq_ofNat_of_zero_le h4.1
        have hlen := nums_length (o := o) (s := s) (List.replicate (num o s 4 c).1.toNat z) (num o s 4 c).2
        rw [List.length_replicate] at hlen
        have hnn : (num o s 4 c).1.toNat = n := by rw [hn]; rfl
        rw [hnn] at h hlen
        have hle : (nums o s (List.replicate n z) (num o s 4 c).2).2.a ≤ s.length := nums_le _ g2
        obtain ⟨k1, k2, k3⟩ := fil_back hle h
        obtain ⟨q1, q2, q3, q4⟩ := nums_back ho (List.replicate n z) (fun y hy => by rw [List.eq_of_mem_replicate hy]; exact hzs) k1 g2
        rw [hnn]
        have hnl : n ≤ 65536 := by
          rw [hn] at h2
          have : (n : Int) ≤ (n : Int) * (wid z : Int) := by
            have := Int.mul_le_mul_of_nonneg_left (show (1 : Int) ≤ (wid z : Int) by omega) (Int.natCast_nonneg n)
            omega
          try simp only [Int.ofNat_eq_natCast] at h2
          omega
        rw [hlen] at q3 q4
        have hr : List.replicate n z = List.replicate (nums o s (List.replicate n z) (num o s 4 c).2).1.length z := by rw [hlen]
        refine ⟨g1, k2, .inl hz0, by rw [hlen]; exact hnl, ?_, ?_⟩
        · apply allFit_rep
          rw [hlen]; exact q3
        · rw [if_pos (by simpa using hz0), k3, q4, g5, hlen]
          rw [hn]
          congr 2
          have := row1_row o z (nums o s (List.replicate n z) (num o s 4 c).2).1
          rw [hlen] at this
          exact this.symm
    · rename_i h1
      exact absurd h h1
/-- What is got is put as just these bytes. -/
theorem body_back {o : Int} (ho : isOrder o) {f : Fm} (hf : f.Ok) {s : List UInt8} (hs : s.length ≤ 65536) {x : Fd} {c : Cu} (h : body o s f ⟨0, 0⟩ = (x, c)) (he : c.e = 0) :
    c.a ≤ s.length ∧ s.take c.a = fmt o f x ∧ fitsE f x = 0 := by
  unfold body at h
  split at h
  · rename_i h1
    obtain ⟨rfl, rfl⟩ := Prod.mk.inj h
    have a0 : (0 : Nat) ≤ s.length := Nat.zero_le _
    have a1 : (fil s (nums o s f.F ⟨0, 0⟩).2).a ≤ s.length := fil_le (nums_le f.F (c := ⟨0, 0⟩) a0)
    have a2 : (stB o s f.B (fil s (nums o s f.F ⟨0, 0⟩).2)).2.2.a ≤ s.length := by
      have : ∀ b (c : Cu), c.a ≤ s.length → (stB o s b c).2.2.a ≤ s.length := by
        intro b c hc
        cases b
        · rw [stB_none]; exact hc
        · have h4 := num4 (s := s) ho c
          unfold stB
          rw [if_pos rfl]
          split
          · split
            · exact num_le hc
            · rename_i h2
              have := num_le (o := o) (z := 4) hc
              exact fil_le (by simp only; omega)
          · exact num_le hc
      exact this _ _ a1
    obtain ⟨l1, l2, l3, l4, l5, l6⟩ := stL_back ho hf.l a2 hs he
    obtain ⟨b1, b2, b3, b4, b5, b6⟩ := stB_back ho a1 hs l1
    obtain ⟨f1, f2, f3⟩ := fil_back (nums_le f.F (c := ⟨0, 0⟩) a0) b1
    obtain ⟨n1, n2, n3, n4⟩ := nums_back ho f.F (c := ⟨0, 0⟩) hf.s f1 a0
    have hN := nums_length (o := o) (s := s) f.F ⟨0, 0⟩
    rw [List.take_zero, List.nil_append] at n4
    refine ⟨l2, ?_, ?_⟩
    · rw [l6, b6, f3, n4]
      rfl
    · generalize (nums o s f.F ⟨0, 0⟩).1 = N at *
      generalize (stL o s f.L (stB o s f.B (fil s (nums o s f.F ⟨0, 0⟩).2)).2.2).1 = L at *
      generalize (stB o s f.B (fil s (nums o s f.F ⟨0, 0⟩).2)).2.1 = B at *
      unfold fitsE
      rw [if_neg (by simp [hN]), if_neg (by rw [n3]; decide), if_neg (by rcases b4 with h | h <;> simp [h]), if_neg (by simp; omega), if_neg (by rcases l3 with h | h <;> simp [h]), if_neg (by simp; omega), if_neg (by rw [l5]; decide)]
  · rename_i h1
    obtain ⟨rfl, rfl⟩ := Prod.mk.inj h
    have a1 : (fil s (nums o s f.F ⟨0, 0⟩).2).a ≤ s.length := fil_le (nums_le f.F (c := ⟨0, 0⟩) (Nat.zero_le _))
    exact absurd (stB_back ho a1 hs he).2.1 h1
theorem getF_back {o : Int} (ho : isOrder o) {f : Fm} (hf : f.Ok) {s : List UInt8} (h : (getF o f s).2 = 0) : fmt o f (getF o f s).1 = s ∧ fitsE f (getF o f s).1 = 0 := by
  unfold getF at h ⊢
  split at h
  · exact absurd h (by decide)
  · rename_i h1
    rw [if_neg h1]
    split at h
    · rename_i h2
      rw [if_pos h2]
      cases hb : body o s f ⟨0, 0⟩ with
      | mk x c =>
        rw [hb] at h2
        unfold getX at h2
        split at h2
        · exact absurd h2 (by decide)
        · rename_i h3
          obtain ⟨g1, g2, g3⟩ := body_back ho hf (by omega) hb h2
          refine ⟨?_, g3⟩
          rw [← g2]
          apply List.take_of_length_le
          have : ¬ c.a < s.length := fun h4 => h3 ⟨h2, h4⟩
          omega
    · rename_i h2
      exact absurd h h2
end Go.Proofs.Sh

/- Requests: what is put is got, and what is got is put. Plain. -/
set_option maxRecDepth 100000
namespace Go.Proofs.Sh
open Go.Pv
theorem putS_len (o o' z v : Int) : (putS o z v).length = (putS o' z v).length := by
  unfold putS
  split
  · rw [encB_length, encB_length]
  · rfl
theorem row_len2 (o o' : Int) (F N : List Int) (k : Nat) : (row o F N k).length = (row o' F N k).length := by
  simp only [row, List.length_flatMap, putS_len o o']
theorem row1_len2 (o o' z : Int) (L : List Int) (k : Nat) : (row1 o z L k).length = (row1 o' z L k).length := by
  simp only [row1, List.length_flatMap, putS_len o o']
theorem p1_len2 {a b : List UInt8} (h : a.length = b.length) : (p1 a).length = (p1 b).length := by
  simp only [p1, List.length_append, zeros, List.length_replicate, h]
theorem fmt_len2 (o o' : Int) (f : Fm) (x : Fd) : (fmt o f x).length = (fmt o' f x).length := by
  have h1 : (fmt1 o f x).length = (fmt1 o' f x).length := p1_len2 (row_len2 o o' _ _ _)
  have h2 : (fmt2 o f x).length = (fmt2 o' f x).length := by
    unfold fmt2
    split
    · apply p1_len2
      rw [List.length_append, List.length_append, List.length_append, List.length_append, h1, putS_len o o']
    · exact h1
  unfold fmt
  split
  · apply p1_len2
    rw [List.length_append, List.length_append, List.length_append, List.length_append, h2, putS_len o o', row1_len2 o o']
  · exact h2
theorem hd_length (o C : Int) (n : Nat) : (hd o C n).length = 4 := by
  rw [hd, List.length_append, List.length_append, encB_length, encB_length, encB_length]
/-- The two orders. -/
theorem packS_orders {o o' : Int} (ho : isOrd o = true) (ho' : isOrd o' = true) (r : Rq) : (packS o r).2 = (packS o' r).2 ∧ (packS o r).1.length = (packS o' r).1.length := by
  have hl : ∀ f, (fmt o f r.fd).length = (fmt o' f r.fd).length := fun f => fmt_len2 o o' f _
  unfold packS
  rw [if_pos ho, if_pos ho']
  cases formOf r.C with
  | none => exact ⟨rfl, rfl⟩
  | some f =>
    simp only
    split
    · exact ⟨rfl, rfl⟩
    · rw [hl f]
      split
      · exact ⟨rfl, rfl⟩
      · exact ⟨rfl, by rw [List.length_append, List.length_append, hd_length, hd_length, hl f]⟩
/-- What is put is got. -/
theorem put_get {o : Int} {r : Rq} (h : (packS o r).2 = 0) :
    getP o (packS o r).1 = (r, 0) ∧ lenR o ((packS o r).1.take 4) = (((packS o r).1.length : Int), 0) ∧ 4 ≤ (packS o r).1.length ∧ (packS o r).1.length % 4 = 0 ∧ (packS o r).1.length ≤ 65536 := by
  obtain ⟨f, c, x, y, X, ho, hf, hs, hc, h4, hl, hX, hE⟩ := packS_shape h
  have hio := isOrd_of ho
  obtain ⟨hfo, -, -⟩ := formOf_some hf
  rw [hs]
  have hg := getF_fmt hio hfo hE (by rw [← hX]; omega)
  rw [← hX] at hg
  refine ⟨?_, ?_, by simp, by simp only [List.length_cons]; omega, by simp only [List.length_cons]; omega⟩
  · have hd4 : (c :: 0 :: x :: y :: X).drop 4 = X := rfl
    rw [getP_head (t := c :: 0 :: x :: y :: X) (c := c) ho (by simp) rfl (by rw [hc]; exact hf), getQ, lenR_head (t := c :: 0 :: x :: y :: X) (x := x) (y := y) ho (m := X.length + 4) (by simp) rfl rfl h4 (by omega) hl, if_pos rfl, if_pos (by simp; omega), if_pos (show (c :: 0 :: x :: y :: X).getD 1 0 = 0 from rfl), hd4, hg, if_pos rfl]
    show ((⟨(c.toNat : Int), r.fd.N, r.fd.B, r.fd.L⟩ : Rq), (0 : Int)) = (r, 0)
    rw [hc]
    rfl
  · have ht : (c :: 0 :: x :: y :: X).take 4 = [c, 0, x, y] := rfl
    rw [ht, lenR_head (t := [c, 0, x, y]) (x := x) (y := y) ho (m := X.length + 4) (by simp) rfl rfl h4 (by omega) hl]
    simp; omega
theorem getP_wrong {o : Int} {s : List UInt8} (h : ¬ (getP o s).2 = 0) : (getP o s).1 = rq0 := by
  unfold getP at h ⊢
  split at h
  · rename_i h1
    rw [if_pos h1]
    split at h
    · rename_i h2
      rw [if_pos h2]
    · rename_i h2
      rw [if_neg h2]
      split at h
      · rfl
      · rename_i f hf
        unfold getQ at h ⊢
        split at h
        · rename_i h3
          rw [if_pos h3]
          split at h
          · rename_i h4
            rw [if_pos h4]
            split at h
            · rename_i h5
              rw [if_pos h5]
              split at h
              · exact absurd rfl h
              · rename_i h6
                rw [if_neg h6]
            · rename_i h5
              rw [if_neg h5]
          · rename_i h4
            rw [if_neg h4]
        · rename_i h3
          rw [if_neg h3]
  · rename_i h1
    rw [if_neg h1]
theorem four_of {s : List UInt8} (h : 4 ≤ s.length) : s = s.getD 0 0 :: s.getD 1 0 :: s.getD 2 0 :: s.getD 3 0 :: s.drop 4 := by
  match s, h with
  | _ :: _ :: x :: y :: r, _ => rfl
/-- What is got of bytes is put as just these. -/
theorem get_put {o : Int} {s : List UInt8} (h : (getP o s).2 = 0) : packS o (getP o s).1 = (s, 0) ∧ (getP o s).1.N.length ≤ 16 ∧ (getP o s).1.B.length ≤ 65536 ∧ (getP o s).1.L.length ≤ 65536 := by
  unfold getP at h ⊢
  split at h
  · rename_i ho
    rw [if_pos ho]
    split at h
    · exact absurd h (by decide)
    · rename_i hs4
      rw [if_neg hs4]
      split at h
      · exact absurd h (by decide)
      · rename_i f hf
        unfold getQ at h ⊢
        split at h
        · rename_i h3
          rw [if_pos h3]
          split at h
          · rename_i h4
            rw [if_pos h4]
            split at h
            · rename_i h5
              rw [if_pos h5]
              split at h
              · rename_i h6
                rw [if_pos h6]
                obtain ⟨hfo, hc1, hc2⟩ := formOf_some hf
                have hio := isOrd_of ho
                obtain ⟨g1, g2⟩ := getF_back hio hfo h6
                have hp := fitsE_parts g2
                refine ⟨?_, by have := hp.n; have := hfo.n; simp only; omega, hp.bl, hp.ll⟩
                have hs4' : 4 ≤ s.length := by omega
                have hln : lenR o s = (((4 * lenN o s : Nat) : Int), 0) := by
                  unfold lenR at h3 ⊢
                  rw [if_pos ho, if_neg hs4] at h3 ⊢
                  split at h3
                  · exact absurd h3 (by decide)
                  · rename_i h7
                    rw [if_neg h7]
                    split at h3
                    · exact absurd h3 (by decide)
                    · rename_i h8
                      rw [if_neg h8]
                have hn16 : lenN o s ≤ 16384 := by
                  unfold lenR at h3
                  rw [if_pos ho, if_neg hs4] at h3
                  split at h3
                  · exact absurd h3 (by decide)
                  · split at h3
                    · exact absurd h3 (by decide)
                    · omega
                rw [hln] at h4
                simp only at h4
                have hlen : s.length = 4 * lenN o s := by omega
                have hd4 : (fmt o f (getF o f (s.drop 4)).1).length = s.length - 4 := by rw [g1]; simp
                have hfd : (⟨((s.getD 0 0).toNat : Int), (getF o f (s.drop 4)).1.N, (getF o f (s.drop 4)).1.B, (getF o f (s.drop 4)).1.L⟩ : Rq).fd = (getF o f (s.drop 4)).1 := rfl
                rw [packS_ok ho (f := f) hf (by rw [hfd, g2]; rfl) (by rw [hfd, hd4]; omega)]
                rw [hfd, g1]
                congr 1
                have hn : (s.drop 4).length / 4 + 1 = lenN o s := by simp; omega
                rw [hn]
                have hz2 : isSize 2 := by unfold isSize; omega
                have he := enc_read hio hz2 (b := [s.getD 2 0, s.getD 3 0]) rfl
                have hrv : readV o 2 [s.getD 2 0, s.getD 3 0] = (lenN o s : Int) := by
                  rw [readV, if_neg, lenN, two_of hs4']
                  have := decU_lt o [s.getD 2 0, s.getD 3 0]
                  simp [high]
                  simp at this
                  omega
                rw [hrv] at he
                have hw2 : wid 2 = 2 := rfl
                rw [hw2] at he
                rw [hd, he, enc1, enc1]
                have hb0 : byteAt ((s.getD 0 0).toNat : Int) 0 = s.getD 0 0 := byteAt_eq (by have := (s.getD 0 0).toNat_lt; omega)
                have hb1 : byteAt 0 0 = 0 := by decide
                rw [hb0, hb1]
                have h4s := four_of hs4'
                rw [h5] at h4s
                exact h4s.symm
              · rename_i h6
                exact absurd h h6
            · exact absurd h (by decide)
          · exact absurd h (by decide)
        · rename_i h3
          exact absurd h h3
  · exact absurd h (by decide)
end Go.Proofs.Sh

/- The document's numbers of two bytes. -/
set_option maxRecDepth 100000
set_option linter.unusedSimpArgs false
set_option linter.unusedVariables false
namespace Go.Proofs.Sh
open Go.Pv

theorem gz2 : Fsp Tryd.prog 55 [] 0 [.int .i64 2] [] 0 (.int .i64 2) := ranIs mixed (noCl_ok _) (wbf := fun _ => false) (n := 60) (d := 10) (by kernel_rfl)
theorem gm2 : Fsp Tryd.prog 57 [] 0 [.int .i64 2] [] 0 (.int .i64 65535) := ranIs mixed (noCl_ok _) (wbf := fun _ => false) (n := 60) (d := 10) (by kernel_rfl)
theorem gtu2 (x y : UInt8) : Fsp Tryd.prog 56 [] 0 [.str [x, y]] [] 0 (.str [y, x]) := by
  (refine Fsp.ofs (nx := 0) mixed Tryd.func56 rfl (by simp [Tryd.f56]) ?_; simp -implicitDefEqProofs only [push_cast, Tryd.f56, seval])
  refine loopC_un 3 ?_
  simp -implicitDefEqProofs only [push_cast, seval]
  trace_state
theorem gwv (a b : Nat) (ha : a < 256) (hb : b < 256) : IntKind.i64.wrap (IntKind.i64.wrap (256 * IntKind.i64.wrap (0 + IntKind.i64.wrap (a : Int))) + IntKind.i64.wrap (b : Int)) = ((a * 256 + b : Nat) : Int) := by
  rw [wrap_i64_id (n := (a : Int)) (by omega) (by omega), Int.zero_add, wrap_i64_id (n := (a : Int)) (by omega) (by omega), wrap_i64_id (n := (b : Int)) (by omega) (by omega), wrap_i64_id (n := 256 * (a : Int)) (by omega) (by omega), wrap_i64_id (by omega) (by omega)]
  omega
theorem gw0 (a : Nat) (ha : a < 256) : IntKind.i64.wrap (IntKind.i64.wrap (256 * 0) + IntKind.i64.wrap (a : Int)) = (a : Int) := by
  rw [wrap_i64_id (n := (a : Int)) (by omega) (by omega), show (256 * 0 : Int) = 0 by decide, show IntKind.i64.wrap 0 = 0 by decide, Int.zero_add, wrap_i64_id (n := (a : Int)) (by omega) (by omega)]
set_option maxHeartbeats 4000000 in
theorem gget1 (x y : UInt8) : Fsp Tryd.prog 40 [] 0 [.int .i64 1, .int .i64 2, .str [x, y]] [] 0 (.tup [.int .i64 ((x.toNat * 256 + y.toNat : Nat) : Int), .int .i64 0]) := by
  have hx := x.toNat_lt
  have hy := y.toNat_lt
  obtain ⟨n, hn⟩ : ∃ n : Nat, n = x.toNat * 256 + y.toNat := ⟨_, rfl⟩
  have hgw := gwv x.toNat y.toNat (by omega) (by omega)
  rw [← hn] at hgw ⊢
  have hlt : decide ((65535 : Int) < (n : Int)) = false := by simp; omega
  (refine Fsp.ofs (nx := 0) mixed Tryd.func40 rfl (by simp [Tryd.f40]) ?_; simp -implicitDefEqProofs only [push_cast, Tryd.f40, seval])
  refine callE_p gz2 ?_
  simp -implicitDefEqProofs only [push_cast, seval]
  refine loopC_un 3 ?_
  simp -implicitDefEqProofs only [push_cast, seval]
  trace_state
  refine callE_p gm2 ?_
  simp -implicitDefEqProofs only [push_cast, seval]
  rw [hgw, hlt, condC_false]
  simp -implicitDefEqProofs only [push_cast, seval]
  exact ⟨_, rfl, by simp [wkL, res2, res1, PV.weak, PV.el]⟩
set_option maxHeartbeats 4000000 in
theorem gget0 (x y : UInt8) : Fsp Tryd.prog 40 [] 0 [.int .i64 0, .int .i64 2, .str [x, y]] [] 0 (.tup [.int .i64 ((y.toNat * 256 + x.toNat : Nat) : Int), .int .i64 0]) := by
  have hx := x.toNat_lt
  have hy := y.toNat_lt
  obtain ⟨n, hn⟩ : ∃ n : Nat, n = y.toNat * 256 + x.toNat := ⟨_, rfl⟩
  have hgw := gwv y.toNat x.toNat (by omega) (by omega)
  rw [← hn] at hgw ⊢
  have hlt : decide ((65535 : Int) < (n : Int)) = false := by simp; omega
  (refine Fsp.ofs (nx := 0) mixed Tryd.func40 rfl (by simp [Tryd.f40]) ?_; simp -implicitDefEqProofs only [push_cast, Tryd.f40, seval])
  refine callE_p gz2 ?_
  simp -implicitDefEqProofs only [push_cast, seval]
  trace_state
  refine callE_p (gtu2 x y) ?_
  simp -implicitDefEqProofs only [push_cast, seval]
  refine loopC_un 3 ?_
  simp -implicitDefEqProofs only [push_cast, seval]
  trace_state
  refine callE_p gm2 ?_
  simp -implicitDefEqProofs only [push_cast, seval]
  rw [hgw, hlt, condC_false]
  simp -implicitDefEqProofs only [push_cast, seval]
  exact ⟨_, rfl, by simp [wkL, res2, res1, PV.weak, PV.el]⟩

end Go.Proofs.Sh

/- The document's cut of a stream. -/
set_option maxRecDepth 100000
set_option linter.unusedSimpArgs false
set_option linter.unusedVariables false
namespace Go.Proofs.Sh
open Go.Pv

/-- The requests from a place on: where each begins and ends; whether it is dead; where it stops. -/
def posS (o : Int) (s : List UInt8) : Nat → Nat → List (Nat × Nat) × Bool × Nat
  | 0, a => ([], false, a)
  | k + 1, a =>
    if s.length < a + 4 then ([], false, a)
    else if (lenR o (s.drop a)).1.toNat = 0 then ([], true, a)
    else if s.length < a + (lenR o (s.drop a)).1.toNat then ([], false, a)
    else ((a, a + (lenR o (s.drop a)).1.toNat) :: (posS o s k (a + (lenR o (s.drop a)).1.toNat)).1, (posS o s k (a + (lenR o (s.drop a)).1.toNat)).2)
theorem posS_more (o : Int) (s : List UInt8) : ∀ (k j a : Nat), s.length - a < k → s.length - a < j → posS o s k a = posS o s j a
  | 0, j, a, h, _ => by omega
  | k, 0, a, _, h => by omega
  | k + 1, j + 1, a, hk, hj => by
    rw [posS, posS]
    split
    · rfl
    · split
      · rfl
      · split
        · rfl
        · rw [posS_more o s k j _ (by omega) (by omega)]
def posA (o : Int) (s : List UInt8) (a : Nat) : List (Nat × Nat) × Bool × Nat := posS o s (s.length + 1) a
theorem posA_eq (o : Int) (s : List UInt8) (a : Nat) (ha : a ≤ s.length) : posA o s a =
    if s.length < a + 4 then ([], false, a)
    else if (lenR o (s.drop a)).1.toNat = 0 then ([], true, a)
    else if s.length < a + (lenR o (s.drop a)).1.toNat then ([], false, a)
    else ((a, a + (lenR o (s.drop a)).1.toNat) :: (posA o s (a + (lenR o (s.drop a)).1.toNat)).1, (posA o s (a + (lenR o (s.drop a)).1.toNat)).2) := by
  unfold posA
  rw [posS]
  split
  · rfl
  · split
    · rfl
    · split
      · rfl
      · rw [posS_more o s s.length (s.length + 1) _ (by omega) (by omega)]
theorem posS_cut (o : Int) (s : List UInt8) : ∀ (k a : Nat), a ≤ s.length → s.length - a < k →
    (posS o s k a).1.map (fun p => (s.drop p.1).take (p.2 - p.1)) = (cutS o (s.drop a)).1 ∧ (posS o s k a).2.1 = (cutS o (s.drop a)).2.2 ∧ ((posS o s k a).2.1 = false → s.drop (posS o s k a).2.2 = (cutS o (s.drop a)).2.1) ∧ (posS o s k a).2.2 ≤ s.length
  | 0, a, h1, h2 => by omega
  | k + 1, a, h1, h2 => by
    have hlen : (s.drop a).length = s.length - a := List.length_drop ..
    have ec := cutS_eq o (s.drop a)
    rw [posS]
    by_cases h4 : s.length < a + 4
    · rw [if_pos (by rw [hlen]; omega)] at ec
      rw [if_pos h4, ec]; exact ⟨rfl, rfl, fun _ => rfl, h1⟩
    · rw [if_neg (by rw [hlen]; omega)] at ec
      rw [if_neg h4]
      generalize (lenR o (s.drop a)).1.toNat = n at *
      by_cases h0 : n = 0
      · rw [if_pos h0] at ec
        rw [if_pos h0, ec]; exact ⟨rfl, rfl, fun h => (by cases h), h1⟩
      · rw [if_neg h0] at ec
        rw [if_neg h0]
        by_cases hl : s.length < a + n
        · rw [if_pos (by rw [hlen]; omega)] at ec
          rw [if_pos hl, ec]; exact ⟨rfl, rfl, fun _ => rfl, h1⟩
        · rw [if_neg (by rw [hlen]; omega)] at ec
          rw [if_neg hl, ec]
          obtain ⟨i1, i2, i3, i4⟩ := posS_cut o s k (a + n) (by omega) (by omega)
          rw [← List.drop_drop] at i1 i2 i3
          simp only [List.map_cons, i1, i2]
          rw [i2] at i3
          exact ⟨by rw [show a + n - a = n by omega], trivial, i3, i4⟩
theorem posA_cut {o : Int} {s : List UInt8} {a : Nat} (ha : a ≤ s.length) : (posA o s a).1.map (fun p => (s.drop p.1).take (p.2 - p.1)) = (cutS o (s.drop a)).1 ∧ (posA o s a).2.1 = (cutS o (s.drop a)).2.2 ∧ ((posA o s a).2.1 = false → s.drop (posA o s a).2.2 = (cutS o (s.drop a)).2.1) ∧ (posA o s a).2.2 ≤ s.length := posS_cut o s _ a ha (by omega)
/-- The number that the document reads of the length. -/
def rawN (o : Int) (s : List UInt8) (a : Nat) : Nat := if o = 1 then (s.getD (a + 2) 0).toNat * 256 + (s.getD (a + 3) 0).toNat else (s.getD (a + 3) 0).toNat * 256 + (s.getD (a + 2) 0).toNat
theorem getD_drop' (s : List UInt8) (a i : Nat) : (s.drop a).getD i 0 = s.getD (a + i) 0 := by
  simp [List.getD_eq_getElem?_getD, List.getElem?_drop]
theorem rawN_len {o : Int} (ho : o = 0 ∨ o = 1) {s : List UInt8} {a : Nat} (h : a + 4 ≤ s.length) : (lenR o (s.drop a)).1.toNat = if 4 * rawN o s a = 0 ∨ 65536 < 4 * rawN o s a then 0 else 4 * rawN o s a := by
  have hl : 4 ≤ (s.drop a).length := by rw [List.length_drop]; omega
  have e : lenN o (s.drop a) = rawN o s a := by
    rcases ho with rfl | rfl
    · rw [lenN_0 hl, rawN, if_neg (by decide), getD_drop', getD_drop']; omega
    · rw [lenN_1 hl, rawN, if_pos rfl, getD_drop', getD_drop']; omega
  unfold lenR
  rw [e, if_pos (show isOrd o = true by rcases ho with rfl | rfl <;> rfl), if_neg (by omega)]
  by_cases h0 : rawN o s a = 0
  · rw [if_pos h0, if_pos (by omega)]; rfl
  · rw [if_neg h0]
    by_cases h1 : 16384 < rawN o s a
    · rw [if_pos h1, if_pos (by omega)]; rfl
    · rw [if_neg h1, if_neg (by omega)]; exact Int.toNat_natCast _
theorem rawN_lt {o : Int} {s : List UInt8} {a : Nat} : rawN o s a < 65536 := by
  unfold rawN
  have h1 := (s.getD (a + 2) 0).toNat_lt
  have h2 := (s.getD (a + 3) 0).toNat_lt
  split <;> omega
theorem two_at {s : List UInt8} {a : Nat} (h : a + 4 ≤ s.length) : ((s.drop (a + 2)).take 2) = [s.getD (a + 2) 0, s.getD (a + 3) 0] := by
  have e := two_of (s := s.drop a) (by rw [List.length_drop]; omega)
  rw [List.drop_drop, getD_drop', getD_drop'] at e
  exact e
theorem get2_fs {o : Int} (ho : o = 0 ∨ o = 1) {s : List UInt8} {a : Nat} (h : a + 4 ≤ s.length) : Fsp Tryd.prog 40 [] 0 [.int .i64 o, .int .i64 2, .str ((s.drop (a + 2)).take 2)] [] 0 (.tup [.int .i64 (rawN o s a), .int .i64 0]) := by
  rw [two_at h]
  rcases ho with rfl | rfl
  · have := gget0 (s.getD (a + 2) 0) (s.getD (a + 3) 0)
    rw [rawN, if_neg (by decide)]; exact this
  · have := gget1 (s.getD (a + 2) 0) (s.getD (a + 3) 0)
    rw [rawN, if_pos rfl]; exact this

end Go.Proofs.Sh

/- The document's cut of a stream: the walk. -/
set_option maxRecDepth 100000
set_option linter.unusedSimpArgs false
set_option linter.unusedVariables false
namespace Go.Proofs.Sh
open Go.Pv

def fsL (l : List (Nat × Nat)) : List Int := l.map fun p => (p.1 : Int)
def tsL (l : List (Nat × Nat)) : List Int := l.map fun p => (p.2 : Int)
theorem fsL_sn (l : List (Nat × Nat)) (x : Nat × Nat) : ints (fsL (l ++ [x])) = ints (fsL l) ++ [.int .i64 x.1] := by simp [fsL, ints]
theorem tsL_sn (l : List (Nat × Nat)) (x : Nat × Nat) : ints (tsL (l ++ [x])) = ints (tsL l) ++ [.int .i64 x.2] := by simp [tsL, ints]
theorem fsL_len (l : List (Nat × Nat)) : (fsL l).length = l.length := List.length_map _
theorem tsL_len (l : List (Nat × Nat)) : (tsL l).length = l.length := List.length_map _
/-- What the document's cut comes to. -/
def ofPV (b d : Bool) (o : Int) (l : List (Nat × Nat)) (r : Int) : PV := .agg [.int .i64 o, .bool b, .bool d, .sl 1 (ints (fsL l)), .sl 1 (ints (tsL l)), .int .i64 r]
def ofL (a : List UInt8) : List (Nat × Nat) := if a.length < 4 then [] else match begO a with | some o => (posA o a 4).1 | none => []
def ofR (a : List UInt8) : PV := ofPV (stO a).b (stO a).d (stO a).o (ofL a) (stO a).r.length
theorem take4_eq {s : List UInt8} (h : 4 ≤ s.length) (a b c d : UInt8) : s.take 4 = [a, b, c, d] ↔ s.getD 0 0 = a ∧ s.getD 1 0 = b ∧ s.getD 2 0 = c ∧ s.getD 3 0 = d := by
  match s, h with
  | x :: y :: z :: u :: r, _ => simp
theorem u8n (x : UInt8) (k : UInt8) : x = k ↔ (x.toNat : Int) = (k.toNat : Int) := by
  constructor
  · rintro rfl; rfl
  · intro h; exact UInt8.toNat_inj.1 (by omega)
theorem begO_is {s : List UInt8} (h : 4 ≤ s.length) : begO s = if ((s.getD 1 0).toNat : Int) = 1 ∧ ((s.getD 2 0).toNat : Int) = 0 ∧ ((s.getD 3 0).toNat : Int) = 0 then (if ((s.getD 0 0).toNat : Int) = 108 then some 0 else if ((s.getD 0 0).toNat : Int) = 66 then some 1 else none) else none := by
  have e0 := (take4_eq h 108 1 0 0).trans (by rw [u8n, u8n, u8n, u8n])
  have e1 := (take4_eq h 66 1 0 0).trans (by rw [u8n, u8n, u8n, u8n])
  unfold begO beg0 beg1
  rw [show (UInt8.toNat 108 : Int) = 108 from rfl, show (UInt8.toNat 1 : Int) = 1 from rfl, show (UInt8.toNat 0 : Int) = 0 from rfl] at e0
  rw [show (UInt8.toNat 66 : Int) = 66 from rfl, show (UInt8.toNat 1 : Int) = 1 from rfl, show (UInt8.toNat 0 : Int) = 0 from rfl] at e1
  by_cases h1 : ((s.getD 1 0).toNat : Int) = 1 ∧ ((s.getD 2 0).toNat : Int) = 0 ∧ ((s.getD 3 0).toNat : Int) = 0
  · rw [if_pos h1]
    by_cases p : ((s.getD 0 0).toNat : Int) = 108
    · rw [if_pos (e0.2 ⟨p, h1⟩), if_pos p]
    · rw [if_neg (fun q => p (e0.1 q).1), if_neg p]
      by_cases q : ((s.getD 0 0).toNat : Int) = 66
      · rw [if_pos (e1.2 ⟨q, h1⟩), if_pos q]
      · rw [if_neg (fun z => q (e1.1 z).1), if_neg q]
  · rw [if_neg h1, if_neg (fun q => h1 (e0.1 q).2), if_neg (fun q => h1 (e1.1 q).2)]
theorem of_end {o : Int} {s : List UInt8} (h : 4 ≤ s.length) : ofPV true (cutS o (s.drop 4)).2.2 o (posA o s 4).1 (cutS o (s.drop 4)).2.1.length = ofPV true (posA o s 4).2.1 o (posA o s 4).1 (if (posA o s 4).2.1 = true then (0 : Nat) else s.length - (posA o s 4).2.2 : Nat) := by
  obtain ⟨h1, h2, h3, h4⟩ := posA_cut (o := o) h
  rw [← h2]
  cases hd : (posA o s 4).2.1 with
  | true => rw [if_pos rfl, cutS_dead _ _ (Nat.le_refl _) (by rw [← h2, hd])]; rfl
  | false => rw [if_neg Bool.false_ne_true, ← h3 hd, List.length_drop]
structure OfS (o : Int) (s : List UInt8) where
  a : Nat
  pre : List (Nat × Nat)
  ha : a ≤ s.length
  h4 : 4 ≤ a
  hp : pre.length ≤ a
  h : posA o s 4 = (pre ++ (posA o s a).1, (posA o s a).2)
def OfS.st {o : Int} {s : List UInt8} (x : OfS o s) : PS := { n := 101, env := [(4, .int .i64 x.a), (3, .box 1 0), (2, .box 0 0), (0, .str s)], objs := [(0, some [.int .i64 0, .bool false, .bool false, .nilsl, .nilsl, .int .i64 0]), (1, some [.int .i64 o, .bool true, .bool false, .slt 1 (ints (fsL x.pre)) 50, .slt 1 (ints (tsL x.pre)) 51, .int .i64 0])], live := [(50, true), (51, true)], nxt := 60 }
set_option maxHeartbeats 8000000 in
theorem of_fs (s : List UInt8) (hs : s.length ≤ 900000) : Fsp Tryd.prog 27 [] 0 [.str s] [] 0 (ofR s) := by
  cases h1 : decide ((s.length : Int) < 4)
  · have h1' : ¬ s.length < 4 := by simp at h1; omega
    have hbo := begO_is (s := s) (by omega)
    have i0 : decide ((0 : Int) < (s.length : Int)) = true := by simp; omega
    unfold ofR ofL stO
    rw [if_neg h1', if_neg h1']
    cases kA : (((s.getD 0 0).toNat : Int) == 108)
    · have qA : ¬ (((s.getD 0 0).toNat : Int) = 108) := by simpa only [beq_eq_false_iff_ne, ne_eq, beq_iff_eq] using kA
      have mA : (((s.getD 0 0).toNat : Int) != 108) = true := by rw [bne, kA]; rfl
      cases kE : (((s.getD 0 0).toNat : Int) == 66)
      · have qE : ¬ (((s.getD 0 0).toNat : Int) = 66) := by simpa only [beq_eq_false_iff_ne, ne_eq, beq_iff_eq] using kE
        have mE : (((s.getD 0 0).toNat : Int) != 66) = true := by rw [bne, kE]; rfl
        have hno : begO s = none := by
          rw [hbo]; first | (simp [qA, qE, -List.getD_eq_getElem?_getD]; done) | (simp [qA, qE, -List.getD_eq_getElem?_getD]; omega)
        rw [hno]
        simp only
        (refine Fsp.ofs (nx := 0) mixed Tryd.func27 rfl (by simp [Tryd.f27]) ?_; simp -implicitDefEqProofs only [push_cast, Tryd.f27, h1, mA, mE, seval])
        (repeat (first | refine ⟨by omega, ?_⟩ | refine ⟨by (unfold drawOk; kernel_rfl), ?_⟩ | refine ⟨by (simp; omega), ?_⟩))
        skip
        (repeat (first | refine ⟨by omega, ?_⟩ | refine ⟨by (unfold drawOk; kernel_rfl), ?_⟩))
        all_goals first | done | rfl | omega | (unfold drawOk; kernel_rfl) | exact ⟨by (unfold drawOk; kernel_rfl), _, rfl, by simp [wkL, res2, res1, res3, PV.weak, PV.el]⟩ | exact ⟨_, rfl, by simp [wkL, res2, res1, res3, PV.weak, PV.el, ints, fsL, tsL, ofPV]⟩ | simp [wkL, res2, res1, res3, PV.weak, PV.el, ints, fsL, tsL, ofPV] | skip
      · have qE : ((s.getD 0 0).toNat : Int) = 66 := by simpa only [beq_eq_false_iff_ne, ne_eq, beq_iff_eq] using kE
        have mE : (((s.getD 0 0).toNat : Int) != 66) = false := by rw [bne, kE]; rfl
        cases kB : (((s.getD 1 0).toNat : Int) == 1)
        · have qB : ¬ (((s.getD 1 0).toNat : Int) = 1) := by simpa only [beq_eq_false_iff_ne, ne_eq, beq_iff_eq] using kB
          have mB : (((s.getD 1 0).toNat : Int) != 1) = true := by rw [bne, kB]; rfl
          have hno : begO s = none := by
            rw [hbo]; first | (simp [qA, qE, qB, -List.getD_eq_getElem?_getD]; done) | (simp [qA, qE, qB, -List.getD_eq_getElem?_getD]; omega)
          rw [hno]
          simp only
          (refine Fsp.ofs (nx := 0) mixed Tryd.func27 rfl (by simp [Tryd.f27]) ?_; simp -implicitDefEqProofs only [push_cast, Tryd.f27, h1, mA, mE, mB, seval])
          (repeat (first | refine ⟨by omega, ?_⟩ | refine ⟨by (unfold drawOk; kernel_rfl), ?_⟩ | refine ⟨by (simp; omega), ?_⟩))
          skip
          (repeat (first | refine ⟨by omega, ?_⟩ | refine ⟨by (unfold drawOk; kernel_rfl), ?_⟩))
          all_goals first | done | rfl | omega | (unfold drawOk; kernel_rfl) | exact ⟨by (unfold drawOk; kernel_rfl), _, rfl, by simp [wkL, res2, res1, res3, PV.weak, PV.el]⟩ | exact ⟨_, rfl, by simp [wkL, res2, res1, res3, PV.weak, PV.el, ints, fsL, tsL, ofPV]⟩ | simp [wkL, res2, res1, res3, PV.weak, PV.el, ints, fsL, tsL, ofPV] | skip
        · have qB : ((s.getD 1 0).toNat : Int) = 1 := by simpa only [beq_eq_false_iff_ne, ne_eq, beq_iff_eq] using kB
          have mB : (((s.getD 1 0).toNat : Int) != 1) = false := by rw [bne, kB]; rfl
          cases kC : (((s.getD 2 0).toNat : Int) == 0)
          · have qC : ¬ (((s.getD 2 0).toNat : Int) = 0) := by simpa only [beq_eq_false_iff_ne, ne_eq, beq_iff_eq] using kC
            have mC : (((s.getD 2 0).toNat : Int) != 0) = true := by rw [bne, kC]; rfl
            have hno : begO s = none := by
              rw [hbo]; first | (simp [qA, qE, qB, qC, -List.getD_eq_getElem?_getD]; done) | (simp [qA, qE, qB, qC, -List.getD_eq_getElem?_getD]; omega)
            rw [hno]
            simp only
            (refine Fsp.ofs (nx := 0) mixed Tryd.func27 rfl (by simp [Tryd.f27]) ?_; simp -implicitDefEqProofs only [push_cast, Tryd.f27, h1, mA, mE, mB, mC, seval])
            (repeat (first | refine ⟨by omega, ?_⟩ | refine ⟨by (unfold drawOk; kernel_rfl), ?_⟩ | refine ⟨by (simp; omega), ?_⟩))
            skip
            (repeat (first | refine ⟨by omega, ?_⟩ | refine ⟨by (unfold drawOk; kernel_rfl), ?_⟩))
            all_goals first | done | rfl | omega | (unfold drawOk; kernel_rfl) | exact ⟨by (unfold drawOk; kernel_rfl), _, rfl, by simp [wkL, res2, res1, res3, PV.weak, PV.el]⟩ | exact ⟨_, rfl, by simp [wkL, res2, res1, res3, PV.weak, PV.el, ints, fsL, tsL, ofPV]⟩ | simp [wkL, res2, res1, res3, PV.weak, PV.el, ints, fsL, tsL, ofPV] | skip
          · have qC : ((s.getD 2 0).toNat : Int) = 0 := by simpa only [beq_eq_false_iff_ne, ne_eq, beq_iff_eq] using kC
            have mC : (((s.getD 2 0).toNat : Int) != 0) = false := by rw [bne, kC]; rfl
            cases kD : (((s.getD 3 0).toNat : Int) == 0)
            · have qD : ¬ (((s.getD 3 0).toNat : Int) = 0) := by simpa only [beq_eq_false_iff_ne, ne_eq, beq_iff_eq] using kD
              have mD : (((s.getD 3 0).toNat : Int) != 0) = true := by rw [bne, kD]; rfl
              have hno : begO s = none := by
                rw [hbo]; first | (simp [qA, qE, qB, qC, qD, -List.getD_eq_getElem?_getD]; done) | (simp [qA, qE, qB, qC, qD, -List.getD_eq_getElem?_getD]; omega)
              rw [hno]
              simp only
              (refine Fsp.ofs (nx := 0) mixed Tryd.func27 rfl (by simp [Tryd.f27]) ?_; simp -implicitDefEqProofs only [push_cast, Tryd.f27, h1, mA, mE, mB, mC, mD, seval])
              (repeat (first | refine ⟨by omega, ?_⟩ | refine ⟨by (unfold drawOk; kernel_rfl), ?_⟩ | refine ⟨by (simp; omega), ?_⟩))
              skip
              (repeat (first | refine ⟨by omega, ?_⟩ | refine ⟨by (unfold drawOk; kernel_rfl), ?_⟩))
              all_goals first | done | rfl | omega | (unfold drawOk; kernel_rfl) | exact ⟨by (unfold drawOk; kernel_rfl), _, rfl, by simp [wkL, res2, res1, res3, PV.weak, PV.el]⟩ | exact ⟨_, rfl, by simp [wkL, res2, res1, res3, PV.weak, PV.el, ints, fsL, tsL, ofPV]⟩ | simp [wkL, res2, res1, res3, PV.weak, PV.el, ints, fsL, tsL, ofPV] | skip
            · have qD : ((s.getD 3 0).toNat : Int) = 0 := by simpa only [beq_eq_false_iff_ne, ne_eq, beq_iff_eq] using kD
              have mD : (((s.getD 3 0).toNat : Int) != 0) = false := by rw [bne, kD]; rfl
              have hyes : begO s = some 1 := by
                rw [hbo]; simp [qA, qE, qB, qC, qD, -List.getD_eq_getElem?_getD]
              rw [hyes]
              simp only
              rw [of_end (o := 1) (s := s) (by omega)]
              (refine Fsp.ofs (nx := 0) mixed Tryd.func27 rfl (by simp [Tryd.f27]) ?_; simp -implicitDefEqProofs only [push_cast, Tryd.f27, h1, kE, mA, mE, mB, mC, mD, seval])
              (repeat (first | refine ⟨by omega, ?_⟩ | refine ⟨by (unfold drawOk; kernel_rfl), ?_⟩ | refine ⟨by (simp; omega), ?_⟩))
              skip
              refine loopC_of (α := OfS 1 s) OfS.st (fun x => s.length - x.a) ⟨4, [], by omega, by omega, by simp, by simp⟩ ?_ ?_
              · (simp only [OfS.st]; exact Wk.by _ _ _ [(0, 0), (1, 4)] [] [50, 51] (by simp) (by simp [wkV, PV.el, PV.weak, PS.get, PS.obj, PS.lv, lkp_hit, lkp_miss, lkp_nil, lko, wkL, wkC, res1, fsL, tsL, ints]) (by simp [PS.get, PS.obj, PS.lv, lkp_hit, lkp_miss, lkp_nil, lko, wkL, wkC, PV.weak, wkL, wkC, res1, fsL, tsL, ints]) (by simp [PS.get, PS.obj, PS.lv, lkp_hit, lkp_miss, lkp_nil, lko]) (by rfl) (by rfl) (by simp [lko]) (by simp) (by simp) (by simp) (fun i hi => by rcases i with _ | i <;> first | rfl | (exfalso; omega)))
              · rintro ⟨a, pre, ha, ha4, hpl, hpre⟩
                have hpe := posA_eq 1 s a ha
                have w1 : IntKind.i64.wrap ((s.length : Int) - (a : Int)) = ((s.length - a : Nat) : Int) := by (rw [wrap_i64_id (by omega) (by omega)]; omega)
                obtain ⟨z, hz⟩ : ∃ z, z = s.length - a := ⟨_, rfl⟩
                rw [← hz] at w1
                simp -implicitDefEqProofs only [push_cast, OfS.st, w1, seval]
                refine condC_split (fun g1 => ?_) (fun g1 => ?_)
                · have g1' : a + 4 ≤ s.length := by simp at g1; omega
                  obtain ⟨a2, ha2⟩ : ∃ a2, a2 = a + 2 := ⟨_, rfl⟩
                  obtain ⟨a4, hq4⟩ : ∃ a4, a4 = a + 4 := ⟨_, rfl⟩
                  have w2 : IntKind.i64.wrap ((a : Int) + 2) = (a2 : Int) := by (rw [wrap_i64_id (by omega) (by omega)]; omega)
                  have w4 : IntKind.i64.wrap ((a : Int) + 4) = (a4 : Int) := by (rw [wrap_i64_id (by omega) (by omega)]; omega)
                  have hge := get2_fs (o := 1) (.inr rfl) g1'
                  have hln := rawN_len (o := 1) (.inr rfl) g1'
                  have hlt := rawN_lt (o := 1) (s := s) (a := a)
                  have hsl : List.take (a4 - a2) (List.drop a2 s) = List.take 2 (List.drop a2 s) := by rw [show a4 - a2 = 2 by omega]
                  rw [← ha2] at hge
                  rw [if_neg (by omega)] at hpe
                  generalize rawN 1 s a = n at *
                  obtain ⟨m, hm⟩ : ∃ m, m = 4 * n := ⟨_, rfl⟩
                  have w5 : IntKind.i64.wrap (4 * (n : Int)) = (m : Int) := by (rw [wrap_i64_id (by omega) (by omega)]; omega)
                  rw [← hm] at hln
                  simp -implicitDefEqProofs only [push_cast, w2, w4, hsl, seval]
                  (repeat (first | refine ⟨by omega, ?_⟩ | refine ⟨by (unfold drawOk; kernel_rfl), ?_⟩ | refine ⟨by (simp; omega), ?_⟩))
                  refine callE_p hge ?_
                  simp -implicitDefEqProofs only [push_cast, w5, seval]
                  (repeat (first | refine ⟨by omega, ?_⟩ | refine ⟨by (unfold drawOk; kernel_rfl), ?_⟩ | refine ⟨by (simp; omega), ?_⟩))
                  cases g2 : ((m : Int) == 0)
                  · have g2' : m ≠ 0 := by simp at g2; exact g2
                    cases g3 : decide ((65536 : Int) < (m : Int))
                    · have g3' : m ≤ 65536 := by simp at g3; omega
                      rw [if_neg (by omega)] at hln
                      rw [hln, if_neg g2'] at hpe
                      simp -implicitDefEqProofs only [push_cast, g2, g3, seval]
                      skip
                      refine condC_split (fun g4 => ?_) (fun g4 => ?_)
                      · have g4' : s.length < a + m := by simp at g4; omega
                        rw [if_pos g4'] at hpe
                        rw [hpre, hpe]
                        simp -implicitDefEqProofs only [push_cast, w1, List.append_nil, if_neg, seval]
                        (repeat (first | refine ⟨by omega, ?_⟩ | refine ⟨by (unfold drawOk; kernel_rfl), ?_⟩ | refine ⟨by (simp; omega), ?_⟩))
                        skip
                        (repeat (first | refine ⟨by omega, ?_⟩ | refine ⟨by (unfold drawOk; kernel_rfl), ?_⟩))
                        all_goals first | done | rfl | omega | (unfold drawOk; kernel_rfl) | exact ⟨by (unfold drawOk; kernel_rfl), _, rfl, by simp [wkL, res2, res1, res3, PV.weak, PV.el]⟩ | exact ⟨_, rfl, by simp [wkL, res2, res1, res3, PV.weak, PV.el, ints, fsL, tsL, ofPV]⟩ | simp [wkL, res2, res1, res3, PV.weak, PV.el, ints, fsL, tsL, ofPV] | skip
                        all_goals (try omega)
                      · have g4' : ¬ s.length < a + m := by simp at g4; omega
                        rw [if_neg g4'] at hpe
                        obtain ⟨am, ham⟩ : ∃ am, am = a + m := ⟨_, rfl⟩
                        have w6 : IntKind.i64.wrap ((a : Int) + (m : Int)) = (am : Int) := by (rw [wrap_i64_id (by omega) (by omega)]; omega)
                        rw [← ham] at hpe
                        have hf := fsL_sn pre (a, am)
                        have ht := tsL_sn pre (a, am)
                        simp -implicitDefEqProofs only [push_cast, w6, fsL_len, tsL_len, ints_length, seval]
                        (repeat (first | refine ⟨by omega, ?_⟩ | refine ⟨by (unfold drawOk; kernel_rfl), ?_⟩ | refine ⟨by (simp; omega), ?_⟩))
                        skip
                        refine ⟨⟨am, pre ++ [(a, am)], by omega, by omega, by simp; omega, by rw [hpre, hpe]; simp⟩, by simp only; omega, ?_⟩
                        (simp only [OfS.st, hf, ht]; exact Wk.by _ _ _ [(0, 0), (1, 1)] [(50, 212), (51, 248)] [] (by simp) (by simp [wkV, PV.el, PV.weak, PS.get, PS.obj, PS.lv, lkp_hit, lkp_miss, lkp_nil, lko, wkL, wkC, res1]) (by simp [PS.get, PS.obj, PS.lv, lkp_hit, lkp_miss, lkp_nil, lko, wkL, wkC, PV.weak, wkL, wkC, res1]) (by simp [PS.get, PS.obj, PS.lv, lkp_hit, lkp_miss, lkp_nil, lko]) (by rfl) (by rfl) (by simp [lko]) (by simp) (by simp) (by simp) (fun i hi => by rcases i with _ | i <;> first | rfl | (exfalso; omega)))
                    · have g3' : 65536 < m := by simp at g3; omega
                      rw [if_pos (by omega)] at hln
                      rw [hln, if_pos rfl] at hpe
                      rw [hpre, hpe]
                      simp -implicitDefEqProofs only [push_cast, g2, g3, seval]
                      (repeat (first | refine ⟨by omega, ?_⟩ | refine ⟨by (unfold drawOk; kernel_rfl), ?_⟩ | refine ⟨by (simp; omega), ?_⟩))
                      skip
                      (repeat (first | refine ⟨by omega, ?_⟩ | refine ⟨by (unfold drawOk; kernel_rfl), ?_⟩))
                      all_goals first | done | rfl | omega | (unfold drawOk; kernel_rfl) | exact ⟨by (unfold drawOk; kernel_rfl), _, rfl, by simp [wkL, res2, res1, res3, PV.weak, PV.el]⟩ | exact ⟨_, rfl, by simp [wkL, res2, res1, res3, PV.weak, PV.el, ints, fsL, tsL, ofPV]⟩ | simp [wkL, res2, res1, res3, PV.weak, PV.el, ints, fsL, tsL, ofPV] | skip
                  · have g2' : m = 0 := by simp at g2; exact g2
                    rw [if_pos (by omega)] at hln
                    rw [hln, if_pos rfl] at hpe
                    rw [hpre, hpe]
                    simp -implicitDefEqProofs only [push_cast, g2, seval]
                    (repeat (first | refine ⟨by omega, ?_⟩ | refine ⟨by (unfold drawOk; kernel_rfl), ?_⟩ | refine ⟨by (simp; omega), ?_⟩))
                    skip
                    (repeat (first | refine ⟨by omega, ?_⟩ | refine ⟨by (unfold drawOk; kernel_rfl), ?_⟩))
                    all_goals first | done | rfl | omega | (unfold drawOk; kernel_rfl) | exact ⟨by (unfold drawOk; kernel_rfl), _, rfl, by simp [wkL, res2, res1, res3, PV.weak, PV.el]⟩ | exact ⟨_, rfl, by simp [wkL, res2, res1, res3, PV.weak, PV.el, ints, fsL, tsL, ofPV]⟩ | simp [wkL, res2, res1, res3, PV.weak, PV.el, ints, fsL, tsL, ofPV] | skip
                · have g1' : s.length < a + 4 := by simp at g1; omega
                  rw [if_pos g1'] at hpe
                  rw [hpre, hpe]
                  simp -implicitDefEqProofs only [push_cast, w1, seval]
                  (repeat (first | refine ⟨by omega, ?_⟩ | refine ⟨by (unfold drawOk; kernel_rfl), ?_⟩ | refine ⟨by (simp; omega), ?_⟩))
                  skip
                  (repeat (first | refine ⟨by omega, ?_⟩ | refine ⟨by (unfold drawOk; kernel_rfl), ?_⟩))
                  all_goals first | done | rfl | omega | (unfold drawOk; kernel_rfl) | exact ⟨by (unfold drawOk; kernel_rfl), _, rfl, by simp [wkL, res2, res1, res3, PV.weak, PV.el]⟩ | exact ⟨_, rfl, by simp [wkL, res2, res1, res3, PV.weak, PV.el, ints, fsL, tsL, ofPV]⟩ | simp [wkL, res2, res1, res3, PV.weak, PV.el, ints, fsL, tsL, ofPV] | skip
                  all_goals (try omega)
    · have qA : ((s.getD 0 0).toNat : Int) = 108 := by simpa only [beq_eq_false_iff_ne, ne_eq, beq_iff_eq] using kA
      have mA : (((s.getD 0 0).toNat : Int) != 108) = false := by rw [bne, kA]; rfl
      cases kB : (((s.getD 1 0).toNat : Int) == 1)
      · have qB : ¬ (((s.getD 1 0).toNat : Int) = 1) := by simpa only [beq_eq_false_iff_ne, ne_eq, beq_iff_eq] using kB
        have mB : (((s.getD 1 0).toNat : Int) != 1) = true := by rw [bne, kB]; rfl
        have hno : begO s = none := by
          rw [hbo]; first | (simp [qA, qB, -List.getD_eq_getElem?_getD]; done) | (simp [qA, qB, -List.getD_eq_getElem?_getD]; omega)
        rw [hno]
        simp only
        (refine Fsp.ofs (nx := 0) mixed Tryd.func27 rfl (by simp [Tryd.f27]) ?_; simp -implicitDefEqProofs only [push_cast, Tryd.f27, h1, mA, mB, seval])
        (repeat (first | refine ⟨by omega, ?_⟩ | refine ⟨by (unfold drawOk; kernel_rfl), ?_⟩ | refine ⟨by (simp; omega), ?_⟩))
        skip
        (repeat (first | refine ⟨by omega, ?_⟩ | refine ⟨by (unfold drawOk; kernel_rfl), ?_⟩))
        all_goals first | done | rfl | omega | (unfold drawOk; kernel_rfl) | exact ⟨by (unfold drawOk; kernel_rfl), _, rfl, by simp [wkL, res2, res1, res3, PV.weak, PV.el]⟩ | exact ⟨_, rfl, by simp [wkL, res2, res1, res3, PV.weak, PV.el, ints, fsL, tsL, ofPV]⟩ | simp [wkL, res2, res1, res3, PV.weak, PV.el, ints, fsL, tsL, ofPV] | skip
      · have qB : ((s.getD 1 0).toNat : Int) = 1 := by simpa only [beq_eq_false_iff_ne, ne_eq, beq_iff_eq] using kB
        have mB : (((s.getD 1 0).toNat : Int) != 1) = false := by rw [bne, kB]; rfl
        cases kC : (((s.getD 2 0).toNat : Int) == 0)
        · have qC : ¬ (((s.getD 2 0).toNat : Int) = 0) := by simpa only [beq_eq_false_iff_ne, ne_eq, beq_iff_eq] using kC
          have mC : (((s.getD 2 0).toNat : Int) != 0) = true := by rw [bne, kC]; rfl
          have hno : begO s = none := by
            rw [hbo]; first | (simp [qA, qB, qC, -List.getD_eq_getElem?_getD]; done) | (simp [qA, qB, qC, -List.getD_eq_getElem?_getD]; omega)
          rw [hno]
          simp only
          (refine Fsp.ofs (nx := 0) mixed Tryd.func27 rfl (by simp [Tryd.f27]) ?_; simp -implicitDefEqProofs only [push_cast, Tryd.f27, h1, mA, mB, mC, seval])
          (repeat (first | refine ⟨by omega, ?_⟩ | refine ⟨by (unfold drawOk; kernel_rfl), ?_⟩ | refine ⟨by (simp; omega), ?_⟩))
          skip
          (repeat (first | refine ⟨by omega, ?_⟩ | refine ⟨by (unfold drawOk; kernel_rfl), ?_⟩))
          all_goals first | done | rfl | omega | (unfold drawOk; kernel_rfl) | exact ⟨by (unfold drawOk; kernel_rfl), _, rfl, by simp [wkL, res2, res1, res3, PV.weak, PV.el]⟩ | exact ⟨_, rfl, by simp [wkL, res2, res1, res3, PV.weak, PV.el, ints, fsL, tsL, ofPV]⟩ | simp [wkL, res2, res1, res3, PV.weak, PV.el, ints, fsL, tsL, ofPV] | skip
        · have qC : ((s.getD 2 0).toNat : Int) = 0 := by simpa only [beq_eq_false_iff_ne, ne_eq, beq_iff_eq] using kC
          have mC : (((s.getD 2 0).toNat : Int) != 0) = false := by rw [bne, kC]; rfl
          cases kD : (((s.getD 3 0).toNat : Int) == 0)
          · have qD : ¬ (((s.getD 3 0).toNat : Int) = 0) := by simpa only [beq_eq_false_iff_ne, ne_eq, beq_iff_eq] using kD
            have mD : (((s.getD 3 0).toNat : Int) != 0) = true := by rw [bne, kD]; rfl
            have hno : begO s = none := by
              rw [hbo]; first | (simp [qA, qB, qC, qD, -List.getD_eq_getElem?_getD]; done) | (simp [qA, qB, qC, qD, -List.getD_eq_getElem?_getD]; omega)
            rw [hno]
            simp only
            (refine Fsp.ofs (nx := 0) mixed Tryd.func27 rfl (by simp [Tryd.f27]) ?_; simp -implicitDefEqProofs only [push_cast, Tryd.f27, h1, mA, mB, mC, mD, seval])
            (repeat (first | refine ⟨by omega, ?_⟩ | refine ⟨by (unfold drawOk; kernel_rfl), ?_⟩ | refine ⟨by (simp; omega), ?_⟩))
            skip
            (repeat (first | refine ⟨by omega, ?_⟩ | refine ⟨by (unfold drawOk; kernel_rfl), ?_⟩))
            all_goals first | done | rfl | omega | (unfold drawOk; kernel_rfl) | exact ⟨by (unfold drawOk; kernel_rfl), _, rfl, by simp [wkL, res2, res1, res3, PV.weak, PV.el]⟩ | exact ⟨_, rfl, by simp [wkL, res2, res1, res3, PV.weak, PV.el, ints, fsL, tsL, ofPV]⟩ | simp [wkL, res2, res1, res3, PV.weak, PV.el, ints, fsL, tsL, ofPV] | skip
          · have qD : ((s.getD 3 0).toNat : Int) = 0 := by simpa only [beq_eq_false_iff_ne, ne_eq, beq_iff_eq] using kD
            have mD : (((s.getD 3 0).toNat : Int) != 0) = false := by rw [bne, kD]; rfl
            have hyes : begO s = some 0 := by
              rw [hbo]; simp [qA, qB, qC, qD, -List.getD_eq_getElem?_getD]
            rw [hyes]
            simp only
            have kE : (((s.getD 0 0).toNat : Int) == 66) = false := by rw [qA]; rfl
            rw [of_end (o := 0) (s := s) (by omega)]
            (refine Fsp.ofs (nx := 0) mixed Tryd.func27 rfl (by simp [Tryd.f27]) ?_; simp -implicitDefEqProofs only [push_cast, Tryd.f27, h1, kE, mA, mB, mC, mD, seval])
            (repeat (first | refine ⟨by omega, ?_⟩ | refine ⟨by (unfold drawOk; kernel_rfl), ?_⟩ | refine ⟨by (simp; omega), ?_⟩))
            skip
            refine loopC_of (α := OfS 0 s) OfS.st (fun x => s.length - x.a) ⟨4, [], by omega, by omega, by simp, by simp⟩ ?_ ?_
            · (simp only [OfS.st]; exact Wk.by _ _ _ [(0, 0), (1, 4)] [] [50, 51] (by simp) (by simp [wkV, PV.el, PV.weak, PS.get, PS.obj, PS.lv, lkp_hit, lkp_miss, lkp_nil, lko, wkL, wkC, res1, fsL, tsL, ints]) (by simp [PS.get, PS.obj, PS.lv, lkp_hit, lkp_miss, lkp_nil, lko, wkL, wkC, PV.weak, wkL, wkC, res1, fsL, tsL, ints]) (by simp [PS.get, PS.obj, PS.lv, lkp_hit, lkp_miss, lkp_nil, lko]) (by rfl) (by rfl) (by simp [lko]) (by simp) (by simp) (by simp) (fun i hi => by rcases i with _ | i <;> first | rfl | (exfalso; omega)))
            · rintro ⟨a, pre, ha, ha4, hpl, hpre⟩
              have hpe := posA_eq 0 s a ha
              have w1 : IntKind.i64.wrap ((s.length : Int) - (a : Int)) = ((s.length - a : Nat) : Int) := by (rw [wrap_i64_id (by omega) (by omega)]; omega)
              obtain ⟨z, hz⟩ : ∃ z, z = s.length - a := ⟨_, rfl⟩
              rw [← hz] at w1
              simp -implicitDefEqProofs only [push_cast, OfS.st, w1, seval]
              refine condC_split (fun g1 => ?_) (fun g1 => ?_)
              · have g1' : a + 4 ≤ s.length := by simp at g1; omega
                obtain ⟨a2, ha2⟩ : ∃ a2, a2 = a + 2 := ⟨_, rfl⟩
                obtain ⟨a4, hq4⟩ : ∃ a4, a4 = a + 4 := ⟨_, rfl⟩
                have w2 : IntKind.i64.wrap ((a : Int) + 2) = (a2 : Int) := by (rw [wrap_i64_id (by omega) (by omega)]; omega)
                have w4 : IntKind.i64.wrap ((a : Int) + 4) = (a4 : Int) := by (rw [wrap_i64_id (by omega) (by omega)]; omega)
                have hge := get2_fs (o := 0) (.inl rfl) g1'
                have hln := rawN_len (o := 0) (.inl rfl) g1'
                have hlt := rawN_lt (o := 0) (s := s) (a := a)
                have hsl : List.take (a4 - a2) (List.drop a2 s) = List.take 2 (List.drop a2 s) := by rw [show a4 - a2 = 2 by omega]
                rw [← ha2] at hge
                rw [if_neg (by omega)] at hpe
                generalize rawN 0 s a = n at *
                obtain ⟨m, hm⟩ : ∃ m, m = 4 * n := ⟨_, rfl⟩
                have w5 : IntKind.i64.wrap (4 * (n : Int)) = (m : Int) := by (rw [wrap_i64_id (by omega) (by omega)]; omega)
                rw [← hm] at hln
                simp -implicitDefEqProofs only [push_cast, w2, w4, hsl, seval]
                (repeat (first | refine ⟨by omega, ?_⟩ | refine ⟨by (unfold drawOk; kernel_rfl), ?_⟩ | refine ⟨by (simp; omega), ?_⟩))
                refine callE_p hge ?_
                simp -implicitDefEqProofs only [push_cast, w5, seval]
                (repeat (first | refine ⟨by omega, ?_⟩ | refine ⟨by (unfold drawOk; kernel_rfl), ?_⟩ | refine ⟨by (simp; omega), ?_⟩))
                cases g2 : ((m : Int) == 0)
                · have g2' : m ≠ 0 := by simp at g2; exact g2
                  cases g3 : decide ((65536 : Int) < (m : Int))
                  · have g3' : m ≤ 65536 := by simp at g3; omega
                    rw [if_neg (by omega)] at hln
                    rw [hln, if_neg g2'] at hpe
                    simp -implicitDefEqProofs only [push_cast, g2, g3, seval]
                    skip
                    refine condC_split (fun g4 => ?_) (fun g4 => ?_)
                    · have g4' : s.length < a + m := by simp at g4; omega
                      rw [if_pos g4'] at hpe
                      rw [hpre, hpe]
                      simp -implicitDefEqProofs only [push_cast, w1, List.append_nil, if_neg, seval]
                      (repeat (first | refine ⟨by omega, ?_⟩ | refine ⟨by (unfold drawOk; kernel_rfl), ?_⟩ | refine ⟨by (simp; omega), ?_⟩))
                      skip
                      (repeat (first | refine ⟨by omega, ?_⟩ | refine ⟨by (unfold drawOk; kernel_rfl), ?_⟩))
                      all_goals first | done | rfl | omega | (unfold drawOk; kernel_rfl) | exact ⟨by (unfold drawOk; kernel_rfl), _, rfl, by simp [wkL, res2, res1, res3, PV.weak, PV.el]⟩ | exact ⟨_, rfl, by simp [wkL, res2, res1, res3, PV.weak, PV.el, ints, fsL, tsL, ofPV]⟩ | simp [wkL, res2, res1, res3, PV.weak, PV.el, ints, fsL, tsL, ofPV] | skip
                      all_goals (try omega)
                    · have g4' : ¬ s.length < a + m := by simp at g4; omega
                      rw [if_neg g4'] at hpe
                      obtain ⟨am, ham⟩ : ∃ am, am = a + m := ⟨_, rfl⟩
                      have w6 : IntKind.i64.wrap ((a : Int) + (m : Int)) = (am : Int) := by (rw [wrap_i64_id (by omega) (by omega)]; omega)
                      rw [← ham] at hpe
                      have hf := fsL_sn pre (a, am)
                      have ht := tsL_sn pre (a, am)
                      simp -implicitDefEqProofs only [push_cast, w6, fsL_len, tsL_len, ints_length, seval]
                      (repeat (first | refine ⟨by omega, ?_⟩ | refine ⟨by (unfold drawOk; kernel_rfl), ?_⟩ | refine ⟨by (simp; omega), ?_⟩))
                      skip
                      refine ⟨⟨am, pre ++ [(a, am)], by omega, by omega, by simp; omega, by rw [hpre, hpe]; simp⟩, by simp only; omega, ?_⟩
                      (simp only [OfS.st, hf, ht]; exact Wk.by _ _ _ [(0, 0), (1, 1)] [(50, 212), (51, 248)] [] (by simp) (by simp [wkV, PV.el, PV.weak, PS.get, PS.obj, PS.lv, lkp_hit, lkp_miss, lkp_nil, lko, wkL, wkC, res1]) (by simp [PS.get, PS.obj, PS.lv, lkp_hit, lkp_miss, lkp_nil, lko, wkL, wkC, PV.weak, wkL, wkC, res1]) (by simp [PS.get, PS.obj, PS.lv, lkp_hit, lkp_miss, lkp_nil, lko]) (by rfl) (by rfl) (by simp [lko]) (by simp) (by simp) (by simp) (fun i hi => by rcases i with _ | i <;> first | rfl | (exfalso; omega)))
                  · have g3' : 65536 < m := by simp at g3; omega
                    rw [if_pos (by omega)] at hln
                    rw [hln, if_pos rfl] at hpe
                    rw [hpre, hpe]
                    simp -implicitDefEqProofs only [push_cast, g2, g3, seval]
                    (repeat (first | refine ⟨by omega, ?_⟩ | refine ⟨by (unfold drawOk; kernel_rfl), ?_⟩ | refine ⟨by (simp; omega), ?_⟩))
                    skip
                    (repeat (first | refine ⟨by omega, ?_⟩ | refine ⟨by (unfold drawOk; kernel_rfl), ?_⟩))
                    all_goals first | done | rfl | omega | (unfold drawOk; kernel_rfl) | exact ⟨by (unfold drawOk; kernel_rfl), _, rfl, by simp [wkL, res2, res1, res3, PV.weak, PV.el]⟩ | exact ⟨_, rfl, by simp [wkL, res2, res1, res3, PV.weak, PV.el, ints, fsL, tsL, ofPV]⟩ | simp [wkL, res2, res1, res3, PV.weak, PV.el, ints, fsL, tsL, ofPV] | skip
                · have g2' : m = 0 := by simp at g2; exact g2
                  rw [if_pos (by omega)] at hln
                  rw [hln, if_pos rfl] at hpe
                  rw [hpre, hpe]
                  simp -implicitDefEqProofs only [push_cast, g2, seval]
                  (repeat (first | refine ⟨by omega, ?_⟩ | refine ⟨by (unfold drawOk; kernel_rfl), ?_⟩ | refine ⟨by (simp; omega), ?_⟩))
                  skip
                  (repeat (first | refine ⟨by omega, ?_⟩ | refine ⟨by (unfold drawOk; kernel_rfl), ?_⟩))
                  all_goals first | done | rfl | omega | (unfold drawOk; kernel_rfl) | exact ⟨by (unfold drawOk; kernel_rfl), _, rfl, by simp [wkL, res2, res1, res3, PV.weak, PV.el]⟩ | exact ⟨_, rfl, by simp [wkL, res2, res1, res3, PV.weak, PV.el, ints, fsL, tsL, ofPV]⟩ | simp [wkL, res2, res1, res3, PV.weak, PV.el, ints, fsL, tsL, ofPV] | skip
              · have g1' : s.length < a + 4 := by simp at g1; omega
                rw [if_pos g1'] at hpe
                rw [hpre, hpe]
                simp -implicitDefEqProofs only [push_cast, w1, seval]
                (repeat (first | refine ⟨by omega, ?_⟩ | refine ⟨by (unfold drawOk; kernel_rfl), ?_⟩ | refine ⟨by (simp; omega), ?_⟩))
                skip
                (repeat (first | refine ⟨by omega, ?_⟩ | refine ⟨by (unfold drawOk; kernel_rfl), ?_⟩))
                all_goals first | done | rfl | omega | (unfold drawOk; kernel_rfl) | exact ⟨by (unfold drawOk; kernel_rfl), _, rfl, by simp [wkL, res2, res1, res3, PV.weak, PV.el]⟩ | exact ⟨_, rfl, by simp [wkL, res2, res1, res3, PV.weak, PV.el, ints, fsL, tsL, ofPV]⟩ | simp [wkL, res2, res1, res3, PV.weak, PV.el, ints, fsL, tsL, ofPV] | skip
                all_goals (try omega)
  · have h1' : s.length < 4 := by simp at h1; omega
    unfold ofR ofL stO
    rw [if_pos h1', if_pos h1']
    (refine Fsp.ofs (nx := 0) mixed Tryd.func27 rfl (by simp [Tryd.f27]) ?_; simp -implicitDefEqProofs only [push_cast, Tryd.f27, h1, seval])
    skip
    (repeat (first | refine ⟨by omega, ?_⟩ | refine ⟨by (unfold drawOk; kernel_rfl), ?_⟩))
    all_goals first | done | rfl | omega | (unfold drawOk; kernel_rfl) | exact ⟨by (unfold drawOk; kernel_rfl), _, rfl, by simp [wkL, res2, res1, res3, PV.weak, PV.el]⟩ | exact ⟨_, rfl, by simp [wkL, res2, res1, res3, PV.weak, PV.el, ints, fsL, tsL, ofPV]⟩ | simp [wkL, res2, res1, res3, PV.weak, PV.el, ints, fsL, tsL, ofPV] | skip

end Go.Proofs.Sh

/- The law's look at a stream's state. -/
set_option maxRecDepth 100000
set_option linter.unusedSimpArgs false
set_option linter.unusedVariables false
namespace Go.Proofs.Sh
open Go.Pv

theorem stO_len (a : List UInt8) : (stO a).r.length ≤ a.length := by
  unfold stO
  split
  · exact Nat.le_refl _
  · split
    · have := cutS_rest (o := ‹Int›) (a.drop 4).length (a.drop 4) (Nat.le_refl _)
      rw [List.length_drop] at this
      exact Nat.le_trans this (Nat.sub_le _ _)
    · exact Nat.zero_le _
theorem state_fs (a : List UInt8) (ha : a.length ≤ 900000) : Fsp Tryd.prog 30 [] 0 [(stO a).pv, ofR a] [] 0 (.bool true) := by
  have hl := stO_len a
  have hO := order_fs (stO a)
  have hD := dead_fs (stO a)
  have hR := rest_fs (stO a) (by omega)
  unfold ofR
  generalize stO a = t at *
  obtain ⟨b, d, o, r⟩ := t
  simp only [Sm.pv] at *
  (refine Fsp.ofs (nx := 0) mixed Tryd.func30 rfl (by simp [Tryd.f30]) ?_; simp -implicitDefEqProofs only [push_cast, Tryd.f30, ofPV, beq_self_eq_true, seval])
  refine callE_p hO ?_
  simp -implicitDefEqProofs only [push_cast, beq_self_eq_true, seval]
  (repeat (first | refine ⟨by omega, ?_⟩ | refine ⟨by (unfold drawOk; kernel_rfl), ?_⟩ | refine ⟨by (simp; omega), ?_⟩))
  refine callE_p hD ?_
  simp -implicitDefEqProofs only [push_cast, beq_self_eq_true, seval]
  (repeat (first | refine ⟨by omega, ?_⟩ | refine ⟨by (unfold drawOk; kernel_rfl), ?_⟩ | refine ⟨by (simp; omega), ?_⟩))
  refine callE_p hR ?_
  simp -implicitDefEqProofs only [push_cast, beq_self_eq_true, seval]
  (repeat (first | refine ⟨by omega, ?_⟩ | refine ⟨by (unfold drawOk; kernel_rfl), ?_⟩ | refine ⟨by (simp; omega), ?_⟩))
  all_goals first | done | (unfold drawOk; kernel_rfl) | exact ⟨by (unfold drawOk; kernel_rfl), _, rfl, by simp [wkL, res1, PV.weak]⟩
/-- What comes next. -/
theorem feed_next (a b : List UInt8) : (feedS (stO a) b).1 = stO (a ++ b) ∧ itO (a ++ b) = itO a ++ (feedS (stO a) b).2 := by
  by_cases h4 : a.length < 4
  · have e1 : stO a = ⟨false, false, 0, a⟩ := by rw [stO, if_pos h4]
    have e2 : itO a = [] := by rw [itO, if_pos h4]
    have e3 : feedS ⟨false, false, 0, a⟩ b = feedS ⟨false, false, 0, []⟩ (a ++ b) := by unfold feedS; rfl
    rw [e1, e2, e3, feed_O]; exact ⟨rfl, rfl⟩
  · have h4' : ¬ (a ++ b).length < 4 := by rw [List.length_append]; omega
    have hb : begO (a ++ b) = begO a := by
      unfold begO
      rw [List.take_append_of_le_length (by omega)]
    have hd : (a ++ b).drop 4 = a.drop 4 ++ b := List.drop_append_of_le_length (by omega)
    unfold stO itO
    rw [if_neg h4, if_neg h4', if_neg h4, if_neg h4', hb, hd]
    cases begO a with
    | none => exact ⟨rfl, rfl⟩
    | some o =>
      simp only
      have hc := cutS_app o b (a.drop 4).length (a.drop 4) (Nat.le_refl _)
      cases hde : (cutS o (a.drop 4)).2.2 with
      | true =>
        rw [hde, if_pos rfl] at hc
        rw [hc]
        have := cutS_dead _ _ (Nat.le_refl _) hde
        unfold feedS
        rw [if_pos rfl, this]
        exact ⟨rfl, by simp⟩
      | false =>
        rw [hde, if_neg Bool.false_ne_true] at hc
        rw [hc]
        unfold feedS
        rw [if_neg Bool.false_ne_true]
        have hbg : beginS ⟨true, false, o, (cutS o (a.drop 4)).2.1 ++ b⟩ = ⟨true, false, o, (cutS o (a.drop 4)).2.1 ++ b⟩ := rfl
        simp only [hbg]
        rw [if_pos trivial, runS_cut]
        simp only [Bool.false_or]
        constructor
        · cases h2 : (cutS o ((cutS o (a.drop 4)).2.1 ++ b)).2.2 with
          | true => simp only [if_true]; rw [cutS_dead _ _ (Nat.le_refl _) h2]
          | false => simp
        · rw [List.map_append]
theorem cut_mem {o : Int} : ∀ (n : Nat) (r : List UInt8), r.length ≤ n → ∀ p ∈ (cutS o r).1, p.length ≤ r.length
  | n, r, hn, p, hp => by
    rw [cutS_eq] at hp
    split at hp
    · cases hp
    · split at hp
      · cases hp
      · split at hp
        · cases hp
        · rcases List.mem_cons.1 hp with rfl | hp
          · rw [List.length_take]; omega
          · have := cut_mem (o := o) (n - 1) (r.drop (lenR o r).1.toNat) (by rw [List.length_drop]; omega) p hp
            rw [List.length_drop] at this
            omega
  termination_by n => n
  decreasing_by omega
theorem cut_len {o : Int} : ∀ (n : Nat) (r : List UInt8), r.length ≤ n → (cutS o r).1.length ≤ r.length
  | n, r, hn => by
    rw [cutS_eq]
    split
    · exact Nat.zero_le _
    · split
      · exact Nat.zero_le _
      · split
        · exact Nat.zero_le _
        · have := cut_len (o := o) (n - 1) (r.drop (lenR o r).1.toNat) (by rw [List.length_drop]; omega)
          rw [List.length_drop] at this
          rw [List.length_cons]
          omega
  termination_by n => n
  decreasing_by omega
theorem itO_few (a : List UInt8) (ha : a.length ≤ 900000) : ∀ x ∈ itO a, x.R.Few := by
  unfold itO
  split
  · intro x hx; cases hx
  · split
    · intro x hx
      obtain ⟨p, hp, rfl⟩ := List.mem_map.1 hx
      refine itemOf_few _ _ ?_
      have := cut_mem _ _ (Nat.le_refl _) p hp
      rw [List.length_drop] at this
      omega
    · intro x hx; cases hx
theorem itO_len (a : List UInt8) : (itO a).length ≤ a.length := by
  unfold itO
  split
  · exact Nat.zero_le _
  · split
    · rw [List.length_map]
      have := cut_len (o := ‹Int›) _ (a.drop 4) (Nat.le_refl _)
      rw [List.length_drop] at this
      omega
    · exact Nat.zero_le _
theorem feed_sub {a b : List UInt8} {x : It} (h : x ∈ (feedS (stO a) b).2) : x ∈ itO (a ++ b) := by
  rw [(feed_next a b).2]; exact List.mem_append_right _ h
theorem feed_len (a b : List UInt8) : (feedS (stO a) b).2.length ≤ (a ++ b).length := by
  have := itO_len (a ++ b)
  rw [(feed_next a b).2, List.length_append] at this
  omega

end Go.Proofs.Sh

/- Streams: requests that are put, one behind the other. Plain. -/
set_option maxRecDepth 100000
set_option linter.unusedSimpArgs false
set_option linter.unusedVariables false
namespace Go.Proofs.Sh
open Go.Pv
def gdR (o : Int) (X : List Rq) : List Rq := X.filter fun x => (packS o x).2 == 0
def catR (o : Int) (R : List Rq) : List UInt8 := R.flatMap fun x => (packS o x).1
def rqL (X : List Rq) : List PV := X.map Rq.pv
theorem rqL_length (X : List Rq) : (rqL X).length = X.length := List.length_map _
theorem rq_at {X : List Rq} {i : Nat} (h : i < X.length) : (rqL X).getD i PV.any = (X.getD i rq0).pv := by
  rw [rqL, List.getD_eq_getElem?_getD, List.getElem?_map, List.getElem?_eq_getElem h, List.getD_eq_getElem?_getD, List.getElem?_eq_getElem h]; rfl
theorem rtake_sn {X : List Rq} {i : Nat} (h : i < X.length) : X.take (i + 1) = X.take i ++ [X.getD i rq0] := by
  rw [List.take_succ_eq_append_getElem h, List.getD_eq_getElem?_getD, List.getElem?_eq_getElem h]; rfl
theorem gdR_bad {o : Int} {X : List Rq} {x : Rq} (h : ((packS o x).2 == 0) = false) : gdR o (X ++ [x]) = gdR o X := by
  rw [gdR, List.filter_append, List.filter_cons, h]; simp [gdR]
theorem gdR_ok {o : Int} {X : List Rq} {x : Rq} (h : ((packS o x).2 == 0) = true) : gdR o (X ++ [x]) = gdR o X ++ [x] := by
  rw [gdR, List.filter_append, List.filter_cons, h]; simp [gdR]
theorem gdR_len (o : Int) (X : List Rq) : (gdR o X).length ≤ X.length := List.length_filter_le ..
theorem gdR_mem {o : Int} {X : List Rq} {x : Rq} (h : x ∈ gdR o X) : (packS o x).2 = 0 := by
  simpa using (List.mem_filter.1 h).2
theorem catR_sn (o : Int) (R : List Rq) (x : Rq) : catR o (R ++ [x]) = catR o R ++ (packS o x).1 := by simp [catR]
theorem catR_cons (o : Int) (x : Rq) (R : List Rq) : catR o (x :: R) = (packS o x).1 ++ catR o R := rfl
theorem catR_len (o : Int) : ∀ (R : List Rq), (∀ x ∈ R, (packS o x).2 = 0) → (catR o R).length ≤ R.length * 65536
  | [], _ => by simp [catR]
  | x :: R, h => by
    have h1 := catR_len o R (fun y hy => h y (List.mem_cons_of_mem _ hy))
    have h2 := (put_get (h x (List.mem_cons_self ..))).2.2.2.2
    rw [catR_cons, List.length_append, List.length_cons]
    omega
/-- A put request says how long it is, whatever comes behind it. -/
theorem len_put {o : Int} {x : Rq} (h : (packS o x).2 = 0) (B : List UInt8) : lenR o ((packS o x).1 ++ B) = (((packS o x).1.length : Int), 0) := by
  obtain ⟨-, h1, h2, -, -⟩ := put_get h
  have e : (packS o x).1 ++ B = (packS o x).1.take 4 ++ ((packS o x).1.drop 4 ++ B) := by
    rw [← List.append_assoc, List.take_append_drop]
  rw [e, lenR_app (by rw [List.length_take]; omega), h1]
theorem cut_put {o : Int} {x : Rq} (h : (packS o x).2 = 0) (B : List UInt8) : cutS o ((packS o x).1 ++ B) = ((packS o x).1 :: (cutS o B).1, (cutS o B).2) := by
  obtain ⟨-, h1, h2, -, -⟩ := put_get h
  have hl := len_put h B
  rw [cutS_eq, hl, if_neg (by rw [List.length_append]; omega)]
  have e : ((packS o x).1.length : Int).toNat = (packS o x).1.length := Int.toNat_natCast _
  simp only [e]
  rw [if_neg (by omega), if_neg (by rw [List.length_append]; omega), List.take_left, List.drop_left]
theorem cut_cat {o : Int} (B : List UInt8) : ∀ (R : List Rq), (∀ x ∈ R, (packS o x).2 = 0) → cutS o (catR o R ++ B) = (R.map (fun x => (packS o x).1) ++ (cutS o B).1, (cutS o B).2)
  | [], _ => rfl
  | x :: R, h => by
    have ih := cut_cat B R (fun y hy => h y (List.mem_cons_of_mem _ hy))
    rw [catR_cons, List.append_assoc, cut_put (h x (List.mem_cons_self ..)), ih]; rfl
theorem item_put {o : Int} {x : Rq} (h : (packS o x).2 = 0) : itemOf o (packS o x).1 = ⟨x, 0, x.C⟩ := by
  rw [itemOf, (put_get h).1, if_pos rfl]
theorem begO_bgn {o : Int} (ho : o = 0 ∨ o = 1) (B : List UInt8) : begO (bgn o ++ B) = some o ∧ (bgn o ++ B).drop 4 = B ∧ ¬ (bgn o ++ B).length < 4 := by
  rcases ho with rfl | rfl
  · exact ⟨rfl, rfl, by simp [bgn, beg0]⟩
  · exact ⟨rfl, rfl, by simp [bgn, beg1]⟩
theorem st_cat {o : Int} (ho : o = 0 ∨ o = 1) {R : List Rq} (hR : ∀ x ∈ R, (packS o x).2 = 0) (B : List UInt8) :
    stO (bgn o ++ (catR o R ++ B)) = ⟨true, (cutS o B).2.2, o, (cutS o B).2.1⟩ ∧ itO (bgn o ++ (catR o R ++ B)) = R.map (fun x => (⟨x, 0, x.C⟩ : It)) ++ (cutS o B).1.map (itemOf o) := by
  obtain ⟨h1, h2, h3⟩ := begO_bgn ho (catR o R ++ B)
  unfold stO itO
  rw [if_neg h3, if_neg h3, h1, h2]
  simp only
  rw [cut_cat B R hR]
  refine ⟨rfl, ?_⟩
  simp only
  rw [List.map_append, List.map_map]
  congr 1
  exact List.map_congr_left fun x hx => item_put (hR x hx)
end Go.Proofs.Sh

/- Small lists of bytes as slices; items one behind the other. Plain. -/
namespace Go.Proofs.Sh
open Go.Pv
def u8s (l : List Nat) : List PV := l.map fun (n : Nat) => .int .u8 (n : Int)
theorem u8s_length (l : List Nat) : (u8s l).length = l.length := List.length_map _
theorem u8s_at {l : List Nat} {i : Nat} (h : i < l.length) : (u8s l).getD i PV.any = .int .u8 (l.getD i 0 : Nat) := by
  rw [u8s, List.getD_eq_getElem?_getD, List.getElem?_map, List.getElem?_eq_getElem h, List.getD_eq_getElem?_getD, List.getElem?_eq_getElem h]; rfl
theorem itL_app (a b : List It) : itL (a ++ b) = itL a ++ itL b := List.map_append
theorem sm_pv (s : Sm) : s.pv = .agg [.bool s.b, .bool s.d, .int .i64 s.o, .str s.r] := rfl
theorem stO_nil : stO [] = ⟨false, false, 0, []⟩ := rfl
theorem itO_nil : itO [] = [] := rfl
def itR (R : List Rq) : List It := R.map fun x => (⟨x, 0, x.C⟩ : It)
theorem itR_len (R : List Rq) : (itR R).length = R.length := List.length_map _
theorem ask_st {o : Int} (ho : o = 0 ∨ o = 1) {R : List Rq} (hR : ∀ x ∈ R, (packS o x).2 = 0) :
    stO (bgn o ++ catR o R) = ⟨true, false, o, []⟩ ∧ itO (bgn o ++ catR o R) = itR R := by
  obtain ⟨h1, h2⟩ := st_cat ho hR []
  rw [List.append_nil] at h1 h2
  have e : cutS o [] = ([], [], false) := rfl
  rw [e] at h1 h2
  exact ⟨h1, by rw [h2]; simp [itR]⟩
end Go.Proofs.Sh
