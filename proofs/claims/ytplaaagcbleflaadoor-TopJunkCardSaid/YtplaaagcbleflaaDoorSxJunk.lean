/- Package stream: Feed, its items with their spare room; of a stream that has not begun. -/
import Derived.Test.YtplaaagcbleflaaDoorSxFeed
import Derived.Test.YtplaaagcbleflaaDoorSxState
import Derived.Test.YtplaaagcbleflaaDoorPvXe
set_option maxRecDepth 100000
set_option linter.unusedSimpArgs false
set_option linter.unusedVariables false
namespace Go.Proofs.Sh
open Go.Pv

set_option maxHeartbeats 8000000 in
theorem feedT_fs (s : Sm) (b : List UInt8) (hb : (s.r ++ b).length ≤ 900000) (hd : s.d = false) (hbb : (beginS ⟨s.b, s.d, s.o, s.r ++ b⟩).b = true) : Fsp Tryd.prog 13 [] 0 [s.pv, .str b] [] 1 (.tup [(feedS s b).1.pv, .slt 6 (itL (feedS s b).2) 0]) := by
  have hbg := begin_fs ⟨s.b, s.d, s.o, s.r ++ b⟩
  have hbl : (beginS ⟨s.b, s.d, s.o, s.r ++ b⟩).r.length ≤ 900000 := by
    unfold beginS
    split
    · exact hb
    · split
      · exact hb
      · split
        · simp at hb ⊢; omega
        · split
          · simp at hb ⊢; omega
          · simp
  unfold feedS
  generalize beginS ⟨s.b, s.d, s.o, s.r ++ b⟩ = t at *
  obtain ⟨tb, td, tO, tr⟩ := t
  obtain ⟨sb, sd, so, sr⟩ := s
  simp only [Sm.pv] at hbg
  simp only at hbl hb ⊢
  simp only at hd hbb
  subst hd
  rw [if_neg Bool.false_ne_true]
  cases tb with
  | false => cases hbb
  | true =>
      rw [if_pos rfl, runS]
      simp only
      have hrq := requests_fs tO tr
      (refine Fsp.of (nx := 0) mixed Tryd.func13 rfl (by decide) (by first | exact Nat.le_refl _ | simp) (by simp [Tryd.f13]) ⟨by decide, by decide⟩ ?_; simp -implicitDefEqProofs only [push_cast, Tryd.f13, Sm.pv, Int.reduceBEq, Int.reduceBNe, Int.reduceEq, Int.reduceNe, Int.reducePow, Nat.reduceAdd, Nat.reduceMul, Nat.reduceSub, Nat.reduceLT, Nat.reduceLeDiff, Nat.reduceEqDiff, Nat.reduceBEq, Int.reduceLT, Int.reduceLE, Int.reduceAdd, Int.reduceSub, Int.reduceMul, Int.reduceToNat, Int.reduceNeg, reduceIte, reduceCtorEq, reduceBEq])
      (repeat (first | refine ⟨by omega, ?_⟩ | refine ⟨by (simp only [List.length_append] at *; omega), ?_⟩ | refine ⟨by (unfold drawOk; kernel_rfl), ?_⟩))
      refine callE_pure hbg (by rfl) (by rfl) (by rfl) (by decide) (by rfl) (fun _ => by rfl) (by first | rfl | simp [gdOk, newToks]) ?_
      simp -implicitDefEqProofs only [push_cast, Int.reduceBEq, Int.reduceBNe, Int.reduceEq, Int.reduceNe, Int.reducePow, Nat.reduceAdd, Nat.reduceMul, Nat.reduceSub, Nat.reduceLT, Nat.reduceLeDiff, Nat.reduceEqDiff, Nat.reduceBEq, Int.reduceLT, Int.reduceLE, Int.reduceAdd, Int.reduceSub, Int.reduceMul, Int.reduceToNat, Int.reduceNeg, reduceIte, reduceCtorEq, reduceBEq]
      refine callE_pure hrq (by rfl) (by rfl) (by rfl) (by decide) (by rfl) (fun _ => by rfl) (by first | rfl | simp [gdOk, newToks]) ?_
      simp -implicitDefEqProofs only [push_cast, Int.reduceBEq, Int.reduceBNe, Int.reduceEq, Int.reduceNe, Int.reducePow, Nat.reduceAdd, Nat.reduceMul, Nat.reduceSub, Nat.reduceLT, Nat.reduceLeDiff, Nat.reduceEqDiff, Nat.reduceBEq, Int.reduceLT, Int.reduceLE, Int.reduceAdd, Int.reduceSub, Int.reduceMul, Int.reduceToNat, Int.reduceNeg, reduceIte, reduceCtorEq, reduceBEq]
      have hval := rdsB_val (o := tO) (s := tr) (by omega)
      refine PWP.weak (T := feedT td tO tr []) ?_ (PWP.rangeFunc (α := Bx) mixed (k := 4) (e0 := 0) (fun pre => feedT td tO tr (pre.map Subtype.val)) (fun pre => feedU td tO tr (pre.map Subtype.val)) (fun pre => (pre.map Subtype.val).all (rgood tr) = true) (fun pre => ∃ pre' x, pre.map Subtype.val = pre' ++ [x] ∧ pre'.all (rgood tr) = true ∧ rgood tr x = false) (rdsB tO tr)
        (fun x => #[.int .i64 (x.1.1 : Int), .int .i64 (x.1.2 : Int)]) (fun x => feedF x.1) (fun x => feedX x.1) (tr.length + 1) (by omega) (E := feedE tO tr) (fun _ => rfl) (fun _ => rfl) (fun _ => rfl) (fun _ => rfl) (feedE_keep tO tr) ?ho (fun _ => feedT_rows _ _ _ _) (fun _ => feedT_rows _ _ _ _) rfl ?hpc (enters_of Tryd.func48 (by kernel_rfl) rfl)
        (fun _ => rfl) (fun x t h => by simpa [feedF] using h) ?hX ?hA (fun h w lb hH hgl hls hlr => req_stops hgl (by omega) hls hlr w hH) rfl (by kernel_rfl) ?hB ?hQ1 ?hQ2)
      case ho =>
        intro pre i hi
        rcases i with _ | _ | _ | _ | i <;> first | (exfalso; omega) | simp [feedT, PS.obj, lkp]
      case hpc =>
        intro p hp g v r
        simp at hp
        rcases hp with rfl | rfl <;> exact r.loc_inv
      case hX =>
        rintro ⟨x, hx⟩ g t ht h
        have ht' : 69 ≤ t.size := ht
        exact rel_set (rel_set (rel_set (rel_set h (by omega) (.pure _ _ (.int _ _))) (by simp; omega) (.pure _ _ (.int _ _))) (by simp; omega) (.pure _ _ (.int _ _))) (by simp; omega) (.pure _ _ (.int _ _))
      case hA =>
        rintro t l ⟨x, hx⟩ W K ht hK
        have ht' : 69 ≤ t.size := ht
        rw [show (#[(29 : Tmp), 30].zip #[Value.int .i64 (x.1 : Int), Value.int .i64 (x.2 : Int)]).foldl (fun t (p, v) => t.setIfInBounds p v) t = (t.setIfInBounds 29 (.int .i64 x.1)).setIfInBounds 30 (.int .i64 x.2) from by first | rfl | simp | simp [Array.zip, Array.zipWith] | (rw [← Array.foldl_toList]; simp)]
        refine wpIn_seq (asg_round (v := .int .i64 x.1) ?_ (asg_round (v := .int .i64 x.2) ?_ hK))
        · simp [Act.eval, show 29 < t.size by omega, Array.getElem?_setIfInBounds]
        · simp [Act.eval, show 30 < t.size by omega, Array.getElem?_setIfInBounds]
      case hB =>
        rintro pre ⟨x, hx1, hx2⟩ hG hlen
        have hlen' : (pre.map Subtype.val).length ≤ 900000 := by rw [List.length_map]; omega
        have hmap : (pre ++ [(⟨x, hx1, hx2⟩ : Bx)]).map Subtype.val = pre.map Subtype.val ++ [x] := by simp
        unfold rfK
        simp only [hmap]
        generalize pre.map Subtype.val = pre at *
        simp only [feedT, feedX, feedE, List.cons_append, List.nil_append]
        cases h1 : ((x.2 : Int) == 0)
        · have h1' : x.2 ≠ 0 := by simp at h1; omega
          cases h2 : decide ((tr.length : Int) < (x.1 : Int) + (x.2 : Int))
          · have h2' : x.1 + x.2 ≤ tr.length := by simp at h2; omega
            have hgx := rgood_of h1' h2'
            have hpl : (rpiece tr x).length = x.2 := by simp [rpiece]; omega
            have hit := item_fs tO (rpiece tr x) (by omega) (by omega)
            have hw : IntKind.i64.wrap ((x.1 : Int) + (x.2 : Int)) = ((x.1 + x.2 : Nat) : Int) := by (rw [wrap_i64_id (by omega) (by omega)]; rfl)
            have hsn := ritems_sn tO tr pre x
            have hdn := rdone_sn x pre
            have hrp : List.take (x.1 + x.2 - x.1) (List.drop x.1 tr) = rpiece tr x := by rw [rpiece, show x.1 + x.2 - x.1 = x.2 by omega]
            obtain ⟨e, he⟩ : ∃ e, e = x.1 + x.2 := ⟨_, rfl⟩
            rw [← he] at hw hrp h2' hdn
            have hG2 : (pre ++ [x]).all (rgood tr) = true := by rw [List.all_append, hG]; simp [hgx]
            generalize rpiece tr x = pc at *
            generalize itemOf tO pc = it at *
            simp only [It.pv] at hit hsn
            have h2e : decide ((tr.length : Int) < (e : Int)) = false := by simp; omega
            simp -implicitDefEqProofs only [push_cast, h1, hw, h2e, hrp, itL_length, ritems_length, Int.reduceBEq, Int.reduceBNe, Int.reduceEq, Int.reduceNe, Int.reducePow, Nat.reduceAdd, Nat.reduceMul, Nat.reduceSub, Nat.reduceLT, Nat.reduceLeDiff, Nat.reduceEqDiff, Nat.reduceBEq, Int.reduceLT, Int.reduceLE, Int.reduceAdd, Int.reduceSub, Int.reduceMul, Int.reduceToNat, Int.reduceNeg, reduceIte, reduceCtorEq, reduceBEq]
            (repeat (first | refine ⟨by omega, ?_⟩ | refine ⟨by (simp only [List.length_append] at *; omega), ?_⟩ | refine ⟨by (unfold drawOk; kernel_rfl), ?_⟩))
            refine callE_pure hit (by rfl) (by rfl) (by rfl) (by decide) (by rfl) (fun _ => by rfl) (by first | rfl | simp [gdOk, newToks]) ?_
            simp -implicitDefEqProofs only [push_cast, h1, hw, h2e, hrp, itL_length, ritems_length, Int.reduceBEq, Int.reduceBNe, Int.reduceEq, Int.reduceNe, Int.reducePow, Nat.reduceAdd, Nat.reduceMul, Nat.reduceSub, Nat.reduceLT, Nat.reduceLeDiff, Nat.reduceEqDiff, Nat.reduceBEq, Int.reduceLT, Int.reduceLE, Int.reduceAdd, Int.reduceSub, Int.reduceMul, Int.reduceToNat, Int.reduceNeg, reduceIte, reduceCtorEq, reduceBEq]
            (repeat (first | refine ⟨by omega, ?_⟩ | refine ⟨by (simp only [List.length_append] at *; omega), ?_⟩ | refine ⟨by (unfold drawOk; kernel_rfl), ?_⟩))
            skip
            first | refine ⟨hG2, ?_⟩ | skip
            (simp only [feedT, hsn, hdn]; exact Wk.by _ _ _ [(0, 0), (1, 1), (2, 2), (3, 3)] [(50, 152)] [] (by simp) (by simp [wkV, PV.el, PV.weak, PS.get, PS.obj, PS.lv, lkp_hit, lkp_miss, lkp_nil, lko, wkL, wkC, res1]) (by simp [PS.get, PS.obj, PS.lv, lkp_hit, lkp_miss, lkp_nil, lko, wkL, wkC, PV.weak, wkL, wkC, res1]) (by simp [PS.get, PS.obj, PS.lv, lkp_hit, lkp_miss, lkp_nil, lko]) (by rfl) (by rfl) (by simp [lko]) (by simp) (by simp) (by simp) (fun i hi => by rcases i with _ | _ | _ | _ | i <;> first | rfl | (exfalso; omega)))
          · have h2' : ¬ x.1 + x.2 ≤ tr.length := by simp at h2; omega
            have hgx : rgood tr x = false := by simp [rgood, h2']
            have hw : IntKind.i64.wrap ((x.1 : Int) + (x.2 : Int)) = (x.1 : Int) + (x.2 : Int) := wrap_i64_id (by omega) (by omega)
            have hud : udead td (pre ++ [x]) = td := by rw [udead_sn]; simp [h1']
            simp -implicitDefEqProofs only [push_cast, h1, hw, h2, Int.reduceBEq, Int.reduceBNe, Int.reduceEq, Int.reduceNe, Int.reducePow, Nat.reduceAdd, Nat.reduceMul, Nat.reduceSub, Nat.reduceLT, Nat.reduceLeDiff, Nat.reduceEqDiff, Nat.reduceBEq, Int.reduceLT, Int.reduceLE, Int.reduceAdd, Int.reduceSub, Int.reduceMul, Int.reduceToNat, Int.reduceNeg, reduceIte, reduceCtorEq, reduceBEq]
            skip
            refine ⟨⟨pre, x, rfl, hG, hgx⟩, ?_⟩
            (simp only [feedT, feedU, List.dropLast_concat, hud]; exact Wk.by _ _ _ [(0, 0), (1, 1), (2, 2), (3, 3)] [(50, 50)] [] (by simp) (by simp [wkV, PV.el, PV.weak, PS.get, PS.obj, PS.lv, lkp_hit, lkp_miss, lkp_nil, lko, wkL, wkC, res1]) (by simp [PS.get, PS.obj, PS.lv, lkp_hit, lkp_miss, lkp_nil, lko, wkL, wkC, PV.weak, wkL, wkC, res1]) (by simp [PS.get, PS.obj, PS.lv, lkp_hit, lkp_miss, lkp_nil, lko]) (by rfl) (by rfl) (by simp [lko]) (by simp) (by simp) (by simp) (fun i hi => by rcases i with _ | _ | _ | _ | i <;> first | rfl | (exfalso; omega)))
        · have h1' : x.2 = 0 := by simp at h1; omega
          have hgx : rgood tr x = false := by simp [rgood, h1']
          have hud : udead td (pre ++ [x]) = true := by rw [udead_sn]; simp [h1']
          simp -implicitDefEqProofs only [push_cast, h1, Int.reduceBEq, Int.reduceBNe, Int.reduceEq, Int.reduceNe, Int.reducePow, Nat.reduceAdd, Nat.reduceMul, Nat.reduceSub, Nat.reduceLT, Nat.reduceLeDiff, Nat.reduceEqDiff, Nat.reduceBEq, Int.reduceLT, Int.reduceLE, Int.reduceAdd, Int.reduceSub, Int.reduceMul, Int.reduceToNat, Int.reduceNeg, reduceIte, reduceCtorEq, reduceBEq]
          skip
          refine ⟨⟨pre, x, rfl, hG, hgx⟩, ?_⟩
          (simp only [feedT, feedU, List.dropLast_concat, hud]; exact Wk.by _ _ _ [(0, 0), (1, 1), (2, 2), (3, 3)] [(50, 50)] [] (by simp) (by simp [wkV, PV.el, PV.weak, PS.get, PS.obj, PS.lv, lkp_hit, lkp_miss, lkp_nil, lko, wkL, wkC, res1]) (by simp [PS.get, PS.obj, PS.lv, lkp_hit, lkp_miss, lkp_nil, lko, wkL, wkC, PV.weak, wkL, wkC, res1]) (by simp [PS.get, PS.obj, PS.lv, lkp_hit, lkp_miss, lkp_nil, lko]) (by rfl) (by rfl) (by simp [lko]) (by simp) (by simp) (by simp) (fun i hi => by rcases i with _ | _ | _ | _ | i <;> first | rfl | (exfalso; omega)))
      case hQ1 =>
        simp only [hval]
        intro hG
        obtain ⟨c1, c2⟩ := cut_all hG
        have hle := rdone_le _ hG
        rw [c1, c2]
        generalize rdsAll tO tr = full at *
        have hdr : List.take (tr.length - rdone full) (List.drop (rdone full) tr) = tr.drop (rdone full) := List.take_of_length_le (by simp)
        simp only [feedT, feedE, Bool.or_false]
        cases td
        · simp -implicitDefEqProofs only [push_cast, itL_length, ritems_length, hdr, Int.reduceBEq, Int.reduceBNe, Int.reduceEq, Int.reduceNe, Int.reducePow, Nat.reduceAdd, Nat.reduceMul, Nat.reduceSub, Nat.reduceLT, Nat.reduceLeDiff, Nat.reduceEqDiff, Nat.reduceBEq, Int.reduceLT, Int.reduceLE, Int.reduceAdd, Int.reduceSub, Int.reduceMul, Int.reduceToNat, Int.reduceNeg, reduceIte, reduceCtorEq, reduceBEq]
          (repeat (first | refine ⟨by omega, ?_⟩ | refine ⟨by (simp only [List.length_append] at *; omega), ?_⟩ | refine ⟨by (unfold drawOk; kernel_rfl), ?_⟩))
          skip
          (repeat (first | refine ⟨by omega, ?_⟩ | refine ⟨by (unfold drawOk; kernel_rfl), ?_⟩))
          refine endK_toks [50] rfl rfl (by simp [PS.lv, lkp_hit, lkp_miss, lkp_nil]) ?_
          simp -implicitDefEqProofs only [push_cast, Int.reduceBEq, Int.reduceBNe, Int.reduceEq, Int.reduceNe, Int.reducePow, Nat.reduceAdd, Nat.reduceMul, Nat.reduceSub, Nat.reduceLT, Nat.reduceLeDiff, Nat.reduceEqDiff, Nat.reduceBEq, Int.reduceLT, Int.reduceLE, Int.reduceAdd, Int.reduceSub, Int.reduceMul, Int.reduceToNat, Int.reduceNeg, reduceIte, reduceCtorEq, reduceBEq]
          all_goals first | done | exact ⟨_, rfl, by simp [wkL, res2, res1, res3, PV.weak, PV.el, Sm.pv, itL]⟩ | (simp [wkL, res2, res1, res3, PV.weak, PV.el, Sm.pv, itL]; done) | skip
        · simp -implicitDefEqProofs only [push_cast, itL_length, ritems_length, hdr, Int.reduceBEq, Int.reduceBNe, Int.reduceEq, Int.reduceNe, Int.reducePow, Nat.reduceAdd, Nat.reduceMul, Nat.reduceSub, Nat.reduceLT, Nat.reduceLeDiff, Nat.reduceEqDiff, Nat.reduceBEq, Int.reduceLT, Int.reduceLE, Int.reduceAdd, Int.reduceSub, Int.reduceMul, Int.reduceToNat, Int.reduceNeg, reduceIte, reduceCtorEq, reduceBEq]
          (repeat (first | refine ⟨by omega, ?_⟩ | refine ⟨by (simp only [List.length_append] at *; omega), ?_⟩ | refine ⟨by (unfold drawOk; kernel_rfl), ?_⟩))
          skip
          (repeat (first | refine ⟨by omega, ?_⟩ | refine ⟨by (unfold drawOk; kernel_rfl), ?_⟩))
          refine endK_toks [50] rfl rfl (by simp [PS.lv, lkp_hit, lkp_miss, lkp_nil]) ?_
          simp -implicitDefEqProofs only [push_cast, Int.reduceBEq, Int.reduceBNe, Int.reduceEq, Int.reduceNe, Int.reducePow, Nat.reduceAdd, Nat.reduceMul, Nat.reduceSub, Nat.reduceLT, Nat.reduceLeDiff, Nat.reduceEqDiff, Nat.reduceBEq, Int.reduceLT, Int.reduceLE, Int.reduceAdd, Int.reduceSub, Int.reduceMul, Int.reduceToNat, Int.reduceNeg, reduceIte, reduceCtorEq, reduceBEq]
          all_goals first | done | exact ⟨_, rfl, by simp [wkL, res2, res1, res3, PV.weak, PV.el, Sm.pv, itL]⟩ | (simp [wkL, res2, res1, res3, PV.weak, PV.el, Sm.pv, itL]; done) | skip
      case hQ2 =>
        rintro pre hp ⟨pre', x, he, hG, hx⟩
        have hp' : pre' ++ [x] <+: rdsAll tO tr := by
          rw [← he, ← hval]
          obtain ⟨r, hr⟩ := hp
          exact ⟨r.map Subtype.val, by rw [← hr, List.map_append]⟩
        rw [he]
        obtain ⟨c1, c2⟩ := cut_at hp' hG hx
        have hle := rdone_le _ hG
        rw [c1, c2]
        have hdr : List.take (tr.length - rdone pre') (List.drop (rdone pre') tr) = tr.drop (rdone pre') := List.take_of_length_le (by simp)
        have hud : udead td (pre' ++ [x]) = (td || isNo (some x)) := by rw [udead_sn]; rfl
        simp only [feedU, feedT, feedE, List.dropLast_concat, hud]
        cases (td || isNo (some x))
        · simp -implicitDefEqProofs only [push_cast, itL_length, ritems_length, hdr, Int.reduceBEq, Int.reduceBNe, Int.reduceEq, Int.reduceNe, Int.reducePow, Nat.reduceAdd, Nat.reduceMul, Nat.reduceSub, Nat.reduceLT, Nat.reduceLeDiff, Nat.reduceEqDiff, Nat.reduceBEq, Int.reduceLT, Int.reduceLE, Int.reduceAdd, Int.reduceSub, Int.reduceMul, Int.reduceToNat, Int.reduceNeg, reduceIte, reduceCtorEq, reduceBEq]
          (repeat (first | refine ⟨by omega, ?_⟩ | refine ⟨by (simp only [List.length_append] at *; omega), ?_⟩ | refine ⟨by (unfold drawOk; kernel_rfl), ?_⟩))
          skip
          (repeat (first | refine ⟨by omega, ?_⟩ | refine ⟨by (unfold drawOk; kernel_rfl), ?_⟩))
          refine endK_toks [50] rfl rfl (by simp [PS.lv, lkp_hit, lkp_miss, lkp_nil]) ?_
          simp -implicitDefEqProofs only [push_cast, Int.reduceBEq, Int.reduceBNe, Int.reduceEq, Int.reduceNe, Int.reducePow, Nat.reduceAdd, Nat.reduceMul, Nat.reduceSub, Nat.reduceLT, Nat.reduceLeDiff, Nat.reduceEqDiff, Nat.reduceBEq, Int.reduceLT, Int.reduceLE, Int.reduceAdd, Int.reduceSub, Int.reduceMul, Int.reduceToNat, Int.reduceNeg, reduceIte, reduceCtorEq, reduceBEq]
          all_goals first | done | exact ⟨_, rfl, by simp [wkL, res2, res1, res3, PV.weak, PV.el, Sm.pv, itL]⟩ | (simp [wkL, res2, res1, res3, PV.weak, PV.el, Sm.pv, itL]; done) | skip
        · simp -implicitDefEqProofs only [push_cast, itL_length, ritems_length, hdr, Int.reduceBEq, Int.reduceBNe, Int.reduceEq, Int.reduceNe, Int.reducePow, Nat.reduceAdd, Nat.reduceMul, Nat.reduceSub, Nat.reduceLT, Nat.reduceLeDiff, Nat.reduceEqDiff, Nat.reduceBEq, Int.reduceLT, Int.reduceLE, Int.reduceAdd, Int.reduceSub, Int.reduceMul, Int.reduceToNat, Int.reduceNeg, reduceIte, reduceCtorEq, reduceBEq]
          (repeat (first | refine ⟨by omega, ?_⟩ | refine ⟨by (simp only [List.length_append] at *; omega), ?_⟩ | refine ⟨by (unfold drawOk; kernel_rfl), ?_⟩))
          skip
          (repeat (first | refine ⟨by omega, ?_⟩ | refine ⟨by (unfold drawOk; kernel_rfl), ?_⟩))
          refine endK_toks [50] rfl rfl (by simp [PS.lv, lkp_hit, lkp_miss, lkp_nil]) ?_
          simp -implicitDefEqProofs only [push_cast, Int.reduceBEq, Int.reduceBNe, Int.reduceEq, Int.reduceNe, Int.reducePow, Nat.reduceAdd, Nat.reduceMul, Nat.reduceSub, Nat.reduceLT, Nat.reduceLeDiff, Nat.reduceEqDiff, Nat.reduceBEq, Int.reduceLT, Int.reduceLE, Int.reduceAdd, Int.reduceSub, Int.reduceMul, Int.reduceToNat, Int.reduceNeg, reduceIte, reduceCtorEq, reduceBEq]
          all_goals first | done | exact ⟨_, rfl, by simp [wkL, res2, res1, res3, PV.weak, PV.el, Sm.pv, itL]⟩ | (simp [wkL, res2, res1, res3, PV.weak, PV.el, Sm.pv, itL]; done) | skip
      (simp only [feedT]; exact Wk.by _ _ _ [(0, 0), (1, 4), (2, 68), (3, 72)] [] [50] (by simp) (by simp [wkV, PV.el, PV.weak, PS.get, PS.obj, PS.lv, lkp_hit, lkp_miss, lkp_nil, lko, wkL, wkC, res1, feedE, itL, ritems, rdone]) (by simp [PS.get, PS.obj, PS.lv, lkp_hit, lkp_miss, lkp_nil, lko, wkL, wkC, PV.weak, wkL, wkC, res1, feedE, itL, ritems, rdone]) (by simp [PS.get, PS.obj, PS.lv, lkp_hit, lkp_miss, lkp_nil, lko]) (by rfl) (by rfl) (by simp [lko]) (by simp) (by simp) (by simp) (fun i hi => absurd hi (Nat.not_lt_zero i)))


set_option maxHeartbeats 2000000 in
theorem feedN_fs (s : Sm) (b : List UInt8) (hb : (s.r ++ b).length ≤ 900000) (hd : s.d = false) (hbb : (beginS ⟨s.b, s.d, s.o, s.r ++ b⟩).b = false) : Fsp Tryd.prog 13 [] 0 [s.pv, .str b] [] 0 (.tup [(feedS s b).1.pv, .nilsl]) := by
  have hbg := begin_fs ⟨s.b, s.d, s.o, s.r ++ b⟩
  unfold feedS
  generalize beginS ⟨s.b, s.d, s.o, s.r ++ b⟩ = t at *
  obtain ⟨tb, td, tO, tr⟩ := t
  obtain ⟨sb, sd, so, sr⟩ := s
  simp only [Sm.pv] at hbg
  simp only at hd hbb hb ⊢
  subst hd
  subst hbb
  rw [if_neg Bool.false_ne_true, if_neg Bool.false_ne_true]
  (refine Fsp.of (nx := 0) mixed Tryd.func13 rfl (by decide) (by first | exact Nat.le_refl _ | simp) (by simp [Tryd.f13]) ⟨by decide, by decide⟩ ?_; simp -implicitDefEqProofs only [push_cast, Tryd.f13, Sm.pv, Int.reduceBEq, Int.reduceBNe, Int.reduceEq, Int.reduceNe, Int.reducePow, Nat.reduceAdd, Nat.reduceMul, Nat.reduceSub, Nat.reduceLT, Nat.reduceLeDiff, Nat.reduceEqDiff, Nat.reduceBEq, Int.reduceLT, Int.reduceLE, Int.reduceAdd, Int.reduceSub, Int.reduceMul, Int.reduceToNat, Int.reduceNeg, reduceIte, reduceCtorEq, reduceBEq])
  (repeat (first | refine ⟨by omega, ?_⟩ | refine ⟨by (simp only [List.length_append] at *; omega), ?_⟩))
  refine callE_pure hbg (by rfl) (by rfl) (by rfl) (by decide) (by rfl) (fun _ => by rfl) (by first | rfl | simp [gdOk, newToks]) ?_
  simp -implicitDefEqProofs only [push_cast, Int.reduceBEq, Int.reduceBNe, Int.reduceEq, Int.reduceNe, Int.reducePow, Nat.reduceAdd, Nat.reduceMul, Nat.reduceSub, Nat.reduceLT, Nat.reduceLeDiff, Nat.reduceEqDiff, Nat.reduceBEq, Int.reduceLT, Int.reduceLE, Int.reduceAdd, Int.reduceSub, Int.reduceMul, Int.reduceToNat, Int.reduceNeg, reduceIte, reduceCtorEq, reduceBEq]
  (repeat (first | refine ⟨by omega, ?_⟩ | refine ⟨by (unfold drawOk; kernel_rfl), ?_⟩))
  all_goals first | done | exact ⟨_, rfl, by simp [wkL, res2, res1, res3, PV.weak, PV.el, Sm.pv, itL]⟩ | (simp [wkL, res2, res1, res3, PV.weak, PV.el, Sm.pv, itL]; done)

end Go.Proofs.Sh

/- TopJunk. -/
set_option maxRecDepth 100000
set_option linter.unusedSimpArgs false
set_option linter.unusedVariables false
namespace Go.Proofs.Sh
open Go.Pv

/-- A call that is not made, of whatever value. -/
theorem callE_nop {P : Program} {nid : Nat} {o : Oper} {S : PS} {K : Dl → Prop} (p : PV) (hK : K { p := p, ok := True }) : callE P nid false o S K :=
  ⟨{ p := p, ok := True }, (fun h => by cases h), (by unfold gdOk; cases o.guard <;> rfl), hK⟩
theorem itL_app' (a b : List It) : itL (a ++ b) = itL a ++ itL b := by simp [itL]
theorem stO_dead {b : List UInt8} (h : (stO b).d = true) : (stO b).r = [] := by
  unfold stO at h ⊢
  split
  · rename_i c; rw [if_pos c] at h; cases h
  · rename_i c
    rw [if_neg c] at h
    cases hb : begO b with
    | none => rfl
    | some o =>
      rw [hb] at h
      simp only at h ⊢
      exact cutS_dead _ _ (Nat.le_refl _) h
structure JsS (X : List It) where
  i : Nat
  h : i ≤ X.length
def JsS.st {X : List It} (s : JsS X) : PS := { n := 55, env := [(13, .int .i64 s.i), (12, .int .i64 X.length), (4, .bool false), (0, .sl 6 (itL X)), (1, .sl 6 (itL X))], objs := [], live := [], nxt := 4 }
set_option maxHeartbeats 4000000 in
theorem junkSame_fs (X : List It) (hf : ∀ x ∈ X, x.R.Few) (hl : X.length ≤ 1000000) : Fsp Tryd.prog 14 [] 0 [.sl 6 (itL X), .sl 6 (itL X)] [] 0 (.bool true) := by
  (refine Fsp.of (nx := 0) mixed Tryd.func14 rfl (by decide) (by first | exact Nat.le_refl _ | simp) (by simp [Tryd.f14]) ⟨by decide, by decide⟩ ?_; simp -implicitDefEqProofs only [push_cast, Tryd.f14, itL_length, bne_self_eq_false, Int.reduceBEq, Int.reduceBNe, Int.reduceEq, Int.reduceNe, Int.reducePow, Nat.reduceAdd, Nat.reduceMul, Nat.reduceSub, Nat.reduceLT, Nat.reduceLeDiff, Nat.reduceEqDiff, Nat.reduceBEq, Int.reduceLT, Int.reduceLE, Int.reduceAdd, Int.reduceSub, Int.reduceMul, Int.reduceToNat, Int.reduceNeg, reduceIte, reduceCtorEq, reduceBEq])
  skip
  refine loopC_of (α := JsS X) JsS.st (fun s => X.length - s.i) ⟨0, by omega⟩ ?_ ?_
  · (simp only [JsS.st]; exact Wk.by _ _ _ [] [] [] (by simp) (by simp [wkV, PV.el, PV.weak, PS.get, PS.obj, PS.lv, lkp_hit, lkp_miss, lkp_nil, lko]) (by simp [PS.get, PS.obj, PS.lv, lkp_hit, lkp_miss, lkp_nil, lko, wkL, wkC, PV.weak]) (by simp [PS.get, PS.obj, PS.lv, lkp_hit, lkp_miss, lkp_nil, lko]) (by rfl) (by rfl) (by simp [lko]) (by simp) (by simp) (by simp) (fun i hi => absurd hi (Nat.not_lt_zero i)))
  · rintro ⟨i, hi⟩
    simp -implicitDefEqProofs only [push_cast, JsS.st, itL_length, Int.reduceBEq, Int.reduceBNe, Int.reduceEq, Int.reduceNe, Int.reducePow, Nat.reduceAdd, Nat.reduceMul, Nat.reduceSub, Nat.reduceLT, Nat.reduceLeDiff, Nat.reduceEqDiff, Nat.reduceBEq, Int.reduceLT, Int.reduceLE, Int.reduceAdd, Int.reduceSub, Int.reduceMul, Int.reduceToNat, Int.reduceNeg, reduceIte, reduceCtorEq, reduceBEq]
    refine condC_split (fun h3 => ?_) (fun h3 => ?_)
    · have hlt : i < X.length := by simp at h3; omega
      have hg := it_at hlt
      have hm : X.getD i it0 ∈ X := by rw [List.getD_eq_getElem?_getD, List.getElem?_eq_getElem hlt]; exact List.getElem_mem hlt
      have hwr : IntKind.i64.wrap ((i : Int) + 1) = ((i + 1 : Nat) : Int) := by (rw [wrap_i64_id (by omega) (by omega)]; rfl)
      have hs := packSame_fs _ _ (hf _ hm) (hf _ hm)
      generalize X.getD i it0 = x at *
      rw [sameR_refl'] at hs
      simp only [It.pv, Rq.pv] at hs hg
      simp -implicitDefEqProofs only [push_cast, hg, itL_length, bne_self_eq_false, Int.reduceBEq, Int.reduceBNe, Int.reduceEq, Int.reduceNe, Int.reducePow, Nat.reduceAdd, Nat.reduceMul, Nat.reduceSub, Nat.reduceLT, Nat.reduceLeDiff, Nat.reduceEqDiff, Nat.reduceBEq, Int.reduceLT, Int.reduceLE, Int.reduceAdd, Int.reduceSub, Int.reduceMul, Int.reduceToNat, Int.reduceNeg, reduceIte, reduceCtorEq, reduceBEq]
      (repeat (first | refine ⟨by omega, ?_⟩ | refine ⟨by (unfold drawOk; kernel_rfl), ?_⟩ | refine ⟨by (simp only [List.length_append] at *; omega), ?_⟩))
      skip
      refine callE_pure hs (by rfl) (by rfl) (by rfl) (by decide) (by rfl) (fun _ => by rfl) (by first | rfl | simp [gdOk, newToks]) ?_
      simp -implicitDefEqProofs only [push_cast, Int.reduceBEq, Int.reduceBNe, Int.reduceEq, Int.reduceNe, Int.reducePow, Nat.reduceAdd, Nat.reduceMul, Nat.reduceSub, Nat.reduceLT, Nat.reduceLeDiff, Nat.reduceEqDiff, Nat.reduceBEq, Int.reduceLT, Int.reduceLE, Int.reduceAdd, Int.reduceSub, Int.reduceMul, Int.reduceToNat, Int.reduceNeg, reduceIte, reduceCtorEq, reduceBEq]
      (repeat (first | refine ⟨by omega, ?_⟩ | refine ⟨by (unfold drawOk; kernel_rfl), ?_⟩ | refine ⟨by (simp only [List.length_append] at *; omega), ?_⟩))
      rw [hwr]
      refine ⟨⟨i + 1, by omega⟩, by simp only; omega, ?_⟩
      (simp only [JsS.st]; exact Wk.by _ _ _ [] [] [] (by simp) (by simp [wkV, PV.el, PV.weak, PS.get, PS.obj, PS.lv, lkp_hit, lkp_miss, lkp_nil, lko]) (by simp [PS.get, PS.obj, PS.lv, lkp_hit, lkp_miss, lkp_nil, lko, wkL, wkC, PV.weak]) (by simp [PS.get, PS.obj, PS.lv, lkp_hit, lkp_miss, lkp_nil, lko]) (by rfl) (by rfl) (by simp [lko]) (by simp) (by simp) (by simp) (fun i hi => absurd hi (Nat.not_lt_zero i)))
    · simp -implicitDefEqProofs only [push_cast, Int.reduceBEq, Int.reduceBNe, Int.reduceEq, Int.reduceNe, Int.reducePow, Nat.reduceAdd, Nat.reduceMul, Nat.reduceSub, Nat.reduceLT, Nat.reduceLeDiff, Nat.reduceEqDiff, Nat.reduceBEq, Int.reduceLT, Int.reduceLE, Int.reduceAdd, Int.reduceSub, Int.reduceMul, Int.reduceToNat, Int.reduceNeg, reduceIte, reduceCtorEq, reduceBEq]
set_option maxHeartbeats 8000000 in
theorem topJunk_fs (b : List UInt8) (c : Nat) (e : List UInt8) (hc : c < 65536) : Fsp Tryd.prog 3 [] 0 [.str b, .int .u16 c, .str e] [] 0 (.bool true) := by
  cases k1 : decide ((600 : Int) < (b.length : Int))
  · cases k2 : decide ((600 : Int) < (e.length : Int))
    · have hb : b.length ≤ 600 := by simp at k1; omega
      have he : e.length ≤ 600 := by simp at k2; omega
      have hwc : IntKind.i64.wrap (c : Int) = (c : Int) := wrap_i64_id (by omega) (by omega)
      have hw1 : IntKind.i64.wrap ((b.length : Int) + 1) = (b.length : Int) + 1 := wrap_i64_id (by omega) (by omega)
      have hwk : (c : Int).tmod ((b.length : Int) + 1) = ((c % (b.length + 1) : Nat) : Int) := by rw [Int.tmod_eq_emod_of_nonneg (by omega)]; push_cast; rfl
      have hk : c % (b.length + 1) < b.length + 1 := Nat.mod_lt _ (by omega)
      obtain ⟨k, hkk⟩ : ∃ k, k = c % (b.length + 1) := ⟨_, rfl⟩
      rw [← hkk] at hk hwk
      have hjn : b.take k ++ b.drop k = b := List.take_append_drop k b
      have htl : (b.take k).length = k := by rw [List.length_take]; omega
      have hdl : (b.drop k).length = b.length - k := List.length_drop ..
      have hdt : List.take (b.length - k) (List.drop k b) = b.drop k := List.take_of_length_le (by omega)
      have hst := stO_len b
      have hst2 := stO_len (b.take k)
      have F1 := feed_fs ⟨false, false, 0, []⟩ b (by simp only [List.nil_append]; omega)
      rw [feedR, feed_O] at F1
      have F3 := feed_fs (stO (b.take k)) (b.drop k) (by rw [List.length_append]; omega)
      obtain ⟨n1, n2⟩ := feed_next (b.take k) (b.drop k)
      rw [hjn] at n1 n2
      rw [feedR, n1] at F3
      have F4 := feed_fs (stO b) e (by rw [List.length_append]; omega)
      rw [feedR] at F4
      have hA := junkSame_fs (itO (b.take k)) (itO_few _ (by omega)) (by have := itO_len (b.take k); omega)
      have hB := junkSame_fs (itO b) (itO_few b (by omega)) (by have := itO_len b; omega)
      have hia : itL (itO b) = itL (itO (b.take k)) ++ itL (feedS (stO (b.take k)) (b.drop k)).2 := by rw [n2, itL_app']
      have hlen : (itO b).length = (itO (b.take k)).length + (feedS (stO (b.take k)) (b.drop k)).2.length := by rw [n2, List.length_append]
      have hil := itO_len b
      have hpre : List.take (itO (b.take k)).length (itL (itO b)) = itL (itO (b.take k)) := by
        rw [hia, show (itO (b.take k)).length = (itL (itO (b.take k))).length from (itL_length _).symm, List.take_left]
      have D1 := dead_fs (stO b)
      have G1 := rest_fs (stO b) (by omega)
      have D2 := dead_fs (feedS (stO b) e).1
      have G2 := rest_fs (feedS (stO b) e).1 (by
        have := feed_len b e
        have := stO_len (b ++ e)
        rw [(feed_next b e).1]
        rw [List.length_append] at this
        omega)
      cases hbg : (beginS ⟨false, false, 0, b.take k⟩).b with
      | false =>
        have F2 := feedN_fs ⟨false, false, 0, []⟩ (b.take k) (by simp only [List.nil_append]; omega) rfl (by simpa using hbg)
        have hnil : itO (b.take k) = [] := by
          have := congrArg Prod.snd (feed_O (b.take k))
          unfold feedS at this
          simp only [List.nil_append] at this
          rw [hbg] at this
          simpa using this.symm
        rw [feed_O] at F2
        rw [hnil] at hA hia hlen hpre
        have hA := hA.nils (qs := [.nilsl, .sl 6 []]) ⟨.inl (.inr ⟨rfl, 6, rfl⟩), .inl (.inl rfl), trivial⟩
        have hia' := hia.symm
        rw [show itL [] = [] from rfl, List.nil_append] at hia'
        have hlz : decide (((itO b).length : Int) < ((itO (b.take k)).length : Int)) = false := by first | (simp; omega) | (rw [hnil]; simp)
        have hlz0 : decide (((itO b).length : Int) < 0) = false := by simp
        generalize (feedS (stO (b.take k)) (b.drop k)).2 = Y at *
        generalize itO (b.take k) = Z1 at *
        generalize itO b = Z at *
        simp only [Sm.pv] at F1 F2 F3 F4 D1 G1 D2 G2
        (refine Fsp.of (nx := 0) mixed Tryd.func3 rfl (by decide) (by first | exact Nat.le_refl _ | simp) (by simp [Tryd.f3]) ⟨by decide, by decide⟩ ?_; simp -implicitDefEqProofs only [push_cast, Tryd.f3, k1, k2, hwc, hw1, hwk, Int.reduceBEq, Int.reduceBNe, Int.reduceEq, Int.reduceNe, Int.reducePow, Nat.reduceAdd, Nat.reduceMul, Nat.reduceSub, Nat.reduceLT, Nat.reduceLeDiff, Nat.reduceEqDiff, Nat.reduceBEq, Int.reduceLT, Int.reduceLE, Int.reduceAdd, Int.reduceSub, Int.reduceMul, Int.reduceToNat, Int.reduceNeg, reduceIte, reduceCtorEq, reduceBEq])
        (repeat (first | refine ⟨by omega, ?_⟩ | refine ⟨by (unfold drawOk; kernel_rfl), ?_⟩ | refine ⟨by (simp only [List.length_append] at *; omega), ?_⟩))
        refine callE_pure junkAwake_fs (by rfl) (by rfl) (by rfl) (by decide) (by rfl) (fun _ => by rfl) (by first | rfl | simp [gdOk, newToks]) ?_
        simp -implicitDefEqProofs only [push_cast, k1, k2, hwc, hw1, hwk, Int.reduceBEq, Int.reduceBNe, Int.reduceEq, Int.reduceNe, Int.reducePow, Nat.reduceAdd, Nat.reduceMul, Nat.reduceSub, Nat.reduceLT, Nat.reduceLeDiff, Nat.reduceEqDiff, Nat.reduceBEq, Int.reduceLT, Int.reduceLE, Int.reduceAdd, Int.reduceSub, Int.reduceMul, Int.reduceToNat, Int.reduceNeg, reduceIte, reduceCtorEq, reduceBEq]
        (repeat (first | refine ⟨by omega, ?_⟩ | refine ⟨by (unfold drawOk; kernel_rfl), ?_⟩ | refine ⟨by (simp only [List.length_append] at *; omega), ?_⟩))
        skip
        refine callE_pure F1 (by rfl) (by rfl) (by rfl) (by decide) (by rfl) (fun _ => by rfl) (by first | rfl | simp [gdOk, newToks]) ?_
        simp -implicitDefEqProofs only [push_cast, hwc, hwk, Int.reduceBEq, Int.reduceBNe, Int.reduceEq, Int.reduceNe, Int.reducePow, Nat.reduceAdd, Nat.reduceMul, Nat.reduceSub, Nat.reduceLT, Nat.reduceLeDiff, Nat.reduceEqDiff, Nat.reduceBEq, Int.reduceLT, Int.reduceLE, Int.reduceAdd, Int.reduceSub, Int.reduceMul, Int.reduceToNat, Int.reduceNeg, reduceIte, reduceCtorEq, reduceBEq]
        (repeat (first | refine ⟨by omega, ?_⟩ | refine ⟨by (unfold drawOk; kernel_rfl), ?_⟩ | refine ⟨by (simp only [List.length_append] at *; omega), ?_⟩))
        skip
        refine callE_pure F2 (by rfl) (by rfl) (by rfl) (by decide) (by rfl) (fun _ => by rfl) (by first | rfl | simp [gdOk, newToks]) ?_
        simp -implicitDefEqProofs only [push_cast, hdt, Int.reduceBEq, Int.reduceBNe, Int.reduceEq, Int.reduceNe, Int.reducePow, Nat.reduceAdd, Nat.reduceMul, Nat.reduceSub, Nat.reduceLT, Nat.reduceLeDiff, Nat.reduceEqDiff, Nat.reduceBEq, Int.reduceLT, Int.reduceLE, Int.reduceAdd, Int.reduceSub, Int.reduceMul, Int.reduceToNat, Int.reduceNeg, reduceIte, reduceCtorEq, reduceBEq]
        (repeat (first | refine ⟨by omega, ?_⟩ | refine ⟨by (unfold drawOk; kernel_rfl), ?_⟩ | refine ⟨by (simp only [List.length_append] at *; omega), ?_⟩))
        skip
        refine callE_pure F3 (by rfl) (by rfl) (by rfl) (by decide) (by rfl) (fun _ => by rfl) (by first | rfl | simp [gdOk, newToks]) ?_
        simp -implicitDefEqProofs only [push_cast, itL_length, hlz, hlz0, hpre, Int.reduceBEq, Int.reduceBNe, Int.reduceEq, Int.reduceNe, Int.reducePow, Nat.reduceAdd, Nat.reduceMul, Nat.reduceSub, Nat.reduceLT, Nat.reduceLeDiff, Nat.reduceEqDiff, Nat.reduceBEq, Int.reduceLT, Int.reduceLE, Int.reduceAdd, Int.reduceSub, Int.reduceMul, Int.reduceToNat, Int.reduceNeg, reduceIte, reduceCtorEq, reduceBEq]
        (repeat (first | refine ⟨by omega, ?_⟩ | refine ⟨by (unfold drawOk; kernel_rfl), ?_⟩ | refine ⟨by (simp only [List.length_append] at *; omega), ?_⟩))
        skip
        refine callE_pure hA (by rfl) (by rfl) (by rfl) (by decide) (by rfl) (fun _ => by rfl) (by first | rfl | simp [gdOk, newToks]) ?_
        simp -implicitDefEqProofs only [push_cast, itL_length, hlz, hlz0, hpre, hia', Int.reduceBEq, Int.reduceBNe, Int.reduceEq, Int.reduceNe, Int.reducePow, Nat.reduceAdd, Nat.reduceMul, Nat.reduceSub, Nat.reduceLT, Nat.reduceLeDiff, Nat.reduceEqDiff, Nat.reduceBEq, Int.reduceLT, Int.reduceLE, Int.reduceAdd, Int.reduceSub, Int.reduceMul, Int.reduceToNat, Int.reduceNeg, reduceIte, reduceCtorEq, reduceBEq]
        (repeat (first | refine ⟨by omega, ?_⟩ | refine ⟨by (unfold drawOk; kernel_rfl), ?_⟩ | refine ⟨by (simp only [List.length_append] at *; omega), ?_⟩))
        skip
        refine callE_pure hB (by rfl) (by rfl) (by rfl) (by decide) (by rfl) (fun _ => by rfl) (by first | rfl | simp [gdOk, newToks]) ?_
        simp -implicitDefEqProofs only [push_cast, Int.reduceBEq, Int.reduceBNe, Int.reduceEq, Int.reduceNe, Int.reducePow, Nat.reduceAdd, Nat.reduceMul, Nat.reduceSub, Nat.reduceLT, Nat.reduceLeDiff, Nat.reduceEqDiff, Nat.reduceBEq, Int.reduceLT, Int.reduceLE, Int.reduceAdd, Int.reduceSub, Int.reduceMul, Int.reduceToNat, Int.reduceNeg, reduceIte, reduceCtorEq, reduceBEq]
        (repeat (first | refine ⟨by omega, ?_⟩ | refine ⟨by (unfold drawOk; kernel_rfl), ?_⟩ | refine ⟨by (simp only [List.length_append] at *; omega), ?_⟩))
        skip
        refine callE_pure D1 (by rfl) (by rfl) (by rfl) (by decide) (by rfl) (fun _ => by rfl) (by first | rfl | simp [gdOk, newToks]) ?_
        simp -implicitDefEqProofs only [push_cast, Int.reduceBEq, Int.reduceBNe, Int.reduceEq, Int.reduceNe, Int.reducePow, Nat.reduceAdd, Nat.reduceMul, Nat.reduceSub, Nat.reduceLT, Nat.reduceLeDiff, Nat.reduceEqDiff, Nat.reduceBEq, Int.reduceLT, Int.reduceLE, Int.reduceAdd, Int.reduceSub, Int.reduceMul, Int.reduceToNat, Int.reduceNeg, reduceIte, reduceCtorEq, reduceBEq]
        (repeat (first | refine ⟨by omega, ?_⟩ | refine ⟨by (unfold drawOk; kernel_rfl), ?_⟩ | refine ⟨by (simp only [List.length_append] at *; omega), ?_⟩))
        refine callE_pure D1 (by rfl) (by rfl) (by rfl) (by decide) (by rfl) (fun _ => by rfl) (by first | rfl | simp [gdOk, newToks]) ?_
        simp -implicitDefEqProofs only [push_cast, bne_self_eq_false, Int.reduceBEq, Int.reduceBNe, Int.reduceEq, Int.reduceNe, Int.reducePow, Nat.reduceAdd, Nat.reduceMul, Nat.reduceSub, Nat.reduceLT, Nat.reduceLeDiff, Nat.reduceEqDiff, Nat.reduceBEq, Int.reduceLT, Int.reduceLE, Int.reduceAdd, Int.reduceSub, Int.reduceMul, Int.reduceToNat, Int.reduceNeg, reduceIte, reduceCtorEq, reduceBEq]
        (repeat (first | refine ⟨by omega, ?_⟩ | refine ⟨by (unfold drawOk; kernel_rfl), ?_⟩ | refine ⟨by (simp only [List.length_append] at *; omega), ?_⟩))
        refine callE_pure G1 (by rfl) (by rfl) (by rfl) (by decide) (by rfl) (fun _ => by rfl) (by first | rfl | simp [gdOk, newToks]) ?_
        simp -implicitDefEqProofs only [push_cast, Int.reduceBEq, Int.reduceBNe, Int.reduceEq, Int.reduceNe, Int.reducePow, Nat.reduceAdd, Nat.reduceMul, Nat.reduceSub, Nat.reduceLT, Nat.reduceLeDiff, Nat.reduceEqDiff, Nat.reduceBEq, Int.reduceLT, Int.reduceLE, Int.reduceAdd, Int.reduceSub, Int.reduceMul, Int.reduceToNat, Int.reduceNeg, reduceIte, reduceCtorEq, reduceBEq]
        (repeat (first | refine ⟨by omega, ?_⟩ | refine ⟨by (unfold drawOk; kernel_rfl), ?_⟩ | refine ⟨by (simp only [List.length_append] at *; omega), ?_⟩))
        refine callE_pure G1 (by rfl) (by rfl) (by rfl) (by decide) (by rfl) (fun _ => by rfl) (by first | rfl | simp [gdOk, newToks]) ?_
        simp -implicitDefEqProofs only [push_cast, bne_self_eq_false, Int.reduceBEq, Int.reduceBNe, Int.reduceEq, Int.reduceNe, Int.reducePow, Nat.reduceAdd, Nat.reduceMul, Nat.reduceSub, Nat.reduceLT, Nat.reduceLeDiff, Nat.reduceEqDiff, Nat.reduceBEq, Int.reduceLT, Int.reduceLE, Int.reduceAdd, Int.reduceSub, Int.reduceMul, Int.reduceToNat, Int.reduceNeg, reduceIte, reduceCtorEq, reduceBEq]
        (repeat (first | refine ⟨by omega, ?_⟩ | refine ⟨by (unfold drawOk; kernel_rfl), ?_⟩ | refine ⟨by (simp only [List.length_append] at *; omega), ?_⟩))
        skip
        refine callE_pure F4 (by rfl) (by rfl) (by rfl) (by decide) (by rfl) (fun _ => by rfl) (by first | rfl | simp [gdOk, newToks]) ?_
        simp -implicitDefEqProofs only [push_cast, Int.reduceBEq, Int.reduceBNe, Int.reduceEq, Int.reduceNe, Int.reducePow, Nat.reduceAdd, Nat.reduceMul, Nat.reduceSub, Nat.reduceLT, Nat.reduceLeDiff, Nat.reduceEqDiff, Nat.reduceBEq, Int.reduceLT, Int.reduceLE, Int.reduceAdd, Int.reduceSub, Int.reduceMul, Int.reduceToNat, Int.reduceNeg, reduceIte, reduceCtorEq, reduceBEq]
        (repeat (first | refine ⟨by omega, ?_⟩ | refine ⟨by (unfold drawOk; kernel_rfl), ?_⟩ | refine ⟨by (simp only [List.length_append] at *; omega), ?_⟩))
        skip
        cases hd : (stO b).d with
        | false =>
          rw [hd] at D1
          refine callE_pure D1 (by rfl) (by rfl) (by rfl) (by decide) (by rfl) (fun _ => by rfl) (by first | rfl | simp [gdOk, newToks]) ?_
          simp -implicitDefEqProofs only [push_cast, Int.reduceBEq, Int.reduceBNe, Int.reduceEq, Int.reduceNe, Int.reducePow, Nat.reduceAdd, Nat.reduceMul, Nat.reduceSub, Nat.reduceLT, Nat.reduceLeDiff, Nat.reduceEqDiff, Nat.reduceBEq, Int.reduceLT, Int.reduceLE, Int.reduceAdd, Int.reduceSub, Int.reduceMul, Int.reduceToNat, Int.reduceNeg, reduceIte, reduceCtorEq, reduceBEq]
          (repeat (first | refine ⟨by omega, ?_⟩ | refine ⟨by (unfold drawOk; kernel_rfl), ?_⟩ | refine ⟨by (simp only [List.length_append] at *; omega), ?_⟩))
          refine callE_nop (.bool false) ?_
          simp -implicitDefEqProofs only [push_cast, Int.reduceBEq, Int.reduceBNe, Int.reduceEq, Int.reduceNe, Int.reducePow, Nat.reduceAdd, Nat.reduceMul, Nat.reduceSub, Nat.reduceLT, Nat.reduceLeDiff, Nat.reduceEqDiff, Nat.reduceBEq, Int.reduceLT, Int.reduceLE, Int.reduceAdd, Int.reduceSub, Int.reduceMul, Int.reduceToNat, Int.reduceNeg, reduceIte, reduceCtorEq, reduceBEq]
          (repeat (first | refine ⟨by omega, ?_⟩ | refine ⟨by (unfold drawOk; kernel_rfl), ?_⟩ | refine ⟨by (simp only [List.length_append] at *; omega), ?_⟩))
          refine callE_nop (.int .i64 0) ?_
          simp -implicitDefEqProofs only [push_cast, Int.reduceBEq, Int.reduceBNe, Int.reduceEq, Int.reduceNe, Int.reducePow, Nat.reduceAdd, Nat.reduceMul, Nat.reduceSub, Nat.reduceLT, Nat.reduceLeDiff, Nat.reduceEqDiff, Nat.reduceBEq, Int.reduceLT, Int.reduceLE, Int.reduceAdd, Int.reduceSub, Int.reduceMul, Int.reduceToNat, Int.reduceNeg, reduceIte, reduceCtorEq, reduceBEq]
          (repeat (first | refine ⟨by omega, ?_⟩ | refine ⟨by (unfold drawOk; kernel_rfl), ?_⟩ | refine ⟨by (simp only [List.length_append] at *; omega), ?_⟩))
        | true =>
          have hfs : feedS (stO b) e = (stO b, []) := by unfold feedS; rw [if_pos hd]
          have hr0 := stO_dead hd
          rw [hfs] at D2 G2
          simp only [hfs] at *
          rw [hr0] at G2
          simp only [hr0, hd] at D1 D2 G2 ⊢
          refine callE_pure D1 (by rfl) (by rfl) (by rfl) (by decide) (by rfl) (fun _ => by rfl) (by first | rfl | simp [gdOk, newToks]) ?_
          simp -implicitDefEqProofs only [push_cast, Int.reduceBEq, Int.reduceBNe, Int.reduceEq, Int.reduceNe, Int.reducePow, Nat.reduceAdd, Nat.reduceMul, Nat.reduceSub, Nat.reduceLT, Nat.reduceLeDiff, Nat.reduceEqDiff, Nat.reduceBEq, Int.reduceLT, Int.reduceLE, Int.reduceAdd, Int.reduceSub, Int.reduceMul, Int.reduceToNat, Int.reduceNeg, reduceIte, reduceCtorEq, reduceBEq]
          (repeat (first | refine ⟨by omega, ?_⟩ | refine ⟨by (unfold drawOk; kernel_rfl), ?_⟩ | refine ⟨by (simp only [List.length_append] at *; omega), ?_⟩))
          refine callE_pure D1 (by rfl) (by rfl) (by rfl) (by decide) (by rfl) (fun _ => by rfl) (by first | rfl | simp [gdOk, newToks]) ?_
          simp -implicitDefEqProofs only [push_cast, itL_length, List.length_nil, beq_self_eq_true, Int.reduceBEq, Int.reduceBNe, Int.reduceEq, Int.reduceNe, Int.reducePow, Nat.reduceAdd, Nat.reduceMul, Nat.reduceSub, Nat.reduceLT, Nat.reduceLeDiff, Nat.reduceEqDiff, Nat.reduceBEq, Int.reduceLT, Int.reduceLE, Int.reduceAdd, Int.reduceSub, Int.reduceMul, Int.reduceToNat, Int.reduceNeg, reduceIte, reduceCtorEq, reduceBEq]
          (repeat (first | refine ⟨by omega, ?_⟩ | refine ⟨by (unfold drawOk; kernel_rfl), ?_⟩ | refine ⟨by (simp only [List.length_append] at *; omega), ?_⟩))
          skip
          refine callE_pure G2 (by rfl) (by rfl) (by rfl) (by decide) (by rfl) (fun _ => by rfl) (by first | rfl | simp [gdOk, newToks]) ?_
          simp -implicitDefEqProofs only [push_cast, Int.reduceBEq, Int.reduceBNe, Int.reduceEq, Int.reduceNe, Int.reducePow, Nat.reduceAdd, Nat.reduceMul, Nat.reduceSub, Nat.reduceLT, Nat.reduceLeDiff, Nat.reduceEqDiff, Nat.reduceBEq, Int.reduceLT, Int.reduceLE, Int.reduceAdd, Int.reduceSub, Int.reduceMul, Int.reduceToNat, Int.reduceNeg, reduceIte, reduceCtorEq, reduceBEq]
          (repeat (first | refine ⟨by omega, ?_⟩ | refine ⟨by (unfold drawOk; kernel_rfl), ?_⟩ | refine ⟨by (simp only [List.length_append] at *; omega), ?_⟩))
      | true =>
        have F2 := feedT_fs ⟨false, false, 0, []⟩ (b.take k) (by simp only [List.nil_append]; omega) rfl (by simpa using hbg)
        rw [feed_O] at F2
        have hia' := hia.symm
        have hlz : decide (((itO b).length : Int) < ((itO (b.take k)).length : Int)) = false := by first | (simp; omega) | (rw [hnil]; simp)
        have hlz0 : decide (((itO b).length : Int) < 0) = false := by simp
        generalize (feedS (stO (b.take k)) (b.drop k)).2 = Y at *
        generalize itO (b.take k) = Z1 at *
        generalize itO b = Z at *
        simp only [Sm.pv] at F1 F2 F3 F4 D1 G1 D2 G2
        (refine Fsp.of (nx := 0) mixed Tryd.func3 rfl (by decide) (by first | exact Nat.le_refl _ | simp) (by simp [Tryd.f3]) ⟨by decide, by decide⟩ ?_; simp -implicitDefEqProofs only [push_cast, Tryd.f3, k1, k2, hwc, hw1, hwk, Int.reduceBEq, Int.reduceBNe, Int.reduceEq, Int.reduceNe, Int.reducePow, Nat.reduceAdd, Nat.reduceMul, Nat.reduceSub, Nat.reduceLT, Nat.reduceLeDiff, Nat.reduceEqDiff, Nat.reduceBEq, Int.reduceLT, Int.reduceLE, Int.reduceAdd, Int.reduceSub, Int.reduceMul, Int.reduceToNat, Int.reduceNeg, reduceIte, reduceCtorEq, reduceBEq])
        (repeat (first | refine ⟨by omega, ?_⟩ | refine ⟨by (unfold drawOk; kernel_rfl), ?_⟩ | refine ⟨by (simp only [List.length_append] at *; omega), ?_⟩))
        refine callE_pure junkAwake_fs (by rfl) (by rfl) (by rfl) (by decide) (by rfl) (fun _ => by rfl) (by first | rfl | simp [gdOk, newToks]) ?_
        simp -implicitDefEqProofs only [push_cast, k1, k2, hwc, hw1, hwk, Int.reduceBEq, Int.reduceBNe, Int.reduceEq, Int.reduceNe, Int.reducePow, Nat.reduceAdd, Nat.reduceMul, Nat.reduceSub, Nat.reduceLT, Nat.reduceLeDiff, Nat.reduceEqDiff, Nat.reduceBEq, Int.reduceLT, Int.reduceLE, Int.reduceAdd, Int.reduceSub, Int.reduceMul, Int.reduceToNat, Int.reduceNeg, reduceIte, reduceCtorEq, reduceBEq]
        (repeat (first | refine ⟨by omega, ?_⟩ | refine ⟨by (unfold drawOk; kernel_rfl), ?_⟩ | refine ⟨by (simp only [List.length_append] at *; omega), ?_⟩))
        skip
        refine callE_pure F1 (by rfl) (by rfl) (by rfl) (by decide) (by rfl) (fun _ => by rfl) (by first | rfl | simp [gdOk, newToks]) ?_
        simp -implicitDefEqProofs only [push_cast, hwc, hwk, Int.reduceBEq, Int.reduceBNe, Int.reduceEq, Int.reduceNe, Int.reducePow, Nat.reduceAdd, Nat.reduceMul, Nat.reduceSub, Nat.reduceLT, Nat.reduceLeDiff, Nat.reduceEqDiff, Nat.reduceBEq, Int.reduceLT, Int.reduceLE, Int.reduceAdd, Int.reduceSub, Int.reduceMul, Int.reduceToNat, Int.reduceNeg, reduceIte, reduceCtorEq, reduceBEq]
        (repeat (first | refine ⟨by omega, ?_⟩ | refine ⟨by (unfold drawOk; kernel_rfl), ?_⟩ | refine ⟨by (simp only [List.length_append] at *; omega), ?_⟩))
        skip
        refine callE_pure F2 (by rfl) (by rfl) (by rfl) (by decide) (by rfl) (fun _ => by rfl) (by first | rfl | simp [gdOk, newToks]) ?_
        simp -implicitDefEqProofs only [push_cast, hdt, Int.reduceBEq, Int.reduceBNe, Int.reduceEq, Int.reduceNe, Int.reducePow, Nat.reduceAdd, Nat.reduceMul, Nat.reduceSub, Nat.reduceLT, Nat.reduceLeDiff, Nat.reduceEqDiff, Nat.reduceBEq, Int.reduceLT, Int.reduceLE, Int.reduceAdd, Int.reduceSub, Int.reduceMul, Int.reduceToNat, Int.reduceNeg, reduceIte, reduceCtorEq, reduceBEq]
        (repeat (first | refine ⟨by omega, ?_⟩ | refine ⟨by (unfold drawOk; kernel_rfl), ?_⟩ | refine ⟨by (simp only [List.length_append] at *; omega), ?_⟩))
        skip
        refine callE_pure F3 (by rfl) (by rfl) (by rfl) (by decide) (by rfl) (fun _ => by rfl) (by first | rfl | simp [gdOk, newToks]) ?_
        simp -implicitDefEqProofs only [push_cast, itL_length, hlz, hlz0, hpre, Int.reduceBEq, Int.reduceBNe, Int.reduceEq, Int.reduceNe, Int.reducePow, Nat.reduceAdd, Nat.reduceMul, Nat.reduceSub, Nat.reduceLT, Nat.reduceLeDiff, Nat.reduceEqDiff, Nat.reduceBEq, Int.reduceLT, Int.reduceLE, Int.reduceAdd, Int.reduceSub, Int.reduceMul, Int.reduceToNat, Int.reduceNeg, reduceIte, reduceCtorEq, reduceBEq]
        (repeat (first | refine ⟨by omega, ?_⟩ | refine ⟨by (unfold drawOk; kernel_rfl), ?_⟩ | refine ⟨by (simp only [List.length_append] at *; omega), ?_⟩))
        skip
        refine callE_pure hA (by rfl) (by rfl) (by rfl) (by decide) (by rfl) (fun _ => by rfl) (by first | rfl | simp [gdOk, newToks]) ?_
        simp -implicitDefEqProofs only [push_cast, itL_length, hlz, hlz0, hpre, hia', Int.reduceBEq, Int.reduceBNe, Int.reduceEq, Int.reduceNe, Int.reducePow, Nat.reduceAdd, Nat.reduceMul, Nat.reduceSub, Nat.reduceLT, Nat.reduceLeDiff, Nat.reduceEqDiff, Nat.reduceBEq, Int.reduceLT, Int.reduceLE, Int.reduceAdd, Int.reduceSub, Int.reduceMul, Int.reduceToNat, Int.reduceNeg, reduceIte, reduceCtorEq, reduceBEq]
        (repeat (first | refine ⟨by omega, ?_⟩ | refine ⟨by (unfold drawOk; kernel_rfl), ?_⟩ | refine ⟨by (simp only [List.length_append] at *; omega), ?_⟩))
        skip
        refine callE_pure hB (by rfl) (by rfl) (by rfl) (by decide) (by rfl) (fun _ => by rfl) (by first | rfl | simp [gdOk, newToks]) ?_
        simp -implicitDefEqProofs only [push_cast, Int.reduceBEq, Int.reduceBNe, Int.reduceEq, Int.reduceNe, Int.reducePow, Nat.reduceAdd, Nat.reduceMul, Nat.reduceSub, Nat.reduceLT, Nat.reduceLeDiff, Nat.reduceEqDiff, Nat.reduceBEq, Int.reduceLT, Int.reduceLE, Int.reduceAdd, Int.reduceSub, Int.reduceMul, Int.reduceToNat, Int.reduceNeg, reduceIte, reduceCtorEq, reduceBEq]
        (repeat (first | refine ⟨by omega, ?_⟩ | refine ⟨by (unfold drawOk; kernel_rfl), ?_⟩ | refine ⟨by (simp only [List.length_append] at *; omega), ?_⟩))
        skip
        refine callE_pure D1 (by rfl) (by rfl) (by rfl) (by decide) (by rfl) (fun _ => by rfl) (by first | rfl | simp [gdOk, newToks]) ?_
        simp -implicitDefEqProofs only [push_cast, Int.reduceBEq, Int.reduceBNe, Int.reduceEq, Int.reduceNe, Int.reducePow, Nat.reduceAdd, Nat.reduceMul, Nat.reduceSub, Nat.reduceLT, Nat.reduceLeDiff, Nat.reduceEqDiff, Nat.reduceBEq, Int.reduceLT, Int.reduceLE, Int.reduceAdd, Int.reduceSub, Int.reduceMul, Int.reduceToNat, Int.reduceNeg, reduceIte, reduceCtorEq, reduceBEq]
        (repeat (first | refine ⟨by omega, ?_⟩ | refine ⟨by (unfold drawOk; kernel_rfl), ?_⟩ | refine ⟨by (simp only [List.length_append] at *; omega), ?_⟩))
        refine callE_pure D1 (by rfl) (by rfl) (by rfl) (by decide) (by rfl) (fun _ => by rfl) (by first | rfl | simp [gdOk, newToks]) ?_
        simp -implicitDefEqProofs only [push_cast, bne_self_eq_false, Int.reduceBEq, Int.reduceBNe, Int.reduceEq, Int.reduceNe, Int.reducePow, Nat.reduceAdd, Nat.reduceMul, Nat.reduceSub, Nat.reduceLT, Nat.reduceLeDiff, Nat.reduceEqDiff, Nat.reduceBEq, Int.reduceLT, Int.reduceLE, Int.reduceAdd, Int.reduceSub, Int.reduceMul, Int.reduceToNat, Int.reduceNeg, reduceIte, reduceCtorEq, reduceBEq]
        (repeat (first | refine ⟨by omega, ?_⟩ | refine ⟨by (unfold drawOk; kernel_rfl), ?_⟩ | refine ⟨by (simp only [List.length_append] at *; omega), ?_⟩))
        refine callE_pure G1 (by rfl) (by rfl) (by rfl) (by decide) (by rfl) (fun _ => by rfl) (by first | rfl | simp [gdOk, newToks]) ?_
        simp -implicitDefEqProofs only [push_cast, Int.reduceBEq, Int.reduceBNe, Int.reduceEq, Int.reduceNe, Int.reducePow, Nat.reduceAdd, Nat.reduceMul, Nat.reduceSub, Nat.reduceLT, Nat.reduceLeDiff, Nat.reduceEqDiff, Nat.reduceBEq, Int.reduceLT, Int.reduceLE, Int.reduceAdd, Int.reduceSub, Int.reduceMul, Int.reduceToNat, Int.reduceNeg, reduceIte, reduceCtorEq, reduceBEq]
        (repeat (first | refine ⟨by omega, ?_⟩ | refine ⟨by (unfold drawOk; kernel_rfl), ?_⟩ | refine ⟨by (simp only [List.length_append] at *; omega), ?_⟩))
        refine callE_pure G1 (by rfl) (by rfl) (by rfl) (by decide) (by rfl) (fun _ => by rfl) (by first | rfl | simp [gdOk, newToks]) ?_
        simp -implicitDefEqProofs only [push_cast, bne_self_eq_false, Int.reduceBEq, Int.reduceBNe, Int.reduceEq, Int.reduceNe, Int.reducePow, Nat.reduceAdd, Nat.reduceMul, Nat.reduceSub, Nat.reduceLT, Nat.reduceLeDiff, Nat.reduceEqDiff, Nat.reduceBEq, Int.reduceLT, Int.reduceLE, Int.reduceAdd, Int.reduceSub, Int.reduceMul, Int.reduceToNat, Int.reduceNeg, reduceIte, reduceCtorEq, reduceBEq]
        (repeat (first | refine ⟨by omega, ?_⟩ | refine ⟨by (unfold drawOk; kernel_rfl), ?_⟩ | refine ⟨by (simp only [List.length_append] at *; omega), ?_⟩))
        skip
        refine callE_pure F4 (by rfl) (by rfl) (by rfl) (by decide) (by rfl) (fun _ => by rfl) (by first | rfl | simp [gdOk, newToks]) ?_
        simp -implicitDefEqProofs only [push_cast, Int.reduceBEq, Int.reduceBNe, Int.reduceEq, Int.reduceNe, Int.reducePow, Nat.reduceAdd, Nat.reduceMul, Nat.reduceSub, Nat.reduceLT, Nat.reduceLeDiff, Nat.reduceEqDiff, Nat.reduceBEq, Int.reduceLT, Int.reduceLE, Int.reduceAdd, Int.reduceSub, Int.reduceMul, Int.reduceToNat, Int.reduceNeg, reduceIte, reduceCtorEq, reduceBEq]
        (repeat (first | refine ⟨by omega, ?_⟩ | refine ⟨by (unfold drawOk; kernel_rfl), ?_⟩ | refine ⟨by (simp only [List.length_append] at *; omega), ?_⟩))
        skip
        cases hd : (stO b).d with
        | false =>
          rw [hd] at D1
          refine callE_pure D1 (by rfl) (by rfl) (by rfl) (by decide) (by rfl) (fun _ => by rfl) (by first | rfl | simp [gdOk, newToks]) ?_
          simp -implicitDefEqProofs only [push_cast, Int.reduceBEq, Int.reduceBNe, Int.reduceEq, Int.reduceNe, Int.reducePow, Nat.reduceAdd, Nat.reduceMul, Nat.reduceSub, Nat.reduceLT, Nat.reduceLeDiff, Nat.reduceEqDiff, Nat.reduceBEq, Int.reduceLT, Int.reduceLE, Int.reduceAdd, Int.reduceSub, Int.reduceMul, Int.reduceToNat, Int.reduceNeg, reduceIte, reduceCtorEq, reduceBEq]
          (repeat (first | refine ⟨by omega, ?_⟩ | refine ⟨by (unfold drawOk; kernel_rfl), ?_⟩ | refine ⟨by (simp only [List.length_append] at *; omega), ?_⟩))
          refine callE_nop (.bool false) ?_
          simp -implicitDefEqProofs only [push_cast, Int.reduceBEq, Int.reduceBNe, Int.reduceEq, Int.reduceNe, Int.reducePow, Nat.reduceAdd, Nat.reduceMul, Nat.reduceSub, Nat.reduceLT, Nat.reduceLeDiff, Nat.reduceEqDiff, Nat.reduceBEq, Int.reduceLT, Int.reduceLE, Int.reduceAdd, Int.reduceSub, Int.reduceMul, Int.reduceToNat, Int.reduceNeg, reduceIte, reduceCtorEq, reduceBEq]
          (repeat (first | refine ⟨by omega, ?_⟩ | refine ⟨by (unfold drawOk; kernel_rfl), ?_⟩ | refine ⟨by (simp only [List.length_append] at *; omega), ?_⟩))
          refine callE_nop (.int .i64 0) ?_
          simp -implicitDefEqProofs only [push_cast, Int.reduceBEq, Int.reduceBNe, Int.reduceEq, Int.reduceNe, Int.reducePow, Nat.reduceAdd, Nat.reduceMul, Nat.reduceSub, Nat.reduceLT, Nat.reduceLeDiff, Nat.reduceEqDiff, Nat.reduceBEq, Int.reduceLT, Int.reduceLE, Int.reduceAdd, Int.reduceSub, Int.reduceMul, Int.reduceToNat, Int.reduceNeg, reduceIte, reduceCtorEq, reduceBEq]
          (repeat (first | refine ⟨by omega, ?_⟩ | refine ⟨by (unfold drawOk; kernel_rfl), ?_⟩ | refine ⟨by (simp only [List.length_append] at *; omega), ?_⟩))
        | true =>
          have hfs : feedS (stO b) e = (stO b, []) := by unfold feedS; rw [if_pos hd]
          have hr0 := stO_dead hd
          rw [hfs] at D2 G2
          simp only [hfs] at *
          rw [hr0] at G2
          simp only [hr0, hd] at D1 D2 G2 ⊢
          refine callE_pure D1 (by rfl) (by rfl) (by rfl) (by decide) (by rfl) (fun _ => by rfl) (by first | rfl | simp [gdOk, newToks]) ?_
          simp -implicitDefEqProofs only [push_cast, Int.reduceBEq, Int.reduceBNe, Int.reduceEq, Int.reduceNe, Int.reducePow, Nat.reduceAdd, Nat.reduceMul, Nat.reduceSub, Nat.reduceLT, Nat.reduceLeDiff, Nat.reduceEqDiff, Nat.reduceBEq, Int.reduceLT, Int.reduceLE, Int.reduceAdd, Int.reduceSub, Int.reduceMul, Int.reduceToNat, Int.reduceNeg, reduceIte, reduceCtorEq, reduceBEq]
          (repeat (first | refine ⟨by omega, ?_⟩ | refine ⟨by (unfold drawOk; kernel_rfl), ?_⟩ | refine ⟨by (simp only [List.length_append] at *; omega), ?_⟩))
          refine callE_pure D1 (by rfl) (by rfl) (by rfl) (by decide) (by rfl) (fun _ => by rfl) (by first | rfl | simp [gdOk, newToks]) ?_
          simp -implicitDefEqProofs only [push_cast, itL_length, List.length_nil, beq_self_eq_true, Int.reduceBEq, Int.reduceBNe, Int.reduceEq, Int.reduceNe, Int.reducePow, Nat.reduceAdd, Nat.reduceMul, Nat.reduceSub, Nat.reduceLT, Nat.reduceLeDiff, Nat.reduceEqDiff, Nat.reduceBEq, Int.reduceLT, Int.reduceLE, Int.reduceAdd, Int.reduceSub, Int.reduceMul, Int.reduceToNat, Int.reduceNeg, reduceIte, reduceCtorEq, reduceBEq]
          (repeat (first | refine ⟨by omega, ?_⟩ | refine ⟨by (unfold drawOk; kernel_rfl), ?_⟩ | refine ⟨by (simp only [List.length_append] at *; omega), ?_⟩))
          skip
          refine callE_pure G2 (by rfl) (by rfl) (by rfl) (by decide) (by rfl) (fun _ => by rfl) (by first | rfl | simp [gdOk, newToks]) ?_
          simp -implicitDefEqProofs only [push_cast, Int.reduceBEq, Int.reduceBNe, Int.reduceEq, Int.reduceNe, Int.reducePow, Nat.reduceAdd, Nat.reduceMul, Nat.reduceSub, Nat.reduceLT, Nat.reduceLeDiff, Nat.reduceEqDiff, Nat.reduceBEq, Int.reduceLT, Int.reduceLE, Int.reduceAdd, Int.reduceSub, Int.reduceMul, Int.reduceToNat, Int.reduceNeg, reduceIte, reduceCtorEq, reduceBEq]
          (repeat (first | refine ⟨by omega, ?_⟩ | refine ⟨by (unfold drawOk; kernel_rfl), ?_⟩ | refine ⟨by (simp only [List.length_append] at *; omega), ?_⟩))
    · (refine Fsp.of (nx := 0) mixed Tryd.func3 rfl (by decide) (by first | exact Nat.le_refl _ | simp) (by simp [Tryd.f3]) ⟨by decide, by decide⟩ ?_; simp -implicitDefEqProofs only [push_cast, Tryd.f3, k1, k2, Int.reduceBEq, Int.reduceBNe, Int.reduceEq, Int.reduceNe, Int.reducePow, Nat.reduceAdd, Nat.reduceMul, Nat.reduceSub, Nat.reduceLT, Nat.reduceLeDiff, Nat.reduceEqDiff, Nat.reduceBEq, Int.reduceLT, Int.reduceLE, Int.reduceAdd, Int.reduceSub, Int.reduceMul, Int.reduceToNat, Int.reduceNeg, reduceIte, reduceCtorEq, reduceBEq])
      refine callE_pure junkAwake_fs (by rfl) (by rfl) (by rfl) (by decide) (by rfl) (fun _ => by rfl) (by first | rfl | simp [gdOk, newToks]) ?_
      simp -implicitDefEqProofs only [push_cast, k1, k2, Int.reduceBEq, Int.reduceBNe, Int.reduceEq, Int.reduceNe, Int.reducePow, Nat.reduceAdd, Nat.reduceMul, Nat.reduceSub, Nat.reduceLT, Nat.reduceLeDiff, Nat.reduceEqDiff, Nat.reduceBEq, Int.reduceLT, Int.reduceLE, Int.reduceAdd, Int.reduceSub, Int.reduceMul, Int.reduceToNat, Int.reduceNeg, reduceIte, reduceCtorEq, reduceBEq]
      (repeat (first | refine ⟨by omega, ?_⟩ | refine ⟨by (unfold drawOk; kernel_rfl), ?_⟩ | refine ⟨by (simp only [List.length_append] at *; omega), ?_⟩))
  · (refine Fsp.of (nx := 0) mixed Tryd.func3 rfl (by decide) (by first | exact Nat.le_refl _ | simp) (by simp [Tryd.f3]) ⟨by decide, by decide⟩ ?_; simp -implicitDefEqProofs only [push_cast, Tryd.f3, k1, Int.reduceBEq, Int.reduceBNe, Int.reduceEq, Int.reduceNe, Int.reducePow, Nat.reduceAdd, Nat.reduceMul, Nat.reduceSub, Nat.reduceLT, Nat.reduceLeDiff, Nat.reduceEqDiff, Nat.reduceBEq, Int.reduceLT, Int.reduceLE, Int.reduceAdd, Int.reduceSub, Int.reduceMul, Int.reduceToNat, Int.reduceNeg, reduceIte, reduceCtorEq, reduceBEq])
    refine callE_pure junkAwake_fs (by rfl) (by rfl) (by rfl) (by decide) (by rfl) (fun _ => by rfl) (by first | rfl | simp [gdOk, newToks]) ?_
    simp -implicitDefEqProofs only [push_cast, k1, Int.reduceBEq, Int.reduceBNe, Int.reduceEq, Int.reduceNe, Int.reducePow, Nat.reduceAdd, Nat.reduceMul, Nat.reduceSub, Nat.reduceLT, Nat.reduceLeDiff, Nat.reduceEqDiff, Nat.reduceBEq, Int.reduceLT, Int.reduceLE, Int.reduceAdd, Int.reduceSub, Int.reduceMul, Int.reduceToNat, Int.reduceNeg, reduceIte, reduceCtorEq, reduceBEq]
    (repeat (first | refine ⟨by omega, ?_⟩ | refine ⟨by (unfold drawOk; kernel_rfl), ?_⟩ | refine ⟨by (simp only [List.length_append] at *; omega), ?_⟩))

end Go.Proofs.Sh
