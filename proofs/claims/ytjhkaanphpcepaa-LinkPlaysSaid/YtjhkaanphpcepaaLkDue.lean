/- Due: the packets that are due. -/
import Derived.Test.YtjhkaanphpcepaaLkCut
import Derived.Test.YtjhkaanphpcepaaLkPacket
set_option maxRecDepth 100000
set_option linter.unusedSimpArgs false
set_option linter.unusedVariables false
namespace Go.Proofs.Lk
open Go.Pv


def dueStr (e : En) (l : List Pc) : List (List UInt8) := (l.filter (·.due)).map fun p => pkt 0 p.n e.exp p.b
def dueL (l : List Pc) : List Pc := l.map fun p => { p with due := false }
structure DuS (l : List Pc) where
  i : Nat
  hi : i ≤ l.length
def DuS.w {l : List Pc} (a : DuS l) : List Pc := dueL (l.take a.i) ++ l.drop a.i
def DuS.st (e : En) (p : Pc) (l : List Pc) (a : DuS (p :: l)) : PS := { n := 59, env := [(14, .int .i64 a.i), (13, .int .i64 ((l.length : Int) + 1)), (4, .slt 1 ((dueStr e ((p :: l).take a.i)).map .str) 50), (2, .box 4 0), (1, .box 0 0)], objs := [(4, some (End0.cs .nilsl)), (24, some (pcF a.w)), (0, some (e.cs (.slb 24 0 (l.length + 1) 3)))], live := [(50, true)], nxt := 60 }
theorem DuS.w_len {l : List Pc} (a : DuS l) : a.w.length = l.length := by
  have := a.hi
  simp [DuS.w, dueL]; omega
theorem DuS.w_at {l : List Pc} (i : Nat) (h : i < l.length) : (dueL (l.take i) ++ l.drop i).getD i pc0 = l.getD i pc0 := by
  have hl : (dueL (l.take i)).length = i := by simp [dueL]; omega
  rw [List.getD_eq_getElem?_getD, List.getElem?_append_right (by omega), hl, Nat.sub_self, List.getElem?_drop, Nat.add_zero, ← List.getD_eq_getElem?_getD]
theorem DuS.w_set {l : List Pc} (i : Nat) (h : i < l.length) : (dueL (l.take i) ++ l.drop i).set i { (dueL (l.take i) ++ l.drop i).getD i pc0 with due := false } = dueL (l.take (i + 1)) ++ l.drop (i + 1) := by
  have hl : (dueL (l.take i)).length = i := by simp [dueL]; omega
  have hd : l.drop i = l[i] :: l.drop (i + 1) := (List.getElem_cons_drop h).symm
  rw [List.set_append_right _ _ (by omega), hl, Nat.sub_self, hd, List.set_cons_zero, List.getD_eq_getElem?_getD, List.getElem?_append_right (by omega), hl, Nat.sub_self, List.getElem?_cons_zero, Option.getD_some,
    List.take_succ_eq_append_getElem h, dueL, dueL, List.map_append, List.append_assoc]
  rfl
theorem DuS.w_not {l : List Pc} (i : Nat) (h : i < l.length) (hd : (l.getD i pc0).due = false) : dueL (l.take i) ++ l.drop i = dueL (l.take (i + 1)) ++ l.drop (i + 1) := by
  have hg : l.drop i = l[i] :: l.drop (i + 1) := (List.getElem_cons_drop h).symm
  have hq : l.getD i pc0 = l[i] := by rw [List.getD_eq_getElem?_getD, List.getElem?_eq_getElem h, Option.getD_some]
  rw [hq] at hd
  rw [hg, List.take_succ_eq_append_getElem h, dueL, dueL, List.map_append, List.append_assoc]
  congr 1
  rw [List.map_cons, List.map_nil, List.cons_append, List.nil_append, ← hd]
theorem dueStr_succ (e : En) {l : List Pc} (i : Nat) (h : i < l.length) : dueStr e (l.take (i + 1)) = dueStr e (l.take i) ++ (if (l.getD i pc0).due = true then [pkt 0 (l.getD i pc0).n e.exp (l.getD i pc0).b] else []) := by
  have hq : l.getD i pc0 = l[i] := by rw [List.getD_eq_getElem?_getD, List.getElem?_eq_getElem h, Option.getD_some]
  rw [hq, List.take_succ_eq_append_getElem h, dueStr, dueStr, List.filter_append, List.map_append]
  congr 1
  cases hd : l[i].due <;> simp [hd]
theorem dueStr_len (e : En) (l : List Pc) : (dueStr e l).length ≤ l.length := by
  rw [dueStr, List.length_map]
  exact List.length_filter_le ..
theorem pcF_d0 : ∀ (l : List Pc) (i : Nat), i < l.length → List.drop (i * 3) (pcF l) = .int .i64 (l.getD i pc0).n :: .str (l.getD i pc0).b :: .bool (l.getD i pc0).due :: pcF (l.drop (i + 1))
  | [], i, h => absurd h (Nat.not_lt_zero _)
  | p :: l, 0, _ => rfl
  | p :: l, i + 1, h => by
    rw [show (i + 1) * 3 = i * 3 + 3 by omega, pcF_cons, List.drop_succ_cons, List.drop_succ_cons, List.drop_succ_cons, pcF_d0 l i (by simpa using h)]
    rfl
theorem pcF_d1 (l : List Pc) (i : Nat) (h : i < l.length) : List.drop (i * 3 + 1) (pcF l) = .str (l.getD i pc0).b :: .bool (l.getD i pc0).due :: pcF (l.drop (i + 1)) := by
  rw [← List.drop_drop, pcF_d0 l i h]; rfl
theorem pcF_d2 (l : List Pc) (i : Nat) (h : i < l.length) : List.drop (i * 3 + 2) (pcF l) = .bool (l.getD i pc0).due :: pcF (l.drop (i + 1)) := by
  rw [← List.drop_drop, pcF_d0 l i h]; rfl
theorem due_box (e : En) (p : Pc) (l : List Pc) (hl : l.length ≤ 1000) (hs : ∀ q ∈ p :: l, q.b.length ≤ 1000000) : Fsp Try.prog 14 [] 0 [.agg (e.cs (.sln 3 ((p :: l).map Pc.pv)))] [pcF (dueL (p :: l))] 0
    (.tup [.agg ({ e with ack := false }.cs (.slb 0 0 (l.length + 1) 3)), .sl 1 ((if dueStr e (p :: l) = [] ∧ e.ack = true then [pkt 1 0 e.exp []] else dueStr e (p :: l)).map .str)]) := by
  (refine Fsp.of (nx := 0) mixed Try.func14 rfl (by decide) (by first | exact Nat.le_refl _ | simp) (by simp [Try.f14]) ⟨by decide, by decide⟩ ?_; simp -implicitDefEqProofs only [push_cast, Try.f14, En.cs, Int.reduceBEq, Int.reduceBNe, Int.reduceEq, Int.reduceNe, Int.reducePow, Nat.reduceAdd, Nat.reduceMul, Nat.reduceSub, Nat.reduceLT, Nat.reduceLeDiff, Nat.reduceEqDiff, Nat.reduceBEq, Int.reduceLT, Int.reduceLE, Int.reduceAdd, Int.reduceSub, Int.reduceMul, Int.reduceToNat, Int.reduceNeg, reduceIte, reduceCtorEq, reduceBEq])
  refine callE_new (clone_box p l (by omega)) (by rfl) (by rfl) (by rfl) (by decide) (by simp) (by rfl) (by simpa using tl_pcF 0 0 1 (p :: l)) (fun _ => by rfl) (by first | rfl | simp [gdOk, newToks]) ?_
  simp -implicitDefEqProofs only [push_cast, back_pcF, upto, Int.reduceBEq, Int.reduceBNe, Int.reduceEq, Int.reduceNe, Int.reducePow, Nat.reduceAdd, Nat.reduceMul, Nat.reduceSub, Nat.reduceLT, Nat.reduceLeDiff, Nat.reduceEqDiff, Nat.reduceBEq, Int.reduceLT, Int.reduceLE, Int.reduceAdd, Int.reduceSub, Int.reduceMul, Int.reduceToNat, Int.reduceNeg, reduceIte, reduceCtorEq, reduceBEq]
  refine loopC_of (α := DuS (p :: l)) (DuS.st e p l) (fun a => l.length + 1 - a.i) ⟨0, by omega⟩ ?_ ?_
  · (simp only [DuS.st, En.cs, End0]; exact Wk.by _ _ _ [(0, 0), (4, 4), (24, 24)] [] [50] (by simp) (by simp [wkV, PV.el, PV.weak, PS.get, PS.obj, PS.lv, lkp_hit, lkp_miss, lkp_nil, lko, wkC_pcF, DuS.w, dueL, dueStr]) (by simp [PS.get, PS.obj, PS.lv, lkp_hit, lkp_miss, lkp_nil, lko, wkL, wkC, PV.weak, wkC_pcF, DuS.w, dueL, dueStr]) (by simp [PS.get, PS.obj, PS.lv, lkp_hit, lkp_miss, lkp_nil, lko]) (by rfl) (by rfl) (by simp [lko]) (by simp) (by simp) (by simp) (fun i hi => absurd hi (Nat.not_lt_zero i)))
  · rintro ⟨i, hi⟩
    have hil : i ≤ l.length + 1 := hi
    have hwl : (DuS.w ⟨i, hi⟩).length = l.length + 1 := DuS.w_len _
    simp -implicitDefEqProofs only [push_cast, DuS.st, En.cs, End0, Int.reduceBEq, Int.reduceBNe, Int.reduceEq, Int.reduceNe, Int.reducePow, Nat.reduceAdd, Nat.reduceMul, Nat.reduceSub, Nat.reduceLT, Nat.reduceLeDiff, Nat.reduceEqDiff, Nat.reduceBEq, Int.reduceLT, Int.reduceLE, Int.reduceAdd, Int.reduceSub, Int.reduceMul, Int.reduceToNat, Int.reduceNeg, reduceIte, reduceCtorEq, reduceBEq]
    refine condC_split (fun h2 => ?_) (fun h2 => ?_)
    · have hlt : i < l.length + 1 := by simp at h2; omega
      simp -implicitDefEqProofs only [push_cast, pcF_len, hwl, Int.reduceBEq, Int.reduceBNe, Int.reduceEq, Int.reduceNe, Int.reducePow, Nat.reduceAdd, Nat.reduceMul, Nat.reduceSub, Nat.reduceLT, Nat.reduceLeDiff, Nat.reduceEqDiff, Nat.reduceBEq, Int.reduceLT, Int.reduceLE, Int.reduceAdd, Int.reduceSub, Int.reduceMul, Int.reduceToNat, Int.reduceNeg, reduceIte, reduceCtorEq, reduceBEq]
      have hat : (DuS.w ⟨i, hi⟩).getD i pc0 = (p :: l).getD i pc0 := DuS.w_at i (by simpa using hlt)
      have d0 := pcF_d0 (DuS.w ⟨i, hi⟩) i (by omega)
      have d1 := pcF_d1 (DuS.w ⟨i, hi⟩) i (by omega)
      have d2 := pcF_d2 (DuS.w ⟨i, hi⟩) i (by omega)
      rw [hat] at d0 d1 d2
      have hqs : ((p :: l).getD i pc0).b.length ≤ 1000000 := by
        rw [List.getD_eq_getElem?_getD, List.getElem?_eq_getElem (by simpa using hlt)]
        exact hs _ (List.getElem_mem _)
      have hst : List.take (i * 3 + 2) (pcF (DuS.w ⟨i, hi⟩)) ++ .bool false :: List.drop (i * 3 + 2 + 1) (pcF (DuS.w ⟨i, hi⟩)) = pcF (dueL ((p :: l).take (i + 1)) ++ (p :: l).drop (i + 1)) := by
        have h := pcF_set false (DuS.w ⟨i, hi⟩) i (by rw [hwl]; exact hlt)
        rw [Nat.zero_add] at h
        rw [h]
        exact congrArg pcF (DuS.w_set i (by simpa using hlt))
      have hnot := DuS.w_not (l := p :: l) i (by simpa using hlt)
      have hds := dueStr_succ e (l := p :: l) i (by simpa using hlt)
      rw [List.take_succ_cons] at hds
      have hdl := dueStr_len e ((p :: l).take i)
      have hwr : IntKind.i64.wrap ((i : Int) + 1) = ((i + 1 : Nat) : Int) := by (rw [wrap_i64_id (by omega) (by omega)]; rfl)
      generalize hq : (p :: l).getD i pc0 = q at d0 d1 d2 hqs hnot hds hat
      simp -implicitDefEqProofs only [push_cast, d0, d1, d2, Int.reduceBEq, Int.reduceBNe, Int.reduceEq, Int.reduceNe, Int.reducePow, Nat.reduceAdd, Nat.reduceMul, Nat.reduceSub, Nat.reduceLT, Nat.reduceLeDiff, Nat.reduceEqDiff, Nat.reduceBEq, Int.reduceLT, Int.reduceLE, Int.reduceAdd, Int.reduceSub, Int.reduceMul, Int.reduceToNat, Int.reduceNeg, reduceIte, reduceCtorEq, reduceBEq]
      refine ⟨by omega, ?_⟩
      refine condC_split (fun h3 => ?_) (fun h3 => ?_)
      · simp -implicitDefEqProofs only [push_cast, d0, d1, d2, pcF_len, hwl, Int.reduceBEq, Int.reduceBNe, Int.reduceEq, Int.reduceNe, Int.reducePow, Nat.reduceAdd, Nat.reduceMul, Nat.reduceSub, Nat.reduceLT, Nat.reduceLeDiff, Nat.reduceEqDiff, Nat.reduceBEq, Int.reduceLT, Int.reduceLE, Int.reduceAdd, Int.reduceSub, Int.reduceMul, Int.reduceToNat, Int.reduceNeg, reduceIte, reduceCtorEq, reduceBEq]
        refine callE_pure (packet_fs 0 q.n e.exp q.b hqs) (by rfl) (by rfl) (by rfl) (by decide) (by rfl) (fun _ => by rfl) (by first | rfl | simp [gdOk, newToks]) ?_
        simp -implicitDefEqProofs only [push_cast, d0, d1, d2, pcF_len, hwl, Int.reduceBEq, Int.reduceBNe, Int.reduceEq, Int.reduceNe, Int.reducePow, Nat.reduceAdd, Nat.reduceMul, Nat.reduceSub, Nat.reduceLT, Nat.reduceLeDiff, Nat.reduceEqDiff, Nat.reduceBEq, Int.reduceLT, Int.reduceLE, Int.reduceAdd, Int.reduceSub, Int.reduceMul, Int.reduceToNat, Int.reduceNeg, reduceIte, reduceCtorEq, reduceBEq]
        have hdl2 : (List.map PV.str (dueStr e (List.take i (p :: l)))).length ≤ 1001 := by
          rw [List.length_map]
          refine Nat.le_trans hdl ?_
          rw [List.length_take, List.length_cons]
          omega
        refine ⟨by omega, by omega, by (unfold drawOk; kernel_rfl), by omega, ⟨i + 1, by simp; omega⟩, by simp only; omega, ?_⟩
        rw [hwr, hst]
        (simp only [DuS.st, En.cs, End0]; exact Wk.by _ _ _ [(0, 0), (4, 4), (24, 24)] [(50, 160)] [] (by simp) (by simp [wkV, PV.el, PV.weak, PS.get, PS.obj, PS.lv, lkp_hit, lkp_miss, lkp_nil, lko, wkC_pcF, DuS.w, hds, h3]) (by simp [PS.get, PS.obj, PS.lv, lkp_hit, lkp_miss, lkp_nil, lko, wkL, wkC, PV.weak, wkC_pcF, DuS.w, hds, h3]) (by simp [PS.get, PS.obj, PS.lv, lkp_hit, lkp_miss, lkp_nil, lko]) (by rfl) (by rfl) (by simp [lko]) (by simp) (by simp) (by simp) (fun i hi => absurd hi (Nat.not_lt_zero i)))
      · simp -implicitDefEqProofs only [push_cast, Int.reduceBEq, Int.reduceBNe, Int.reduceEq, Int.reduceNe, Int.reducePow, Nat.reduceAdd, Nat.reduceMul, Nat.reduceSub, Nat.reduceLT, Nat.reduceLeDiff, Nat.reduceEqDiff, Nat.reduceBEq, Int.reduceLT, Int.reduceLE, Int.reduceAdd, Int.reduceSub, Int.reduceMul, Int.reduceToNat, Int.reduceNeg, reduceIte, reduceCtorEq, reduceBEq]
        refine ⟨⟨i + 1, by simp; omega⟩, by simp only; omega, ?_⟩
        have hnw : DuS.w ⟨i, hi⟩ = dueL ((p :: l).take (i + 1)) ++ (p :: l).drop (i + 1) := hnot h3
        rw [hwr, hnw]
        (simp only [DuS.st, En.cs, End0]; exact Wk.by _ _ _ [(0, 0), (4, 4), (24, 24)] [(50, 50)] [] (by simp) (by simp [wkV, PV.el, PV.weak, PS.get, PS.obj, PS.lv, lkp_hit, lkp_miss, lkp_nil, lko, wkC_pcF, DuS.w, hds, h3]) (by simp [PS.get, PS.obj, PS.lv, lkp_hit, lkp_miss, lkp_nil, lko, wkL, wkC, PV.weak, wkC_pcF, DuS.w, hds, h3]) (by simp [PS.get, PS.obj, PS.lv, lkp_hit, lkp_miss, lkp_nil, lko]) (by rfl) (by rfl) (by simp [lko]) (by simp) (by simp) (by simp) (fun i hi => absurd hi (Nat.not_lt_zero i)))
    · have hie : i = (p :: l).length := by simp at h2; simp; omega
      subst hie
      have hw : ∀ hh, DuS.w (l := p :: l) ⟨l.length + 1, hh⟩ = dueL (p :: l) := fun hh => by
        show dueL ((p :: l).take (p :: l).length) ++ (p :: l).drop (p :: l).length = _
        rw [List.take_length, List.drop_length, List.append_nil]
      have ht : List.take (l.length + 1) (p :: l) = p :: l := List.take_length (l := p :: l)
      have hdl := dueStr_len e (p :: l)
      generalize hD : dueStr e (p :: l) = D at hdl
      simp -implicitDefEqProofs only [push_cast, hw, ht, hD, Int.reduceBEq, Int.reduceBNe, Int.reduceEq, Int.reduceNe, Int.reducePow, Nat.reduceAdd, Nat.reduceMul, Nat.reduceSub, Nat.reduceLT, Nat.reduceLeDiff, Nat.reduceEqDiff, Nat.reduceBEq, Int.reduceLT, Int.reduceLE, Int.reduceAdd, Int.reduceSub, Int.reduceMul, Int.reduceToNat, Int.reduceNeg, reduceIte, reduceCtorEq, reduceBEq]
      refine condC_split (fun h3 => ?_) (fun h3 => ?_)
      · have h4 : D = [] ∧ e.ack = true := by
          simp only [List.length_map, Bool.and_eq_true, beq_iff_eq] at h3
          exact ⟨List.length_eq_zero_iff.1 (by omega), h3.2⟩
        rw [if_pos h4]
        rw [h4.1]
        simp -implicitDefEqProofs only [push_cast, Int.reduceBEq, Int.reduceBNe, Int.reduceEq, Int.reduceNe, Int.reducePow, Nat.reduceAdd, Nat.reduceMul, Nat.reduceSub, Nat.reduceLT, Nat.reduceLeDiff, Nat.reduceEqDiff, Nat.reduceBEq, Int.reduceLT, Int.reduceLE, Int.reduceAdd, Int.reduceSub, Int.reduceMul, Int.reduceToNat, Int.reduceNeg, reduceIte, reduceCtorEq, reduceBEq]
        refine callE_pure (packet_fs 1 0 e.exp [] (by simp)) (by rfl) (by rfl) (by rfl) (by decide) (by rfl) (fun _ => by rfl) (by first | rfl | simp [gdOk, newToks]) ?_
        simp -implicitDefEqProofs only [push_cast, hw, Int.reduceBEq, Int.reduceBNe, Int.reduceEq, Int.reduceNe, Int.reducePow, Nat.reduceAdd, Nat.reduceMul, Nat.reduceSub, Nat.reduceLT, Nat.reduceLeDiff, Nat.reduceEqDiff, Nat.reduceBEq, Int.reduceLT, Int.reduceLE, Int.reduceAdd, Int.reduceSub, Int.reduceMul, Int.reduceToNat, Int.reduceNeg, reduceIte, reduceCtorEq, reduceBEq]
        refine endK_box [] [24] rfl rfl (by simp) rfl rfl rfl (fun i j ps h1 h2 => ?_) ⟨by simp -implicitDefEqProofs only [push_cast, Int.reduceBEq, Int.reduceBNe, Int.reduceEq, Int.reduceNe, Int.reducePow, Nat.reduceAdd, Nat.reduceMul, Nat.reduceSub, Nat.reduceLT, Nat.reduceLeDiff, Nat.reduceEqDiff, Nat.reduceBEq, Int.reduceLT, Int.reduceLE, Int.reduceAdd, Int.reduceSub, Int.reduceMul, Int.reduceToNat, Int.reduceNeg, reduceIte, reduceCtorEq, reduceBEq], by simp -implicitDefEqProofs only [push_cast, Int.reduceBEq, Int.reduceBNe, Int.reduceEq, Int.reduceNe, Int.reducePow, Nat.reduceAdd, Nat.reduceMul, Nat.reduceSub, Nat.reduceLT, Nat.reduceLeDiff, Nat.reduceEqDiff, Nat.reduceBEq, Int.reduceLT, Int.reduceLE, Int.reduceAdd, Int.reduceSub, Int.reduceMul, Int.reduceToNat, Int.reduceNeg, reduceIte, reduceCtorEq, reduceBEq], by (simp -implicitDefEqProofs only [push_cast, wkL, lko, Int.reduceBEq, Int.reduceBNe, Int.reduceEq, Int.reduceNe, Int.reducePow, Nat.reduceAdd, Nat.reduceMul, Nat.reduceSub, Nat.reduceLT, Nat.reduceLeDiff, Nat.reduceEqDiff, Nat.reduceBEq, Int.reduceLT, Int.reduceLE, Int.reduceAdd, Int.reduceSub, Int.reduceMul, Int.reduceToNat, Int.reduceNeg, reduceIte, reduceCtorEq, reduceBEq]; exact ⟨_, rfl, by simp [wkL, res1, res2, PV.weak, PV.el]⟩)⟩
        cases i with
        | zero =>
          simp at h1 h2
          subst h1; subst h2
          exact ⟨pcF (dueL (p :: l)), by simp [PS.obj, lkp_hit, lkp_miss], wkL_pcF _ _ _⟩
        | succ i => simp at h1
      · have h4 : ¬ (D = [] ∧ e.ack = true) := by
          rintro ⟨q1, q2⟩
          rw [q1, q2] at h3
          simp at h3
        rw [if_neg h4]
        simp -implicitDefEqProofs only [push_cast, hw, Int.reduceBEq, Int.reduceBNe, Int.reduceEq, Int.reduceNe, Int.reducePow, Nat.reduceAdd, Nat.reduceMul, Nat.reduceSub, Nat.reduceLT, Nat.reduceLeDiff, Nat.reduceEqDiff, Nat.reduceBEq, Int.reduceLT, Int.reduceLE, Int.reduceAdd, Int.reduceSub, Int.reduceMul, Int.reduceToNat, Int.reduceNeg, reduceIte, reduceCtorEq, reduceBEq]
        refine endK_box [] [24] rfl rfl (by simp) rfl rfl rfl (fun i j ps h1 h2 => ?_) ⟨by simp -implicitDefEqProofs only [push_cast, Int.reduceBEq, Int.reduceBNe, Int.reduceEq, Int.reduceNe, Int.reducePow, Nat.reduceAdd, Nat.reduceMul, Nat.reduceSub, Nat.reduceLT, Nat.reduceLeDiff, Nat.reduceEqDiff, Nat.reduceBEq, Int.reduceLT, Int.reduceLE, Int.reduceAdd, Int.reduceSub, Int.reduceMul, Int.reduceToNat, Int.reduceNeg, reduceIte, reduceCtorEq, reduceBEq], by simp -implicitDefEqProofs only [push_cast, Int.reduceBEq, Int.reduceBNe, Int.reduceEq, Int.reduceNe, Int.reducePow, Nat.reduceAdd, Nat.reduceMul, Nat.reduceSub, Nat.reduceLT, Nat.reduceLeDiff, Nat.reduceEqDiff, Nat.reduceBEq, Int.reduceLT, Int.reduceLE, Int.reduceAdd, Int.reduceSub, Int.reduceMul, Int.reduceToNat, Int.reduceNeg, reduceIte, reduceCtorEq, reduceBEq], by (simp -implicitDefEqProofs only [push_cast, wkL, lko, Int.reduceBEq, Int.reduceBNe, Int.reduceEq, Int.reduceNe, Int.reducePow, Nat.reduceAdd, Nat.reduceMul, Nat.reduceSub, Nat.reduceLT, Nat.reduceLeDiff, Nat.reduceEqDiff, Nat.reduceBEq, Int.reduceLT, Int.reduceLE, Int.reduceAdd, Int.reduceSub, Int.reduceMul, Int.reduceToNat, Int.reduceNeg, reduceIte, reduceCtorEq, reduceBEq]; exact ⟨_, rfl, by simp [wkL, res1, res2, PV.weak, PV.el]⟩)⟩
        cases i with
        | zero =>
          simp at h1 h2
          subst h1; subst h2
          exact ⟨pcF (dueL (p :: l)), by simp [PS.obj, lkp_hit, lkp_miss], wkL_pcF _ _ _⟩
        | succ i => simp at h1
def En.due (e : En) : En := { e with way := dueL e.way, ack := false }
def En.dueP (e : En) : List (List UInt8) := if dueStr e e.way = [] ∧ e.ack = true then [pkt 1 0 e.exp []] else dueStr e e.way
theorem dueL_len (l : List Pc) : (dueL l).length = l.length := by simp [dueL]
theorem due_fs (e : En) (hw : e.way.length ≤ 1000) (hs : ∀ q ∈ e.way, q.b.length ≤ 1000000) : Fsp Try.prog 14 [] 0 [e.pv] [] 0 (.tup [e.due.pv, .sl 1 (e.dueP.map .str)]) := by
  refine of_slcell (i := 1) (sz := 3) (es := e.way.map Pc.pv) rfl (fun hn => ?_) ?_
  · have hway : e.way = [] := by simpa using hn
    have hr : e.due.pv = .agg ({ e with ack := false }.cs (.sl 3 [])) := by rw [En.due, En.pv, hway]; rfl
    have hd : dueStr e e.way = [] := by rw [hway]; rfl
    rw [hr, En.dueP, hd]
    show Fsp Try.prog 14 [] 0 [.agg (e.cs .nilsl)] [] 0 _
    (refine Fsp.of (nx := 0) mixed Try.func14 rfl (by decide) (by first | exact Nat.le_refl _ | simp) (by simp [Try.f14]) ⟨by decide, by decide⟩ ?_; simp -implicitDefEqProofs only [push_cast, Try.f14, En.cs, Int.reduceBEq, Int.reduceBNe, Int.reduceEq, Int.reduceNe, Int.reducePow, Nat.reduceAdd, Nat.reduceMul, Nat.reduceSub, Nat.reduceLT, Nat.reduceLeDiff, Nat.reduceEqDiff, Nat.reduceBEq, Int.reduceLT, Int.reduceLE, Int.reduceAdd, Int.reduceSub, Int.reduceMul, Int.reduceToNat, Int.reduceNeg, reduceIte, reduceCtorEq, reduceBEq])
    refine callE_pure clone_nil (by rfl) (by rfl) (by rfl) (by decide) (by rfl) (fun _ => by rfl) (by first | rfl | simp [gdOk, newToks]) ?_
    simp -implicitDefEqProofs only [push_cast, Int.reduceBEq, Int.reduceBNe, Int.reduceEq, Int.reduceNe, Int.reducePow, Nat.reduceAdd, Nat.reduceMul, Nat.reduceSub, Nat.reduceLT, Nat.reduceLeDiff, Nat.reduceEqDiff, Nat.reduceBEq, Int.reduceLT, Int.reduceLE, Int.reduceAdd, Int.reduceSub, Int.reduceMul, Int.reduceToNat, Int.reduceNeg, reduceIte, reduceCtorEq, reduceBEq]
    refine loopC_un 1 ?_
    simp -implicitDefEqProofs only [push_cast, Int.reduceBEq, Int.reduceBNe, Int.reduceEq, Int.reduceNe, Int.reducePow, Nat.reduceAdd, Nat.reduceMul, Nat.reduceSub, Nat.reduceLT, Nat.reduceLeDiff, Nat.reduceEqDiff, Nat.reduceBEq, Int.reduceLT, Int.reduceLE, Int.reduceAdd, Int.reduceSub, Int.reduceMul, Int.reduceToNat, Int.reduceNeg, reduceIte, reduceCtorEq, reduceBEq]
    refine condC_split (fun h3 => ?_) (fun h3 => ?_)
    · simp -implicitDefEqProofs only [push_cast, Int.reduceBEq, Int.reduceBNe, Int.reduceEq, Int.reduceNe, Int.reducePow, Nat.reduceAdd, Nat.reduceMul, Nat.reduceSub, Nat.reduceLT, Nat.reduceLeDiff, Nat.reduceEqDiff, Nat.reduceBEq, Int.reduceLT, Int.reduceLE, Int.reduceAdd, Int.reduceSub, Int.reduceMul, Int.reduceToNat, Int.reduceNeg, reduceIte, reduceCtorEq, reduceBEq]
      refine callE_pure (packet_fs 1 0 e.exp [] (by simp)) (by rfl) (by rfl) (by rfl) (by decide) (by rfl) (fun _ => by rfl) (by first | rfl | simp [gdOk, newToks]) ?_
      simp -implicitDefEqProofs only [push_cast, Int.reduceBEq, Int.reduceBNe, Int.reduceEq, Int.reduceNe, Int.reducePow, Nat.reduceAdd, Nat.reduceMul, Nat.reduceSub, Nat.reduceLT, Nat.reduceLeDiff, Nat.reduceEqDiff, Nat.reduceBEq, Int.reduceLT, Int.reduceLE, Int.reduceAdd, Int.reduceSub, Int.reduceMul, Int.reduceToNat, Int.reduceNeg, reduceIte, reduceCtorEq, reduceBEq]
      rw [if_pos h3]
      exact ⟨_, rfl, by simp [wkL, res2, res1, PV.weak, PV.el]⟩
    · simp -implicitDefEqProofs only [push_cast, Int.reduceBEq, Int.reduceBNe, Int.reduceEq, Int.reduceNe, Int.reducePow, Nat.reduceAdd, Nat.reduceMul, Nat.reduceSub, Nat.reduceLT, Nat.reduceLeDiff, Nat.reduceEqDiff, Nat.reduceBEq, Int.reduceLT, Int.reduceLE, Int.reduceAdd, Int.reduceSub, Int.reduceMul, Int.reduceToNat, Int.reduceNeg, reduceIte, reduceCtorEq, reduceBEq]
      rw [if_neg (show ¬ (e.ack = true) by rw [h3]; exact Bool.false_ne_true)]
      exact ⟨_, rfl, by simp [wkL, res2, res1, PV.weak, PV.el]⟩
  · show Fsp Try.prog 14 [] 0 [.agg (e.cs (.sln 3 (e.way.map Pc.pv)))] [] 0 _
    cases hway : e.way with
    | nil =>
      have hr : e.due.pv = .agg ({ e with ack := false }.cs (.sl 3 [])) := by rw [En.due, En.pv, hway]; rfl
      have hd : dueStr e e.way = [] := by rw [hway]; rfl
      rw [hr, En.dueP, hd, List.map_nil]
      (refine Fsp.of (nx := 0) mixed Try.func14 rfl (by decide) (by first | exact Nat.le_refl _ | simp) (by simp [Try.f14]) ⟨by decide, by decide⟩ ?_; simp -implicitDefEqProofs only [push_cast, Try.f14, En.cs, Int.reduceBEq, Int.reduceBNe, Int.reduceEq, Int.reduceNe, Int.reducePow, Nat.reduceAdd, Nat.reduceMul, Nat.reduceSub, Nat.reduceLT, Nat.reduceLeDiff, Nat.reduceEqDiff, Nat.reduceBEq, Int.reduceLT, Int.reduceLE, Int.reduceAdd, Int.reduceSub, Int.reduceMul, Int.reduceToNat, Int.reduceNeg, reduceIte, reduceCtorEq, reduceBEq])
      refine callE_pure clone_emp (by rfl) (by rfl) (by rfl) (by decide) (by rfl) (fun _ => by rfl) (by first | rfl | simp [gdOk, newToks]) ?_
      simp -implicitDefEqProofs only [push_cast, Int.reduceBEq, Int.reduceBNe, Int.reduceEq, Int.reduceNe, Int.reducePow, Nat.reduceAdd, Nat.reduceMul, Nat.reduceSub, Nat.reduceLT, Nat.reduceLeDiff, Nat.reduceEqDiff, Nat.reduceBEq, Int.reduceLT, Int.reduceLE, Int.reduceAdd, Int.reduceSub, Int.reduceMul, Int.reduceToNat, Int.reduceNeg, reduceIte, reduceCtorEq, reduceBEq]
      refine loopC_un 1 ?_
      simp -implicitDefEqProofs only [push_cast, Int.reduceBEq, Int.reduceBNe, Int.reduceEq, Int.reduceNe, Int.reducePow, Nat.reduceAdd, Nat.reduceMul, Nat.reduceSub, Nat.reduceLT, Nat.reduceLeDiff, Nat.reduceEqDiff, Nat.reduceBEq, Int.reduceLT, Int.reduceLE, Int.reduceAdd, Int.reduceSub, Int.reduceMul, Int.reduceToNat, Int.reduceNeg, reduceIte, reduceCtorEq, reduceBEq]
      refine condC_split (fun h3 => ?_) (fun h3 => ?_)
      · simp -implicitDefEqProofs only [push_cast, Int.reduceBEq, Int.reduceBNe, Int.reduceEq, Int.reduceNe, Int.reducePow, Nat.reduceAdd, Nat.reduceMul, Nat.reduceSub, Nat.reduceLT, Nat.reduceLeDiff, Nat.reduceEqDiff, Nat.reduceBEq, Int.reduceLT, Int.reduceLE, Int.reduceAdd, Int.reduceSub, Int.reduceMul, Int.reduceToNat, Int.reduceNeg, reduceIte, reduceCtorEq, reduceBEq]
        refine callE_pure (packet_fs 1 0 e.exp [] (by simp)) (by rfl) (by rfl) (by rfl) (by decide) (by rfl) (fun _ => by rfl) (by first | rfl | simp [gdOk, newToks]) ?_
        simp -implicitDefEqProofs only [push_cast, Int.reduceBEq, Int.reduceBNe, Int.reduceEq, Int.reduceNe, Int.reducePow, Nat.reduceAdd, Nat.reduceMul, Nat.reduceSub, Nat.reduceLT, Nat.reduceLeDiff, Nat.reduceEqDiff, Nat.reduceBEq, Int.reduceLT, Int.reduceLE, Int.reduceAdd, Int.reduceSub, Int.reduceMul, Int.reduceToNat, Int.reduceNeg, reduceIte, reduceCtorEq, reduceBEq]
        rw [if_pos h3]
        exact ⟨_, rfl, by simp [wkL, res2, res1, PV.weak, PV.el]⟩
      · simp -implicitDefEqProofs only [push_cast, Int.reduceBEq, Int.reduceBNe, Int.reduceEq, Int.reduceNe, Int.reducePow, Nat.reduceAdd, Nat.reduceMul, Nat.reduceSub, Nat.reduceLT, Nat.reduceLeDiff, Nat.reduceEqDiff, Nat.reduceBEq, Int.reduceLT, Int.reduceLE, Int.reduceAdd, Int.reduceSub, Int.reduceMul, Int.reduceToNat, Int.reduceNeg, reduceIte, reduceCtorEq, reduceBEq]
        rw [if_neg (show ¬ (e.ack = true) by rw [h3]; exact Bool.false_ne_true)]
        exact ⟨_, rfl, by simp [wkL, res2, res1, PV.weak, PV.el]⟩
    | cons p l =>
      have h := (due_box e p l (by rw [hway] at hw; simp at hw; omega) (by rw [← hway]; exact hs)).freeze (bs' := []) (Nat.le_refl _)
      have hr : ∀ x : List PV, frz3 ([] : List (List PV)).length (pcF (dueL (p :: l))) (.tup [.agg ({ e with ack := false }.cs (.slb 0 0 (l.length + 1) 3)), .sl 1 x]) = .tup [e.due.pv, .sl 1 x] := fun x => by
        have hz := frz_pcF 0 { p with due := false } (dueL l)
        rw [dueL_len] at hz
        show PV.tup [PV.agg (List.map (frz1 0 _) ({ e with ack := false }.cs _)), .sl 1 x] = PV.tup [PV.agg ({ e with ack := false }.cs (pcs (dueL e.way))), .sl 1 x]
        rw [hway, show dueL (p :: l) = { p with due := false } :: dueL l from rfl, ← hz]
        rfl
      rw [hr] at h
      rw [En.dueP, hway]
      exact h
end Go.Proofs.Lk
