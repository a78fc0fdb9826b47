/- All that is due comes over, there and back. -/
import Derived.Test.YtjhkaanphpcepaaLkCalm
import Derived.Test.YtjhkaanphpcepaaLkOrders
set_option maxRecDepth 100000
set_option linter.unusedSimpArgs false
set_option linter.unusedVariables false
namespace Go.Proofs.Lk
open Go.Pv

theorem pstr_at {l : List (List UInt8)} {i : Nat} (h : i < l.length) : (l.map PV.str)[i]? = some (.str (l.getD i [])) ∧ (l.map PV.str).getD i PV.any = .str (l.getD i []) := by
  have h1 : (l.map PV.str)[i]? = some (.str (l.getD i [])) := by
    rw [List.getElem?_map, List.getElem?_eq_getElem h, List.getD_eq_getElem?_getD, List.getElem?_eq_getElem h]; rfl
  exact ⟨h1, by rw [List.getD_eq_getElem?_getD, h1]; rfl⟩
theorem gets_nil (Y : En) : getsE Y [] = Y := rfl
theorem gets_succ {Y : En} {l : List (List UInt8)} {i : Nat} (h : i < l.length) : getsE Y (l.take (i + 1)) = (getsE Y (l.take i)).gotE (l.getD i []) := by
  rw [List.take_add_one, List.getElem?_eq_getElem h, List.getD_eq_getElem?_getD, List.getElem?_eq_getElem h, getsE, List.foldl_append]; rfl
structure OvS (l : List (List UInt8)) where
  i : Nat
  hi : i ≤ l.length
def OvS.st1 (A1 B : En) {p : List (List UInt8)} (s : OvS p) : PS := { n := 67, env := [(8, .int .i64 s.i), (7, .sl 1 (p.map .str)), (6, .bool false), (5, .box 12 0), (4, .box 8 0), (3, .box 4 0), (2, .box 0 0)], objs := [(0, some (A1.cs (pcs A1.way))), (4, some ((getsE B (p.take s.i)).cs (pcs (getsE B (p.take s.i)).way))), (8, some (End0.cs .nilsl)), (12, some (End0.cs .nilsl))], live := [], nxt := 100 }
def OvS.st2 (A1 B2 : En) {q : List (List UInt8)} (s : OvS q) : PS := { n := 67, env := [(12, .int .i64 s.i), (11, .sl 1 (q.map .str)), (6, .bool false), (5, .box 12 0), (4, .box 8 0), (3, .box 4 0), (2, .box 0 0)], objs := [(0, some ((getsE A1 (q.take s.i)).cs (pcs (getsE A1 (q.take s.i)).way))), (4, some (B2.cs (pcs B2.way))), (8, some (End0.cs .nilsl)), (12, some (End0.cs .nilsl))], live := [], nxt := 200 }
set_option maxHeartbeats 8000000 in
theorem over_fs (A B : En) (h : OvOk A B) : Fsp Try.prog 31 [] 0 [A.pv, B.pv] [] 0 (.tup [(overA A B).pv, (overB A B).pv, .bool true]) := by
  have hA := h.a
  have hdA := due_fs A (by have := hA.w; omega) hA.wb
  have hC := h.o1 A.dueP.length
  rw [List.take_length] at hC
  have hC' : (comes A B).Ok := hC
  have hdB := due_fs (comes A B) (by have := hC'.w; omega) hC'.wb
  have hlp := dueP_len A hA.w
  have hlq := dueP_len (comes A B) hC'.w
  have hg1 := h.g1
  have ho1 := h.o1
  have hl1 := h.l1
  have hg2 := h.g2
  have ho2 := h.o2
  have hl2 := h.l2
  have hB0 : comes A B = getsE B A.dueP := rfl
  have hoA : overA A B = getsE A.due (comes A B).dueP := rfl
  have hoB : overB A B = (comes A B).due := rfl
  rw [hoA, hoB]
  generalize A.dueP = p at *
  generalize A.due = A1 at *
  generalize comes A B = B1 at *
  generalize B1.dueP = q at *
  generalize B1.due = B2 at *
  simp only [En.pv, En.cs, pcs] at hdA hdB
  have hpm : ((p.map PV.str).length : Int) = (p.length : Int) := by rw [List.length_map]
  have hqm : ((q.map PV.str).length : Int) = (q.length : Int) := by rw [List.length_map]
  (refine Fsp.of (nx := 0) mixed Try.func31 rfl (by decide) (by first | exact Nat.le_refl _ | simp) (by simp [Try.f31]) ⟨by decide, by decide⟩ ?_; simp -implicitDefEqProofs only [push_cast, Try.f31, En.pv, En.cs, pcs, Int.reduceBEq, Int.reduceBNe, Int.reduceEq, Int.reduceNe, Int.reducePow, Nat.reduceAdd, Nat.reduceMul, Nat.reduceSub, Nat.reduceLT, Nat.reduceLeDiff, Nat.reduceEqDiff, Nat.reduceBEq, Int.reduceLT, Int.reduceLE, Int.reduceAdd, Int.reduceSub, Int.reduceMul, Int.reduceToNat, Int.reduceNeg, reduceIte, reduceCtorEq, reduceBEq])
  refine callE_pure hdA (by rfl) (by rfl) (by rfl) (by decide) (by rfl) (fun _ => by rfl) (by first | rfl | simp [gdOk, newToks]) ?_
  simp -implicitDefEqProofs only [push_cast, Int.reduceBEq, Int.reduceBNe, Int.reduceEq, Int.reduceNe, Int.reducePow, Nat.reduceAdd, Nat.reduceMul, Nat.reduceSub, Nat.reduceLT, Nat.reduceLeDiff, Nat.reduceEqDiff, Nat.reduceBEq, Int.reduceLT, Int.reduceLE, Int.reduceAdd, Int.reduceSub, Int.reduceMul, Int.reduceToNat, Int.reduceNeg, reduceIte, reduceCtorEq, reduceBEq]
  (repeat (first | refine ⟨by omega, ?_⟩ | refine ⟨by (unfold drawOk; kernel_rfl), ?_⟩ | refine ⟨by simp only [List.length_map, List.length_append, List.length_take, List.length_drop]; omega, ?_⟩))
  skip
  refine loopC_of (α := OvS p) (OvS.st1 A1 B) (fun s => p.length - s.i) ⟨0, by omega⟩ ?_ ?_
  · (simp only [OvS.st1, En.cs, pcs, strs, End0, List.map_nil, List.take_zero, gets_nil]; exact Wk.by _ _ _ [(0, 0), (4, 4), (8, 8), (12, 12)] [] [] (by simp) (by simp [wkV, PV.el, PV.weak, PS.get, PS.obj, PS.lv, lkp_hit, lkp_miss, lkp_nil, lko]) (by simp [PS.get, PS.obj, PS.lv, lkp_hit, lkp_miss, lkp_nil, lko, wkL, wkC, PV.weak]) (by simp [PS.get, PS.obj, PS.lv, lkp_hit, lkp_miss, lkp_nil, lko]) (by rfl) (by rfl) (by simp [lko]) (by simp) (by simp) (by simp) (fun i hi => absurd hi (Nat.not_lt_zero i)))
  · rintro ⟨i, hi⟩
    simp -implicitDefEqProofs only [push_cast, OvS.st1, En.cs, pcs, End0, hpm, Int.reduceBEq, Int.reduceBNe, Int.reduceEq, Int.reduceNe, Int.reducePow, Nat.reduceAdd, Nat.reduceMul, Nat.reduceSub, Nat.reduceLT, Nat.reduceLeDiff, Nat.reduceEqDiff, Nat.reduceBEq, Int.reduceLT, Int.reduceLE, Int.reduceAdd, Int.reduceSub, Int.reduceMul, Int.reduceToNat, Int.reduceNeg, reduceIte, reduceCtorEq, reduceBEq]
    cases h1 : decide ((i : Int) < (p.length : Int))
    · have hii : i = p.length := by simp at h1; omega
      subst hii
      rw [List.take_length, ← hB0]
      simp -implicitDefEqProofs only [push_cast, h1, Int.reduceBEq, Int.reduceBNe, Int.reduceEq, Int.reduceNe, Int.reducePow, Nat.reduceAdd, Nat.reduceMul, Nat.reduceSub, Nat.reduceLT, Nat.reduceLeDiff, Nat.reduceEqDiff, Nat.reduceBEq, Int.reduceLT, Int.reduceLE, Int.reduceAdd, Int.reduceSub, Int.reduceMul, Int.reduceToNat, Int.reduceNeg, reduceIte, reduceCtorEq, reduceBEq]
      (repeat (first | refine ⟨by omega, ?_⟩ | refine ⟨by (unfold drawOk; kernel_rfl), ?_⟩ | refine ⟨by simp only [List.length_map, List.length_append, List.length_take, List.length_drop]; omega, ?_⟩))
      refine callE_pure hdB (by rfl) (by rfl) (by rfl) (by decide) (by rfl) (fun _ => by rfl) (by first | rfl | simp [gdOk, newToks]) ?_
      simp -implicitDefEqProofs only [push_cast, Int.reduceBEq, Int.reduceBNe, Int.reduceEq, Int.reduceNe, Int.reducePow, Nat.reduceAdd, Nat.reduceMul, Nat.reduceSub, Nat.reduceLT, Nat.reduceLeDiff, Nat.reduceEqDiff, Nat.reduceBEq, Int.reduceLT, Int.reduceLE, Int.reduceAdd, Int.reduceSub, Int.reduceMul, Int.reduceToNat, Int.reduceNeg, reduceIte, reduceCtorEq, reduceBEq]
      (repeat (first | refine ⟨by omega, ?_⟩ | refine ⟨by (unfold drawOk; kernel_rfl), ?_⟩ | refine ⟨by simp only [List.length_map, List.length_append, List.length_take, List.length_drop]; omega, ?_⟩))
      skip
      refine loopC_of (α := OvS q) (OvS.st2 A1 B2) (fun s => q.length - s.i) ⟨0, by omega⟩ ?_ ?_
      · (simp only [OvS.st2, En.cs, pcs, strs, End0, List.map_nil, List.take_zero, gets_nil]; exact Wk.by _ _ _ [(0, 0), (4, 4), (8, 8), (12, 12)] [] [] (by simp) (by simp [wkV, PV.el, PV.weak, PS.get, PS.obj, PS.lv, lkp_hit, lkp_miss, lkp_nil, lko]) (by simp [PS.get, PS.obj, PS.lv, lkp_hit, lkp_miss, lkp_nil, lko, wkL, wkC, PV.weak]) (by simp [PS.get, PS.obj, PS.lv, lkp_hit, lkp_miss, lkp_nil, lko]) (by rfl) (by rfl) (by simp [lko]) (by simp) (by simp) (by simp) (fun i hi => absurd hi (Nat.not_lt_zero i)))
      · rintro ⟨i, hi⟩
        simp -implicitDefEqProofs only [push_cast, OvS.st2, En.cs, pcs, End0, hqm, Int.reduceBEq, Int.reduceBNe, Int.reduceEq, Int.reduceNe, Int.reducePow, Nat.reduceAdd, Nat.reduceMul, Nat.reduceSub, Nat.reduceLT, Nat.reduceLeDiff, Nat.reduceEqDiff, Nat.reduceBEq, Int.reduceLT, Int.reduceLE, Int.reduceAdd, Int.reduceSub, Int.reduceMul, Int.reduceToNat, Int.reduceNeg, reduceIte, reduceCtorEq, reduceBEq]
        cases h2 : decide ((i : Int) < (q.length : Int))
        · have hii : i = q.length := by simp at h2; omega
          subst hii
          rw [List.take_length]
          simp -implicitDefEqProofs only [push_cast, h2, Int.reduceBEq, Int.reduceBNe, Int.reduceEq, Int.reduceNe, Int.reducePow, Nat.reduceAdd, Nat.reduceMul, Nat.reduceSub, Nat.reduceLT, Nat.reduceLeDiff, Nat.reduceEqDiff, Nat.reduceBEq, Int.reduceLT, Int.reduceLE, Int.reduceAdd, Int.reduceSub, Int.reduceMul, Int.reduceToNat, Int.reduceNeg, reduceIte, reduceCtorEq, reduceBEq]
          (repeat (first | refine ⟨by omega, ?_⟩ | refine ⟨by (unfold drawOk; kernel_rfl), ?_⟩ | refine ⟨by simp only [List.length_map, List.length_append, List.length_take, List.length_drop]; omega, ?_⟩))
          all_goals exact ⟨_, rfl, by simp [wkL, res2, res1, PV.weak, PV.el, En.pv, En.cs, pcs]⟩
        · have hlt : i < q.length := by simp at h2; omega
          obtain ⟨q1, q2⟩ := pstr_at hlt
          have hgt := got_fs (getsE A1 (q.take i)) (q.getD i []) (ho2 i) (by
            have := hl2 (q.getD i []) (by rw [List.getD_eq_getElem?_getD, List.getElem?_eq_getElem hlt]; exact List.getElem_mem hlt)
            omega)
          have hz := hg2 i (q.getD i []) (by rw [List.getD_eq_getElem?_getD, List.getElem?_eq_getElem hlt]; rfl)
          rw [gotR, hz, if_pos (show ((0 : Int) == 0) = true from rfl), ← gets_succ hlt] at hgt
          simp only [En.pv, En.cs, pcs] at hgt
          have hwr : IntKind.i64.wrap ((i : Int) + 1) = ((i + 1 : Nat) : Int) := by (rw [wrap_i64_id (by omega) (by omega)]; rfl)
          simp -implicitDefEqProofs only [push_cast, h2, q1, q2, Int.reduceBEq, Int.reduceBNe, Int.reduceEq, Int.reduceNe, Int.reducePow, Nat.reduceAdd, Nat.reduceMul, Nat.reduceSub, Nat.reduceLT, Nat.reduceLeDiff, Nat.reduceEqDiff, Nat.reduceBEq, Int.reduceLT, Int.reduceLE, Int.reduceAdd, Int.reduceSub, Int.reduceMul, Int.reduceToNat, Int.reduceNeg, reduceIte, reduceCtorEq, reduceBEq]
          (repeat (first | refine ⟨by omega, ?_⟩ | refine ⟨by (unfold drawOk; kernel_rfl), ?_⟩ | refine ⟨by simp only [List.length_map, List.length_append, List.length_take, List.length_drop]; omega, ?_⟩))
          refine callE_pure hgt (by rfl) (by rfl) (by rfl) (by decide) (by rfl) (fun _ => by rfl) (by first | rfl | simp [gdOk, newToks]) ?_
          simp -implicitDefEqProofs only [push_cast, hwr, Int.reduceBEq, Int.reduceBNe, Int.reduceEq, Int.reduceNe, Int.reducePow, Nat.reduceAdd, Nat.reduceMul, Nat.reduceSub, Nat.reduceLT, Nat.reduceLeDiff, Nat.reduceEqDiff, Nat.reduceBEq, Int.reduceLT, Int.reduceLE, Int.reduceAdd, Int.reduceSub, Int.reduceMul, Int.reduceToNat, Int.reduceNeg, reduceIte, reduceCtorEq, reduceBEq]
          (repeat (first | refine ⟨by omega, ?_⟩ | refine ⟨by (unfold drawOk; kernel_rfl), ?_⟩ | refine ⟨by simp only [List.length_map, List.length_append, List.length_take, List.length_drop]; omega, ?_⟩))
          refine ⟨⟨i + 1, by omega⟩, by simp only; omega, ?_⟩
          (simp only [OvS.st2, En.cs, pcs, strs, End0, List.map_nil, List.take_zero, gets_nil]; exact Wk.by _ _ _ [(0, 0), (4, 4), (8, 8), (12, 12)] [] [] (by simp) (by simp [wkV, PV.el, PV.weak, PS.get, PS.obj, PS.lv, lkp_hit, lkp_miss, lkp_nil, lko]) (by simp [PS.get, PS.obj, PS.lv, lkp_hit, lkp_miss, lkp_nil, lko, wkL, wkC, PV.weak]) (by simp [PS.get, PS.obj, PS.lv, lkp_hit, lkp_miss, lkp_nil, lko]) (by rfl) (by rfl) (by simp [lko]) (by simp) (by simp) (by simp) (fun i hi => absurd hi (Nat.not_lt_zero i)))
    · have hlt : i < p.length := by simp at h1; omega
      obtain ⟨q1, q2⟩ := pstr_at hlt
      have hgt := got_fs (getsE B (p.take i)) (p.getD i []) (ho1 i) (by
        have := hl1 (p.getD i []) (by rw [List.getD_eq_getElem?_getD, List.getElem?_eq_getElem hlt]; exact List.getElem_mem hlt)
        omega)
      have hz := hg1 i (p.getD i []) (by rw [List.getD_eq_getElem?_getD, List.getElem?_eq_getElem hlt]; rfl)
      rw [gotR, hz, if_pos (show ((0 : Int) == 0) = true from rfl), ← gets_succ hlt] at hgt
      simp only [En.pv, En.cs, pcs] at hgt
      have hwr : IntKind.i64.wrap ((i : Int) + 1) = ((i + 1 : Nat) : Int) := by (rw [wrap_i64_id (by omega) (by omega)]; rfl)
      simp -implicitDefEqProofs only [push_cast, h1, q1, q2, Int.reduceBEq, Int.reduceBNe, Int.reduceEq, Int.reduceNe, Int.reducePow, Nat.reduceAdd, Nat.reduceMul, Nat.reduceSub, Nat.reduceLT, Nat.reduceLeDiff, Nat.reduceEqDiff, Nat.reduceBEq, Int.reduceLT, Int.reduceLE, Int.reduceAdd, Int.reduceSub, Int.reduceMul, Int.reduceToNat, Int.reduceNeg, reduceIte, reduceCtorEq, reduceBEq]
      (repeat (first | refine ⟨by omega, ?_⟩ | refine ⟨by (unfold drawOk; kernel_rfl), ?_⟩ | refine ⟨by simp only [List.length_map, List.length_append, List.length_take, List.length_drop]; omega, ?_⟩))
      refine callE_pure hgt (by rfl) (by rfl) (by rfl) (by decide) (by rfl) (fun _ => by rfl) (by first | rfl | simp [gdOk, newToks]) ?_
      simp -implicitDefEqProofs only [push_cast, hwr, Int.reduceBEq, Int.reduceBNe, Int.reduceEq, Int.reduceNe, Int.reducePow, Nat.reduceAdd, Nat.reduceMul, Nat.reduceSub, Nat.reduceLT, Nat.reduceLeDiff, Nat.reduceEqDiff, Nat.reduceBEq, Int.reduceLT, Int.reduceLE, Int.reduceAdd, Int.reduceSub, Int.reduceMul, Int.reduceToNat, Int.reduceNeg, reduceIte, reduceCtorEq, reduceBEq]
      (repeat (first | refine ⟨by omega, ?_⟩ | refine ⟨by (unfold drawOk; kernel_rfl), ?_⟩ | refine ⟨by simp only [List.length_map, List.length_append, List.length_take, List.length_drop]; omega, ?_⟩))
      refine ⟨⟨i + 1, by omega⟩, by simp only; omega, ?_⟩
      (simp only [OvS.st1, En.cs, pcs, strs, End0, List.map_nil, List.take_zero, gets_nil]; exact Wk.by _ _ _ [(0, 0), (4, 4), (8, 8), (12, 12)] [] [] (by simp) (by simp [wkV, PV.el, PV.weak, PS.get, PS.obj, PS.lv, lkp_hit, lkp_miss, lkp_nil, lko]) (by simp [PS.get, PS.obj, PS.lv, lkp_hit, lkp_miss, lkp_nil, lko, wkL, wkC, PV.weak]) (by simp [PS.get, PS.obj, PS.lv, lkp_hit, lkp_miss, lkp_nil, lko]) (by rfl) (by rfl) (by simp [lko]) (by simp) (by simp) (by simp) (fun i hi => absurd hi (Nat.not_lt_zero i)))

end Go.Proofs.Lk

/- LinkCalms. -/
set_option maxRecDepth 100000
set_option linter.unusedSimpArgs false
set_option linter.unusedVariables false
namespace Go.Proofs.Lk
open Go.Pv

theorem LnOk.two {i : Nat} {l : Ln} (h : LnOk i l) (hi : i ≤ 300) : ∃ P b e Q b' e', Two l.A l.B l.S l.R l.C l.D P b e Q b' e' := by
  obtain ⟨P, b, e, Q, b', e', h1, h2⟩ := h.d
  have hs := h.s
  have hr := h.r
  exact ⟨P, b, e, Q, b', e', h1.sub (fun t ht => by cases ht), h2.sub (fun t ht => by cases ht), h.a.a16, h.b.a16, h.fa, h.fb, by omega, by omega⟩
def Fin (A B : En) (S R C D : List UInt8) : Prop := A.way = [] ∧ B.way = [] ∧ A.ack = false ∧ B.ack = false ∧ C ++ B.read = S ∧ D ++ A.read = R
def CaOk (j : Nat) (A B : En) (S R C D : List UInt8) : Prop :=
  (j = 0 ∧ ∃ P b e Q b' e', Two A B S R C D P b e Q b' e') ∨ (∃ k, j = k + 1 ∧ Calm k A B S R C D ∧ (0 < k → S.length ≤ 16 * (k - 1) → R.length ≤ 16 * (k - 1) → Fin A B S R C D))
theorem CaOk.two {j : Nat} {A B : En} {S R C D : List UInt8} (h : CaOk j A B S R C D) : ∃ P b e Q b' e', Two A B S R C D P b e Q b' e' := by
  rcases h with ⟨-, h⟩ | ⟨k, -, h, -⟩
  · exact h
  · obtain ⟨P, b, Q, b', h1, -⟩ := h.d
    exact ⟨_, _, _, _, _, _, h1⟩
theorem CaOk.tick {j : Nat} {A B : En} {S R C D : List UInt8} (h : CaOk j A B S R C D) (hj : j < 2) : OvOk A.tick B.tick ∧ CaOk (j + 1) (overA A.tick B.tick) (overB A.tick B.tick) S R C D := by
  rcases h with ⟨rfl, P, b, e, Q, b', e', h⟩ | ⟨k, rfl, h, -⟩
  · obtain ⟨h1, h2⟩ := h.tick.first (tick_due A) (tick_due B)
    exact ⟨h2, .inr ⟨0, rfl, h1, fun h0 => absurd h0 (Nat.lt_irrefl _)⟩⟩
  · obtain ⟨h1, h2, h3⟩ := h.tick.next
    exact ⟨h2, .inr ⟨k + 1, rfl, h1, fun _ => h3⟩⟩
theorem CaOk.next {j : Nat} {A B : En} {S R C D : List UInt8} (h : CaOk j A B S R C D) (hj : ¬ j < 2) : OvOk A B ∧ CaOk (j + 1) (overA A B) (overB A B) S R C D := by
  rcases h with ⟨rfl, -⟩ | ⟨k, rfl, h, -⟩
  · exact absurd (by decide) hj
  · obtain ⟨h1, h2, h3⟩ := h.next
    exact ⟨h2, .inr ⟨k + 1, rfl, h1, fun _ => h3⟩⟩
theorem CaOk.fin {j : Nat} {A B : En} {S R C D : List UInt8} (h : CaOk j A B S R C D) (hj : j = 6 + (S.length + R.length) / 8) : Fin A B S R C D := by
  rcases h with ⟨rfl, -⟩ | ⟨k, rfl, -, h⟩
  · omega
  · exact h (by omega) (by omega) (by omega)
structure CaS (S R C D : List UInt8) (N : Nat) where
  j : Nat
  hj : j ≤ N
  A : En
  B : En
  h : CaOk j A B S R C D
def CoS.st (a b : Nat) {ps : List Nat} (s : OrS ps) : PS := { n := 116, env := [(7, .int .i64 s.i), (6, .bool true), (5, .box 52 0), (4, .bool false), (1, .sl 1 (u8s ps))], objs := [(52, some s.l.cs)], live := [], nxt := 60 }
def CaS.st (l : Ln) {S R C D : List UInt8} {N : Nat} (s : CaS S R C D N) : PS := { n := 116, env := [(11, .int .i64 s.j), (10, .int .i64 N), (9, .box 116 0), (8, .box 112 0), (6, .bool true), (5, .box 52 0), (4, .bool false)], objs := [(112, some (s.A.cs (pcs s.A.way))), (116, some (s.B.cs (pcs s.B.way))), (52, some l.cs)], live := [], nxt := 400 }
set_option maxHeartbeats 16000000 in
theorem linkCalms_fs (a b : Nat) (ps : List Nat) (ha : a < 256) (hb : b < 256) (hps : ∀ p ∈ ps, p < 256) : Fsp Try.prog 7 [] 0 [.agg [.int .u8 (a : Int), .int .u8 (b : Int)], .sl 1 (u8s ps)] [] 0 (.bool true) := by
  have hul : ((u8s ps).length : Int) = (ps.length : Int) := by rw [u8s, List.length_map]
  cases h0 : decide ((200 : Int) < (ps.length : Int))
  · have hpl : ps.length ≤ 200 := by simp at h0; omega
    have hln := line_fs a b ha hb
    obtain ⟨l0, hl0⟩ : ∃ l0, l0 = ln0 a b := ⟨_, rfl⟩
    have hok := ln0_ok a b
    have hra : (ln0 a b).A.read = [] := rfl
    have hrb : (ln0 a b).B.read = [] := rfl
    rw [← hl0] at hln hok hra hrb
    simp only [Ln.pv, strs, pcs] at hln
    (refine Fsp.of (nx := 0) mixed Try.func7 rfl (by decide) (by first | exact Nat.le_refl _ | simp) (by simp [Try.f7]) ⟨by decide, by decide⟩ ?_; simp -implicitDefEqProofs only [push_cast, Try.f7, hul, h0, Int.reduceBEq, Int.reduceBNe, Int.reduceEq, Int.reduceNe, Int.reducePow, Nat.reduceAdd, Nat.reduceMul, Nat.reduceSub, Nat.reduceLT, Nat.reduceLeDiff, Nat.reduceEqDiff, Nat.reduceBEq, Int.reduceLT, Int.reduceLE, Int.reduceAdd, Int.reduceSub, Int.reduceMul, Int.reduceToNat, Int.reduceNeg, reduceIte, reduceCtorEq, reduceBEq])
    (repeat (first | refine ⟨by omega, ?_⟩ | refine ⟨by (unfold drawOk; kernel_rfl), ?_⟩ | refine ⟨by simp only [List.length_map, List.length_append, List.length_take, List.length_drop]; omega, ?_⟩))
    refine callE_pure hln (by rfl) (by rfl) (by rfl) (by decide) (by rfl) (fun _ => by rfl) (by first | rfl | simp [gdOk, newToks]) ?_
    simp -implicitDefEqProofs only [push_cast, Int.reduceBEq, Int.reduceBNe, Int.reduceEq, Int.reduceNe, Int.reducePow, Nat.reduceAdd, Nat.reduceMul, Nat.reduceSub, Nat.reduceLT, Nat.reduceLeDiff, Nat.reduceEqDiff, Nat.reduceBEq, Int.reduceLT, Int.reduceLE, Int.reduceAdd, Int.reduceSub, Int.reduceMul, Int.reduceToNat, Int.reduceNeg, reduceIte, reduceCtorEq, reduceBEq]
    refine loopC_of (α := OrS ps) (CoS.st a b) (fun s => ps.length - s.i) ⟨0, by omega, l0, hok, hra, hrb⟩ ?_ ?_
    · (simp only [CoS.st, Ln.cs, pcs, strs]; exact Wk.by _ _ _ [(52, 52)] [] [] (by simp) (by simp [wkV, PV.el, PV.weak, PS.get, PS.obj, PS.lv, lkp_hit, lkp_miss, lkp_nil, lko]) (by simp [PS.get, PS.obj, PS.lv, lkp_hit, lkp_miss, lkp_nil, lko, wkL, wkC, PV.weak]) (by simp [PS.get, PS.obj, PS.lv, lkp_hit, lkp_miss, lkp_nil, lko]) (by rfl) (by rfl) (by simp [lko]) (by simp) (by simp) (by simp) (fun i hi => absurd hi (Nat.not_lt_zero i)))
    · rintro ⟨i, hi, l, h, hA, hB⟩
      simp -implicitDefEqProofs only [push_cast, CoS.st, Ln.cs, strs, pcs, hul, Int.reduceBEq, Int.reduceBNe, Int.reduceEq, Int.reduceNe, Int.reducePow, Nat.reduceAdd, Nat.reduceMul, Nat.reduceSub, Nat.reduceLT, Nat.reduceLeDiff, Nat.reduceEqDiff, Nat.reduceBEq, Int.reduceLT, Int.reduceLE, Int.reduceAdd, Int.reduceSub, Int.reduceMul, Int.reduceToNat, Int.reduceNeg, reduceIte, reduceCtorEq, reduceBEq]
      cases h1 : decide ((i : Int) < (ps.length : Int))
      · obtain ⟨P0, b0, e0, Q0, b0', e0', h2⟩ := h.two (by omega)
        have hS := h2.s
        have hR := h2.r
        obtain ⟨N, hN⟩ : ∃ N, N = 6 + (l.S.length + l.R.length) / 8 := ⟨_, rfl⟩
        have v1 : IntKind.i64.wrap ((l.S.length : Int) + (l.R.length : Int)) = ((l.S.length + l.R.length : Nat) : Int) := by rw [wrap_i64_id (by omega) (by omega)]; omega
        obtain ⟨M, hM⟩ : ∃ M, M = l.S.length + l.R.length := ⟨_, rfl⟩
        rw [← hM] at v1
        have v2 : Int.tdiv (M : Int) 8 = ((M / 8 : Nat) : Int) := by rw [Int.tdiv_eq_ediv_of_nonneg (by omega)]; omega
        have v3 : IntKind.i64.wrap ((M / 8 : Nat) : Int) = ((M / 8 : Nat) : Int) := by rw [wrap_i64_id (by omega) (by omega)]
        have v4 : IntKind.i64.wrap (6 + ((M / 8 : Nat) : Int)) = (N : Int) := by rw [wrap_i64_id (by omega) (by omega)]; omega
        obtain ⟨M8, hM8⟩ : ∃ M8, M8 = M / 8 := ⟨_, rfl⟩
        rw [← hM8] at v2 v3 v4
        simp -implicitDefEqProofs only [push_cast, h1, v1, v2, v3, v4, Int.reduceBEq, Int.reduceBNe, Int.reduceEq, Int.reduceNe, Int.reducePow, Nat.reduceAdd, Nat.reduceMul, Nat.reduceSub, Nat.reduceLT, Nat.reduceLeDiff, Nat.reduceEqDiff, Nat.reduceBEq, Int.reduceLT, Int.reduceLE, Int.reduceAdd, Int.reduceSub, Int.reduceMul, Int.reduceToNat, Int.reduceNeg, reduceIte, reduceCtorEq, reduceBEq]
        skip
        refine ⟨by (unfold drawOk; kernel_rfl), ?_⟩
        refine loopC_of (α := CaS l.S l.R l.C l.D N) (CaS.st l) (fun s => N - s.j) ⟨0, by omega, l.A, l.B, .inl ⟨rfl, P0, b0, e0, Q0, b0', e0', h2⟩⟩ ?_ ?_
        · (simp only [CaS.st, Ln.cs, En.cs, pcs, strs, End0, List.map_nil, List.take_zero, gets_nil]; exact Wk.by _ _ _ [(112, 112), (116, 116), (52, 52)] [] [] (by simp) (by simp [wkV, PV.el, PV.weak, PS.get, PS.obj, PS.lv, lkp_hit, lkp_miss, lkp_nil, lko]) (by simp [PS.get, PS.obj, PS.lv, lkp_hit, lkp_miss, lkp_nil, lko, wkL, wkC, PV.weak]) (by simp [PS.get, PS.obj, PS.lv, lkp_hit, lkp_miss, lkp_nil, lko]) (by rfl) (by rfl) (by simp [lko]) (by simp) (by simp) (by simp) (fun i hi => absurd hi (Nat.not_lt_zero i)))
        · rintro ⟨j, hj, A, B, hc⟩
          simp -implicitDefEqProofs only [push_cast, CaS.st, Ln.cs, En.cs, strs, pcs, Int.reduceBEq, Int.reduceBNe, Int.reduceEq, Int.reduceNe, Int.reducePow, Nat.reduceAdd, Nat.reduceMul, Nat.reduceSub, Nat.reduceLT, Nat.reduceLeDiff, Nat.reduceEqDiff, Nat.reduceBEq, Int.reduceLT, Int.reduceLE, Int.reduceAdd, Int.reduceSub, Int.reduceMul, Int.reduceToNat, Int.reduceNeg, reduceIte, reduceCtorEq, reduceBEq]
          obtain ⟨P1, b1, e1, Q1, b1', e1', h3⟩ := hc.two
          have hwA := h3.x.w16
          have hwB := h3.y.w16
          have hwr : IntKind.i64.wrap ((j : Int) + 1) = ((j + 1 : Nat) : Int) := by (rw [wrap_i64_id (by omega) (by omega)]; rfl)
          cases h4 : decide ((j : Int) < (N : Int))
          · have hjN : j = N := by simp at h4; omega
            obtain ⟨f1, f2, f3, f4, f5, f6⟩ := hc.fin (by omega)
            have hrA := read_fs A
            have hrB := read_fs B
            have hqA := quiet_fs { A with read := [] }
            have hqB := quiet_fs { B with read := [] }
            rw [show (decide (({ A with read := [] } : En).way.length = 0) && !({ A with read := [] } : En).ack) = true by simp [f1, f3]] at hqA
            rw [show (decide (({ B with read := [] } : En).way.length = 0) && !({ B with read := [] } : En).ack) = true by simp [f2, f4]] at hqB
            simp only [En.pv, En.cs, pcs] at hrA hrB hqA hqB
            have hl5 := congrArg List.length f5
            have hl6 := congrArg List.length f6
            rw [List.length_append] at hl5 hl6
            simp -implicitDefEqProofs only [push_cast, h4, Int.reduceBEq, Int.reduceBNe, Int.reduceEq, Int.reduceNe, Int.reducePow, Nat.reduceAdd, Nat.reduceMul, Nat.reduceSub, Nat.reduceLT, Nat.reduceLeDiff, Nat.reduceEqDiff, Nat.reduceBEq, Int.reduceLT, Int.reduceLE, Int.reduceAdd, Int.reduceSub, Int.reduceMul, Int.reduceToNat, Int.reduceNeg, reduceIte, reduceCtorEq, reduceBEq]
            (repeat (first | refine ⟨by omega, ?_⟩ | refine ⟨by (unfold drawOk; kernel_rfl), ?_⟩ | refine ⟨by simp only [List.length_map, List.length_append, List.length_take, List.length_drop]; omega, ?_⟩))
            refine callE_pure hrB (by rfl) (by rfl) (by rfl) (by decide) (by rfl) (fun _ => by rfl) (by first | rfl | simp [gdOk, newToks]) ?_
            simp -implicitDefEqProofs only [push_cast, Int.reduceBEq, Int.reduceBNe, Int.reduceEq, Int.reduceNe, Int.reducePow, Nat.reduceAdd, Nat.reduceMul, Nat.reduceSub, Nat.reduceLT, Nat.reduceLeDiff, Nat.reduceEqDiff, Nat.reduceBEq, Int.reduceLT, Int.reduceLE, Int.reduceAdd, Int.reduceSub, Int.reduceMul, Int.reduceToNat, Int.reduceNeg, reduceIte, reduceCtorEq, reduceBEq]
            (repeat (first | refine ⟨by omega, ?_⟩ | refine ⟨by (unfold drawOk; kernel_rfl), ?_⟩ | refine ⟨by simp only [List.length_map, List.length_append, List.length_take, List.length_drop]; omega, ?_⟩))
            refine callE_pure hrA (by rfl) (by rfl) (by rfl) (by decide) (by rfl) (fun _ => by rfl) (by first | rfl | simp [gdOk, newToks]) ?_
            simp -implicitDefEqProofs only [push_cast, f5, f6, beq_self_eq_true, Int.reduceBEq, Int.reduceBNe, Int.reduceEq, Int.reduceNe, Int.reducePow, Nat.reduceAdd, Nat.reduceMul, Nat.reduceSub, Nat.reduceLT, Nat.reduceLeDiff, Nat.reduceEqDiff, Nat.reduceBEq, Int.reduceLT, Int.reduceLE, Int.reduceAdd, Int.reduceSub, Int.reduceMul, Int.reduceToNat, Int.reduceNeg, reduceIte, reduceCtorEq, reduceBEq]
            (repeat (first | refine ⟨by omega, ?_⟩ | refine ⟨by (unfold drawOk; kernel_rfl), ?_⟩ | refine ⟨by simp only [List.length_map, List.length_append, List.length_take, List.length_drop]; omega, ?_⟩))
            refine callE_pure hqA (by rfl) (by rfl) (by rfl) (by decide) (by rfl) (fun _ => by rfl) (by first | rfl | simp [gdOk, newToks]) ?_
            simp -implicitDefEqProofs only [push_cast, Int.reduceBEq, Int.reduceBNe, Int.reduceEq, Int.reduceNe, Int.reducePow, Nat.reduceAdd, Nat.reduceMul, Nat.reduceSub, Nat.reduceLT, Nat.reduceLeDiff, Nat.reduceEqDiff, Nat.reduceBEq, Int.reduceLT, Int.reduceLE, Int.reduceAdd, Int.reduceSub, Int.reduceMul, Int.reduceToNat, Int.reduceNeg, reduceIte, reduceCtorEq, reduceBEq]
            refine callE_pure hqB (by rfl) (by rfl) (by rfl) (by decide) (by rfl) (fun _ => by rfl) (by first | rfl | simp [gdOk, newToks]) ?_
            simp -implicitDefEqProofs only [push_cast, Int.reduceBEq, Int.reduceBNe, Int.reduceEq, Int.reduceNe, Int.reducePow, Nat.reduceAdd, Nat.reduceMul, Nat.reduceSub, Nat.reduceLT, Nat.reduceLeDiff, Nat.reduceEqDiff, Nat.reduceBEq, Int.reduceLT, Int.reduceLE, Int.reduceAdd, Int.reduceSub, Int.reduceMul, Int.reduceToNat, Int.reduceNeg, reduceIte, reduceCtorEq, reduceBEq]
            refine callE_pure awake_fs (by rfl) (by rfl) (by rfl) (by decide) (by rfl) (fun _ => by rfl) (by first | rfl | simp [gdOk, newToks]) ?_
            simp -implicitDefEqProofs only [push_cast, Int.reduceBEq, Int.reduceBNe, Int.reduceEq, Int.reduceNe, Int.reducePow, Nat.reduceAdd, Nat.reduceMul, Nat.reduceSub, Nat.reduceLT, Nat.reduceLeDiff, Nat.reduceEqDiff, Nat.reduceBEq, Int.reduceLT, Int.reduceLE, Int.reduceAdd, Int.reduceSub, Int.reduceMul, Int.reduceToNat, Int.reduceNeg, reduceIte, reduceCtorEq, reduceBEq]
            (repeat (first | refine ⟨by omega, ?_⟩ | refine ⟨by (unfold drawOk; kernel_rfl), ?_⟩ | refine ⟨by simp only [List.length_map, List.length_append, List.length_take, List.length_drop]; omega, ?_⟩))
          · have hlt : j < N := by simp at h4; omega
            cases h5 : decide ((j : Int) < 2)
            · have h5' : ¬ j < 2 := by simp at h5; omega
              obtain ⟨k1, k2⟩ := hc.next h5'
              have hov := over_fs A B k1
              generalize overA A B = X at *
              generalize overB A B = Y at *
              simp only [En.pv, En.cs, pcs] at hov
              simp -implicitDefEqProofs only [push_cast, h4, h5, Int.reduceBEq, Int.reduceBNe, Int.reduceEq, Int.reduceNe, Int.reducePow, Nat.reduceAdd, Nat.reduceMul, Nat.reduceSub, Nat.reduceLT, Nat.reduceLeDiff, Nat.reduceEqDiff, Nat.reduceBEq, Int.reduceLT, Int.reduceLE, Int.reduceAdd, Int.reduceSub, Int.reduceMul, Int.reduceToNat, Int.reduceNeg, reduceIte, reduceCtorEq, reduceBEq]
              (repeat (first | refine ⟨by omega, ?_⟩ | refine ⟨by (unfold drawOk; kernel_rfl), ?_⟩ | refine ⟨by simp only [List.length_map, List.length_append, List.length_take, List.length_drop]; omega, ?_⟩))
              refine callE_pure hov (by rfl) (by rfl) (by rfl) (by decide) (by rfl) (fun _ => by rfl) (by first | rfl | simp [gdOk, newToks]) ?_
              simp -implicitDefEqProofs only [push_cast, hwr, Int.reduceBEq, Int.reduceBNe, Int.reduceEq, Int.reduceNe, Int.reducePow, Nat.reduceAdd, Nat.reduceMul, Nat.reduceSub, Nat.reduceLT, Nat.reduceLeDiff, Nat.reduceEqDiff, Nat.reduceBEq, Int.reduceLT, Int.reduceLE, Int.reduceAdd, Int.reduceSub, Int.reduceMul, Int.reduceToNat, Int.reduceNeg, reduceIte, reduceCtorEq, reduceBEq]
              (repeat (first | refine ⟨by omega, ?_⟩ | refine ⟨by (unfold drawOk; kernel_rfl), ?_⟩ | refine ⟨by simp only [List.length_map, List.length_append, List.length_take, List.length_drop]; omega, ?_⟩))
              refine ⟨⟨j + 1, by omega, X, Y, k2⟩, by simp only; omega, ?_⟩
              (simp only [CaS.st, Ln.cs, En.cs, pcs, strs, End0, List.map_nil, List.take_zero, gets_nil]; exact Wk.by _ _ _ [(112, 112), (116, 116), (52, 52)] [] [] (by simp) (by simp [wkV, PV.el, PV.weak, PS.get, PS.obj, PS.lv, lkp_hit, lkp_miss, lkp_nil, lko]) (by simp [PS.get, PS.obj, PS.lv, lkp_hit, lkp_miss, lkp_nil, lko, wkL, wkC, PV.weak]) (by simp [PS.get, PS.obj, PS.lv, lkp_hit, lkp_miss, lkp_nil, lko]) (by rfl) (by rfl) (by simp [lko]) (by simp) (by simp) (by simp) (fun i hi => absurd hi (Nat.not_lt_zero i)))
            · have h5' : j < 2 := by simp at h5; omega
              obtain ⟨k1, k2⟩ := hc.tick h5'
              have htA := tick_fs A (by omega)
              have htB := tick_fs B (by omega)
              have hov := over_fs A.tick B.tick k1
              generalize overA A.tick B.tick = X at *
              generalize overB A.tick B.tick = Y at *
              generalize A.tick = A1 at *
              generalize B.tick = B1 at *
              simp only [En.pv, En.cs, pcs] at hov htA htB
              simp -implicitDefEqProofs only [push_cast, h4, h5, Int.reduceBEq, Int.reduceBNe, Int.reduceEq, Int.reduceNe, Int.reducePow, Nat.reduceAdd, Nat.reduceMul, Nat.reduceSub, Nat.reduceLT, Nat.reduceLeDiff, Nat.reduceEqDiff, Nat.reduceBEq, Int.reduceLT, Int.reduceLE, Int.reduceAdd, Int.reduceSub, Int.reduceMul, Int.reduceToNat, Int.reduceNeg, reduceIte, reduceCtorEq, reduceBEq]
              (repeat (first | refine ⟨by omega, ?_⟩ | refine ⟨by (unfold drawOk; kernel_rfl), ?_⟩ | refine ⟨by simp only [List.length_map, List.length_append, List.length_take, List.length_drop]; omega, ?_⟩))
              refine callE_pure htA (by rfl) (by rfl) (by rfl) (by decide) (by rfl) (fun _ => by rfl) (by first | rfl | simp [gdOk, newToks]) ?_
              simp -implicitDefEqProofs only [push_cast, Int.reduceBEq, Int.reduceBNe, Int.reduceEq, Int.reduceNe, Int.reducePow, Nat.reduceAdd, Nat.reduceMul, Nat.reduceSub, Nat.reduceLT, Nat.reduceLeDiff, Nat.reduceEqDiff, Nat.reduceBEq, Int.reduceLT, Int.reduceLE, Int.reduceAdd, Int.reduceSub, Int.reduceMul, Int.reduceToNat, Int.reduceNeg, reduceIte, reduceCtorEq, reduceBEq]
              (repeat (first | refine ⟨by omega, ?_⟩ | refine ⟨by (unfold drawOk; kernel_rfl), ?_⟩ | refine ⟨by simp only [List.length_map, List.length_append, List.length_take, List.length_drop]; omega, ?_⟩))
              refine callE_pure htB (by rfl) (by rfl) (by rfl) (by decide) (by rfl) (fun _ => by rfl) (by first | rfl | simp [gdOk, newToks]) ?_
              simp -implicitDefEqProofs only [push_cast, Int.reduceBEq, Int.reduceBNe, Int.reduceEq, Int.reduceNe, Int.reducePow, Nat.reduceAdd, Nat.reduceMul, Nat.reduceSub, Nat.reduceLT, Nat.reduceLeDiff, Nat.reduceEqDiff, Nat.reduceBEq, Int.reduceLT, Int.reduceLE, Int.reduceAdd, Int.reduceSub, Int.reduceMul, Int.reduceToNat, Int.reduceNeg, reduceIte, reduceCtorEq, reduceBEq]
              (repeat (first | refine ⟨by omega, ?_⟩ | refine ⟨by (unfold drawOk; kernel_rfl), ?_⟩ | refine ⟨by simp only [List.length_map, List.length_append, List.length_take, List.length_drop]; omega, ?_⟩))
              refine callE_pure hov (by rfl) (by rfl) (by rfl) (by decide) (by rfl) (fun _ => by rfl) (by first | rfl | simp [gdOk, newToks]) ?_
              simp -implicitDefEqProofs only [push_cast, hwr, Int.reduceBEq, Int.reduceBNe, Int.reduceEq, Int.reduceNe, Int.reducePow, Nat.reduceAdd, Nat.reduceMul, Nat.reduceSub, Nat.reduceLT, Nat.reduceLeDiff, Nat.reduceEqDiff, Nat.reduceBEq, Int.reduceLT, Int.reduceLE, Int.reduceAdd, Int.reduceSub, Int.reduceMul, Int.reduceToNat, Int.reduceNeg, reduceIte, reduceCtorEq, reduceBEq]
              (repeat (first | refine ⟨by omega, ?_⟩ | refine ⟨by (unfold drawOk; kernel_rfl), ?_⟩ | refine ⟨by simp only [List.length_map, List.length_append, List.length_take, List.length_drop]; omega, ?_⟩))
              refine ⟨⟨j + 1, by omega, X, Y, k2⟩, by simp only; omega, ?_⟩
              (simp only [CaS.st, Ln.cs, En.cs, pcs, strs, End0, List.map_nil, List.take_zero, gets_nil]; exact Wk.by _ _ _ [(112, 112), (116, 116), (52, 52)] [] [] (by simp) (by simp [wkV, PV.el, PV.weak, PS.get, PS.obj, PS.lv, lkp_hit, lkp_miss, lkp_nil, lko]) (by simp [PS.get, PS.obj, PS.lv, lkp_hit, lkp_miss, lkp_nil, lko, wkL, wkC, PV.weak]) (by simp [PS.get, PS.obj, PS.lv, lkp_hit, lkp_miss, lkp_nil, lko]) (by rfl) (by rfl) (by simp [lko]) (by simp) (by simp) (by simp) (fun i hi => absurd hi (Nat.not_lt_zero i)))
      · have hlt : i < ps.length := by simp at h1; omega
        have hg := u8s_at hlt
        have hgd : (u8s ps).getD i PV.any = .int .u8 (ps.getD i 0 : Nat) := by rw [List.getD_eq_getElem?_getD, hg]; rfl
        have hp : ps.getD i 0 < 256 := by
          rw [List.getD_eq_getElem?_getD, List.getElem?_eq_getElem hlt]
          exact hps _ (List.getElem_mem hlt)
        have hst := step_fs l (ps.getD i 0) hp h (by omega) hA hB
        obtain ⟨k1, k2, k3⟩ := step_ok h (by omega) (ps.getD i 0) hA hB
        have hwr : IntKind.i64.wrap ((i : Int) + 1) = ((i + 1 : Nat) : Int) := by (rw [wrap_i64_id (by omega) (by omega)]; rfl)
        simp only [Ln.pv, strs, pcs] at hst
        generalize ps.getD i 0 = q at *
        generalize l.step q = X at *
        simp -implicitDefEqProofs only [push_cast, h1, hg, hgd, Int.reduceBEq, Int.reduceBNe, Int.reduceEq, Int.reduceNe, Int.reducePow, Nat.reduceAdd, Nat.reduceMul, Nat.reduceSub, Nat.reduceLT, Nat.reduceLeDiff, Nat.reduceEqDiff, Nat.reduceBEq, Int.reduceLT, Int.reduceLE, Int.reduceAdd, Int.reduceSub, Int.reduceMul, Int.reduceToNat, Int.reduceNeg, reduceIte, reduceCtorEq, reduceBEq]
        (repeat (first | refine ⟨by omega, ?_⟩ | refine ⟨by (unfold drawOk; kernel_rfl), ?_⟩ | refine ⟨by simp only [List.length_map, List.length_append, List.length_take, List.length_drop]; omega, ?_⟩))
        refine callE_pure hst (by rfl) (by rfl) (by rfl) (by decide) (by rfl) (fun _ => by rfl) (by first | rfl | simp [gdOk, newToks]) ?_
        simp -implicitDefEqProofs only [push_cast, hwr, Int.reduceBEq, Int.reduceBNe, Int.reduceEq, Int.reduceNe, Int.reducePow, Nat.reduceAdd, Nat.reduceMul, Nat.reduceSub, Nat.reduceLT, Nat.reduceLeDiff, Nat.reduceEqDiff, Nat.reduceBEq, Int.reduceLT, Int.reduceLE, Int.reduceAdd, Int.reduceSub, Int.reduceMul, Int.reduceToNat, Int.reduceNeg, reduceIte, reduceCtorEq, reduceBEq]
        (repeat (first | refine ⟨by omega, ?_⟩ | refine ⟨by (unfold drawOk; kernel_rfl), ?_⟩ | refine ⟨by simp only [List.length_map, List.length_append, List.length_take, List.length_drop]; omega, ?_⟩))
        refine ⟨⟨i + 1, by omega, X, k1, k2, k3⟩, by simp only; omega, ?_⟩
        (simp only [CoS.st, Ln.cs, pcs, strs]; exact Wk.by _ _ _ [(52, 52)] [] [] (by simp) (by simp [wkV, PV.el, PV.weak, PS.get, PS.obj, PS.lv, lkp_hit, lkp_miss, lkp_nil, lko]) (by simp [PS.get, PS.obj, PS.lv, lkp_hit, lkp_miss, lkp_nil, lko, wkL, wkC, PV.weak]) (by simp [PS.get, PS.obj, PS.lv, lkp_hit, lkp_miss, lkp_nil, lko]) (by rfl) (by rfl) (by simp [lko]) (by simp) (by simp) (by simp) (fun i hi => absurd hi (Nat.not_lt_zero i)))
  · (refine Fsp.of (nx := 0) mixed Try.func7 rfl (by decide) (by first | exact Nat.le_refl _ | simp) (by simp [Try.f7]) ⟨by decide, by decide⟩ ?_; simp -implicitDefEqProofs only [push_cast, Try.f7, hul, h0, Int.reduceBEq, Int.reduceBNe, Int.reduceEq, Int.reduceNe, Int.reducePow, Nat.reduceAdd, Nat.reduceMul, Nat.reduceSub, Nat.reduceLT, Nat.reduceLeDiff, Nat.reduceEqDiff, Nat.reduceBEq, Int.reduceLT, Int.reduceLE, Int.reduceAdd, Int.reduceSub, Int.reduceMul, Int.reduceToNat, Int.reduceNeg, reduceIte, reduceCtorEq, reduceBEq])
    (repeat (first | refine ⟨by omega, ?_⟩ | refine ⟨by (unfold drawOk; kernel_rfl), ?_⟩ | refine ⟨by simp only [List.length_map, List.length_append, List.length_take, List.length_drop]; omega, ?_⟩))
    refine callE_pure awake_fs (by rfl) (by rfl) (by rfl) (by decide) (by rfl) (fun _ => by rfl) (by first | rfl | simp [gdOk, newToks]) ?_
    simp -implicitDefEqProofs only [push_cast, Int.reduceBEq, Int.reduceBNe, Int.reduceEq, Int.reduceNe, Int.reducePow, Nat.reduceAdd, Nat.reduceMul, Nat.reduceSub, Nat.reduceLT, Nat.reduceLeDiff, Nat.reduceEqDiff, Nat.reduceBEq, Int.reduceLT, Int.reduceLE, Int.reduceAdd, Int.reduceSub, Int.reduceMul, Int.reduceToNat, Int.reduceNeg, reduceIte, reduceCtorEq, reduceBEq]

end Go.Proofs.Lk
