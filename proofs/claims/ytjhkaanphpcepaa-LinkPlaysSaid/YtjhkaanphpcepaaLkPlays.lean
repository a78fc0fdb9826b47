/- LinkPlays. -/
import Derived.Test.YtjhkaanphpcepaaLkPlays0
import Derived.Test.YtjhkaanphpcepaaLkTexts
import Derived.Test.YtjhkaanphpcepaaLkAwake
import Derived.Test.YtjhkaanphpcepaaPvXe
set_option maxRecDepth 100000
set_option linter.unusedSimpArgs false
set_option linter.unusedVariables false
namespace Go.Proofs.Lk
open Go.Pv

def wz (z : Bool) (l : List Pc) : PV := if z = true then .nilsl else pcs l
theorem zz {f : FuncId} {args : List PV} {r : PV} {e : En} {L : List Pc} (z : Bool) (hz : z = true → e.way = [] ∧ L = []) (h : Fsp Try.prog f [] 0 (rpv e L :: args) [] 0 r) : Fsp Try.prog f [] 0 (.agg (rcs e (wz z e.way) (wz z L)) :: args) [] 0 r := by
  cases z
  · exact h
  · obtain ⟨h1, h2⟩ := hz rfl
    refine h.nils ⟨?_, ?_⟩
    · rw [rpv, h1, h2]
      exact nlV_agg ⟨.inl rfl, .inl rfl, .inr ⟨rfl, 3, rfl⟩, .inl rfl, .inl rfl, .inr ⟨rfl, 3, rfl⟩, .inl rfl, .inl rfl, trivial⟩
    · clear h
      induction args with
      | nil => trivial
      | cons a l ih => exact ⟨nlV_same a, ih⟩
theorem Jn.sendc {i : Nat} {e : En} {L : List Pc} (h : Jn i e L) {b : List UInt8} (hb : b.length ≤ 3000) : ∃ (e' : En) (c : Int), sendR e b = .tup [e'.pv, .int .i64 c] ∧ rsendR e L b = .tup [rpv e' L, .int .i64 c] ∧ Jn (i + 1) e' L := by
  unfold sendR rsendR
  split
  · exact ⟨e, 9, rfl, rfl, h.up⟩
  · rename_i hm
    split
    · exact ⟨e, 12, rfl, rfl, h.up⟩
    · exact ⟨e.sendE b, 0, rfl, rfl, h.send hb (by simpa using hm)⟩
theorem Jn.gotc {i : Nat} {e : En} {L : List Pc} (h : Jn i e L) {b : List UInt8} (hb : b.length ≤ 3000) : ∃ (e' : En) (L' : List Pc) (c : Int), gotR e b = .tup [e'.pv, .int .i64 c] ∧ rgotR e L b = .tup [rpv e' L', .int .i64 c] ∧ Jn (i + 1) e' L' := by
  unfold gotR rgotR
  rw [rgotN_eq]
  by_cases hg : gotN e b = 0
  · obtain ⟨L', q1, q2⟩ := h.got hb hg
    rw [if_pos (by simp [hg]), if_pos (by simp [hg]), q1]
    exact ⟨e.gotE b, L', _, rfl, rfl, q2⟩
  · rw [if_neg (by simpa using hg), if_neg (by simpa using hg)]
    exact ⟨e, L, _, rfl, rfl, h.up⟩
theorem dueP_le (e : En) (h : e.way.length ≤ 1000) : e.dueP.length ≤ 1000000 := by
  have hl : (dueStr e e.way).length ≤ e.way.length := by rw [dueStr, List.length_map]; exact List.length_filter_le _ _
  rw [En.dueP]
  split
  · simp
  · omega
structure PlS (l : List Ac) where
  i : Nat
  hi : i ≤ l.length
  e : En
  L : List Pc
  h : Jn i e L
  z : Bool
  hz : z = true → e.way = [] ∧ L = []
def PlS.st {l : List Ac} (a : PlS l) : PS := { n := 157, env := [(8, .int .i64 a.i), (7, .box 1 0), (5, .box 0 0), (1, .sl 2 (l.map Ac.pv))], objs := [(0, some (a.e.cs (pcs a.e.way))), (1, some (rcs a.e (wz a.z a.e.way) (wz a.z a.L)))], live := [], nxt := 60 }
theorem bneSelf {α : Type} [BEq α] [LawfulBEq α] (c : α) : (c != c) = false := by simp
set_option maxHeartbeats 16000000 in
theorem plays_loop (l : List Ac) : True := trivial
set_option maxHeartbeats 16000000 in
theorem plays_fs (m : Int) (l : List Ac) : Fsp Try.prog 6 [] 0 [.int .i64 m, .sl 2 (l.map Ac.pv)] [] 0 (.bool true) := by
  have hgr := great_fs l
  (refine Fsp.of (nx := 0) mixed Try.func6 rfl (by decide) (by first | exact Nat.le_refl _ | simp) (by simp [Try.f6]) ⟨by decide, by decide⟩ ?_; simp -implicitDefEqProofs only [push_cast, Try.f6, Int.reduceBEq, Int.reduceBNe, Int.reduceEq, Int.reduceNe, Int.reducePow, Nat.reduceAdd, Nat.reduceMul, Nat.reduceSub, Nat.reduceLT, Nat.reduceLeDiff, Nat.reduceEqDiff, Nat.reduceBEq, Int.reduceLT, Int.reduceLE, Int.reduceAdd, Int.reduceSub, Int.reduceMul, Int.reduceToNat, Int.reduceNeg, reduceIte, reduceCtorEq, reduceBEq])
  refine callE_pure hgr (by rfl) (by rfl) (by rfl) (by decide) (by rfl) (fun _ => by rfl) (by first | rfl | simp [gdOk, newToks]) ?_
  simp -implicitDefEqProofs only [push_cast, Int.reduceBEq, Int.reduceBNe, Int.reduceEq, Int.reduceNe, Int.reducePow, Nat.reduceAdd, Nat.reduceMul, Nat.reduceSub, Nat.reduceLT, Nat.reduceLeDiff, Nat.reduceEqDiff, Nat.reduceBEq, Int.reduceLT, Int.reduceLE, Int.reduceAdd, Int.reduceSub, Int.reduceMul, Int.reduceToNat, Int.reduceNeg, reduceIte, reduceCtorEq, reduceBEq]
  (try refine ⟨by (unfold drawOk; kernel_rfl), ?_⟩)
  refine condC_split (fun h => ?_) (fun h => ?_)
  · simp -implicitDefEqProofs only [push_cast, Int.reduceBEq, Int.reduceBNe, Int.reduceEq, Int.reduceNe, Int.reducePow, Nat.reduceAdd, Nat.reduceMul, Nat.reduceSub, Nat.reduceLT, Nat.reduceLeDiff, Nat.reduceEqDiff, Nat.reduceBEq, Int.reduceLT, Int.reduceLE, Int.reduceAdd, Int.reduceSub, Int.reduceMul, Int.reduceToNat, Int.reduceNeg, reduceIte, reduceCtorEq, reduceBEq]
    refine callE_pure awake_fs (by rfl) (by rfl) (by rfl) (by decide) (by rfl) (fun _ => by rfl) (by first | rfl | simp [gdOk, newToks]) ?_
    simp -implicitDefEqProofs only [push_cast, Int.reduceBEq, Int.reduceBNe, Int.reduceEq, Int.reduceNe, Int.reducePow, Nat.reduceAdd, Nat.reduceMul, Nat.reduceSub, Nat.reduceLT, Nat.reduceLeDiff, Nat.reduceEqDiff, Nat.reduceBEq, Int.reduceLT, Int.reduceLE, Int.reduceAdd, Int.reduceSub, Int.reduceMul, Int.reduceToNat, Int.reduceNeg, reduceIte, reduceCtorEq, reduceBEq]
  · obtain ⟨hlen, hall⟩ : l.length ≤ 60 ∧ ∀ q ∈ l, q.b.length ≤ 3000 := by
      rw [greatB, Bool.or_eq_false_iff] at h
      obtain ⟨g1, g2⟩ := h
      have g3 := of_decide_eq_false g2
      have hle : l.length ≤ 60 := by omega
      rw [List.take_of_length_le hle, List.any_eq_false] at g1
      refine ⟨hle, fun q hq => ?_⟩
      have := g1 q hq
      simp at this; omega
    have hnew := new_fs m
    by_cases hm : (decide (m < 1) || decide (1024 < m)) = true
    · rw [newR, if_pos hm] at hnew
      have hc : (decide (1 ≤ m) && decide (m ≤ 1024)) = false := by simp at hm ⊢; omega
      obtain ⟨e0, he0⟩ : ∃ e : En, e = End0 := ⟨_, rfl⟩
      rw [← he0] at hnew
      have hj0 : Jn 0 e0 [] := by
        subst he0
        exact ⟨⟨by simp [End0], by simp [End0], by simp [End0], (fun p hp => by cases hp), by simp [End0], by simp [End0], by simp [End0], by simp [End0], by simp [End0], fun j _ => rfl, fun j => Nat.zero_le _, by simp [End0]⟩, ⟨fun j => rfl, by simp, by simp, by simp⟩, rfl, by simp, by simp [pcSum], ⟨by simp [End0], by simp [End0]⟩, fun _ => ⟨rfl, rfl⟩⟩
      have hw0 : e0.way = [] := by subst he0; rfl
      simp only [rpv, rcs, pcs, wz, if_true, if_false, Bool.false_eq_true, reduceIte, En.pv, En.cs] at hnew
      simp -implicitDefEqProofs only [push_cast, Int.reduceBEq, Int.reduceBNe, Int.reduceEq, Int.reduceNe, Int.reducePow, Nat.reduceAdd, Nat.reduceMul, Nat.reduceSub, Nat.reduceLT, Nat.reduceLeDiff, Nat.reduceEqDiff, Nat.reduceBEq, Int.reduceLT, Int.reduceLE, Int.reduceAdd, Int.reduceSub, Int.reduceMul, Int.reduceToNat, Int.reduceNeg, reduceIte, reduceCtorEq, reduceBEq]
      refine callE_pure hnew (by rfl) (by rfl) (by rfl) (by decide) (by rfl) (fun _ => by rfl) (by first | rfl | simp [gdOk, newToks]) ?_
      simp -implicitDefEqProofs only [push_cast, hc, Int.reduceBEq, Int.reduceBNe, Int.reduceEq, Int.reduceNe, Int.reducePow, Nat.reduceAdd, Nat.reduceMul, Nat.reduceSub, Nat.reduceLT, Nat.reduceLeDiff, Nat.reduceEqDiff, Nat.reduceBEq, Int.reduceLT, Int.reduceLE, Int.reduceAdd, Int.reduceSub, Int.reduceMul, Int.reduceToNat, Int.reduceNeg, reduceIte, reduceCtorEq, reduceBEq]
      obtain ⟨y1, y2, y3, y4, y5, y6⟩ : e0.most = 0 ∧ e0.rest = [] ∧ e0.next = 0 ∧ e0.exp = 0 ∧ e0.read = [] ∧ e0.ack = false := by subst he0; exact ⟨rfl, rfl, rfl, rfl, rfl, rfl⟩
      refine loopC_of (α := PlS l) PlS.st (fun x => l.length - x.i) ⟨0, by omega, e0, [], hj0, true, fun _ => ⟨hw0, rfl⟩⟩ ?_ ?_
      · (simp only [PlS.st, rpv, rcs, pcs, wz, if_true, if_false, Bool.false_eq_true, reduceIte, En.pv, En.cs]; exact Wk.by _ _ _ [(0, 32), (1, 44)] [] [] (by simp) (by simp [wkV, PV.el, PV.weak, PS.get, PS.obj, PS.lv, lkp_hit, lkp_miss, lkp_nil, lko, y1, y2, y3, y4, y5, y6, hw0]) (by simp [PS.get, PS.obj, PS.lv, lkp_hit, lkp_miss, lkp_nil, lko, wkL, wkC, PV.weak, y1, y2, y3, y4, y5, y6, hw0]) (by simp [PS.get, PS.obj, PS.lv, lkp_hit, lkp_miss, lkp_nil, lko]) (by rfl) (by rfl) (by simp [lko]) (by simp) (by simp) (by simp) (fun i hi => absurd hi (Nat.not_lt_zero i)))
      · rintro ⟨i, hi, e, L, hj, z, hz⟩
        simp -implicitDefEqProofs only [push_cast, PlS.st, Int.reduceBEq, Int.reduceBNe, Int.reduceEq, Int.reduceNe, Int.reducePow, Nat.reduceAdd, Nat.reduceMul, Nat.reduceSub, Nat.reduceLT, Nat.reduceLeDiff, Nat.reduceEqDiff, Nat.reduceBEq, Int.reduceLT, Int.reduceLE, Int.reduceAdd, Int.reduceSub, Int.reduceMul, Int.reduceToNat, Int.reduceNeg, reduceIte, reduceCtorEq, reduceBEq]
        refine condC_split (fun h2 => ?_) (fun h2 => ?_)
        · have hlt : i < l.length := by simp at h2; omega
          have hg := acs_at hlt
          have hqs : (l.getD i ac0).b.length ≤ 3000 := by
            rw [List.getD_eq_getElem?_getD, List.getElem?_eq_getElem hlt, Option.getD_some]
            exact hall _ (List.getElem_mem _)
          have hwr : IntKind.i64.wrap ((i : Int) + 1) = ((i + 1 : Nat) : Int) := by (rw [wrap_i64_id (by omega) (by omega)]; rfl)
          have hlt' : (i : Int) < ((l.map Ac.pv).length : Int) := by rw [List.length_map]; omega
          generalize l.getD i ac0 = q at hg hqs
          cases z
          · simp only [rpv, rcs, pcs, wz, if_true, if_false, Bool.false_eq_true, reduceIte, En.pv, En.cs]
            simp -implicitDefEqProofs only [push_cast, hg, Ac.pv, Int.reduceBEq, Int.reduceBNe, Int.reduceEq, Int.reduceNe, Int.reducePow, Nat.reduceAdd, Nat.reduceMul, Nat.reduceSub, Nat.reduceLT, Nat.reduceLeDiff, Nat.reduceEqDiff, Nat.reduceBEq, Int.reduceLT, Int.reduceLE, Int.reduceAdd, Int.reduceSub, Int.reduceMul, Int.reduceToNat, Int.reduceNeg, reduceIte, reduceCtorEq, reduceBEq]
            refine ⟨hlt', ?_⟩
            refine condC_split (fun h3 => ?_) (fun h3 => ?_)
            · obtain ⟨e', c, hR, hR2, hJ⟩ := hj.sendc hqs
              have hs := send_fs e q.b (hj.bk.ok (by omega)) (by omega)
              have hs2 := zz false hz (rsend_fs e L q.b (hj.bk.ok (by omega)) (by omega) (by have := hj.bk.r; omega))
              rw [hR] at hs
              rw [hR2] at hs2
              simp only [rpv, rcs, pcs, wz, if_true, if_false, Bool.false_eq_true, reduceIte, En.pv, En.cs] at hs hs2
              simp -implicitDefEqProofs only [push_cast, hg, Ac.pv, bneSelf, Int.reduceBEq, Int.reduceBNe, Int.reduceEq, Int.reduceNe, Int.reducePow, Nat.reduceAdd, Nat.reduceMul, Nat.reduceSub, Nat.reduceLT, Nat.reduceLeDiff, Nat.reduceEqDiff, Nat.reduceBEq, Int.reduceLT, Int.reduceLE, Int.reduceAdd, Int.reduceSub, Int.reduceMul, Int.reduceToNat, Int.reduceNeg, reduceIte, reduceCtorEq, reduceBEq]
              (try refine ⟨by (unfold drawOk; kernel_rfl), ?_⟩)
              refine ⟨hlt', ?_⟩
              refine callE_pure hs (by rfl) (by rfl) (by rfl) (by decide) (by rfl) (fun _ => by rfl) (by first | rfl | simp [gdOk, newToks]) ?_
              simp -implicitDefEqProofs only [push_cast, hg, Ac.pv, bneSelf, Int.reduceBEq, Int.reduceBNe, Int.reduceEq, Int.reduceNe, Int.reducePow, Nat.reduceAdd, Nat.reduceMul, Nat.reduceSub, Nat.reduceLT, Nat.reduceLeDiff, Nat.reduceEqDiff, Nat.reduceBEq, Int.reduceLT, Int.reduceLE, Int.reduceAdd, Int.reduceSub, Int.reduceMul, Int.reduceToNat, Int.reduceNeg, reduceIte, reduceCtorEq, reduceBEq]
              (try refine ⟨by (unfold drawOk; kernel_rfl), ?_⟩)
              refine ⟨hlt', ?_⟩
              refine callE_pure hs2 (by rfl) (by rfl) (by rfl) (by decide) (by rfl) (fun _ => by rfl) (by first | rfl | simp [gdOk, newToks]) ?_
              simp -implicitDefEqProofs only [push_cast, hg, Ac.pv, bneSelf, Int.reduceBEq, Int.reduceBNe, Int.reduceEq, Int.reduceNe, Int.reducePow, Nat.reduceAdd, Nat.reduceMul, Nat.reduceSub, Nat.reduceLT, Nat.reduceLeDiff, Nat.reduceEqDiff, Nat.reduceBEq, Int.reduceLT, Int.reduceLE, Int.reduceAdd, Int.reduceSub, Int.reduceMul, Int.reduceToNat, Int.reduceNeg, reduceIte, reduceCtorEq, reduceBEq]
              (try refine ⟨by (unfold drawOk; kernel_rfl), ?_⟩)
              have hqq := quiet_fs e'
              have hrq := zz (args := []) false (fun h => by cases h) (rquiet_fs e' L)
              generalize hqv : (decide (e'.way.length = 0) && !e'.ack) = qv at hqq hrq
              simp only [rpv, rcs, pcs, wz, if_true, if_false, Bool.false_eq_true, reduceIte, En.pv, En.cs] at hqq hrq
              try simp -implicitDefEqProofs only [push_cast, hg, Ac.pv, Int.reduceBEq, Int.reduceBNe, Int.reduceEq, Int.reduceNe, Int.reducePow, Nat.reduceAdd, Nat.reduceMul, Nat.reduceSub, Nat.reduceLT, Nat.reduceLeDiff, Nat.reduceEqDiff, Nat.reduceBEq, Int.reduceLT, Int.reduceLE, Int.reduceAdd, Int.reduceSub, Int.reduceMul, Int.reduceToNat, Int.reduceNeg, reduceIte, reduceCtorEq, reduceBEq]
              (try refine ⟨by (unfold drawOk; kernel_rfl), ?_⟩)
              refine callE_pure hqq (by rfl) (by rfl) (by rfl) (by decide) (by rfl) (fun _ => by rfl) (by first | rfl | simp [gdOk, newToks]) ?_
              simp -implicitDefEqProofs only [push_cast, hg, Ac.pv, Int.reduceBEq, Int.reduceBNe, Int.reduceEq, Int.reduceNe, Int.reducePow, Nat.reduceAdd, Nat.reduceMul, Nat.reduceSub, Nat.reduceLT, Nat.reduceLeDiff, Nat.reduceEqDiff, Nat.reduceBEq, Int.reduceLT, Int.reduceLE, Int.reduceAdd, Int.reduceSub, Int.reduceMul, Int.reduceToNat, Int.reduceNeg, reduceIte, reduceCtorEq, reduceBEq]
              (try refine ⟨by (unfold drawOk; kernel_rfl), ?_⟩)
              refine callE_pure hrq (by rfl) (by rfl) (by rfl) (by decide) (by rfl) (fun _ => by rfl) (by first | rfl | simp [gdOk, newToks]) ?_
              simp -implicitDefEqProofs only [push_cast, hg, Ac.pv, bneSelf, Int.reduceBEq, Int.reduceBNe, Int.reduceEq, Int.reduceNe, Int.reducePow, Nat.reduceAdd, Nat.reduceMul, Nat.reduceSub, Nat.reduceLT, Nat.reduceLeDiff, Nat.reduceEqDiff, Nat.reduceBEq, Int.reduceLT, Int.reduceLE, Int.reduceAdd, Int.reduceSub, Int.reduceMul, Int.reduceToNat, Int.reduceNeg, reduceIte, reduceCtorEq, reduceBEq]
              (try refine ⟨by (unfold drawOk; kernel_rfl), ?_⟩)
              rw [hwr]
              refine ⟨⟨i + 1, by omega, e', L, hJ, false, (fun h => by cases h)⟩, by simp only; omega, ?_⟩
              (simp only [PlS.st, rpv, rcs, pcs, wz, if_true, if_false, Bool.false_eq_true, reduceIte, En.pv, En.cs]; exact Wk.by _ _ _ [(0, 0), (1, 1)] [] [] (by simp) (by simp [wkV, PV.el, PV.weak, PS.get, PS.obj, PS.lv, lkp_hit, lkp_miss, lkp_nil, lko]) (by simp [PS.get, PS.obj, PS.lv, lkp_hit, lkp_miss, lkp_nil, lko, wkL, wkC, PV.weak]) (by simp [PS.get, PS.obj, PS.lv, lkp_hit, lkp_miss, lkp_nil, lko]) (by rfl) (by rfl) (by simp [lko]) (by simp) (by simp) (by simp) (fun i hi => absurd hi (Nat.not_lt_zero i)))
            · try simp -implicitDefEqProofs only [push_cast, hg, Ac.pv, Int.reduceBEq, Int.reduceBNe, Int.reduceEq, Int.reduceNe, Int.reducePow, Nat.reduceAdd, Nat.reduceMul, Nat.reduceSub, Nat.reduceLT, Nat.reduceLeDiff, Nat.reduceEqDiff, Nat.reduceBEq, Int.reduceLT, Int.reduceLE, Int.reduceAdd, Int.reduceSub, Int.reduceMul, Int.reduceToNat, Int.reduceNeg, reduceIte, reduceCtorEq, reduceBEq]
              refine condC_split (fun h4 => ?_) (fun h4 => ?_)
              · have hs := due_fs e (by have := hj.bk.w; omega) (fun p hp => by have := hj.bk.wb p hp; omega)
                have hs2 := zz (args := []) false hz (rdue_fs e L (by have := hj.bk.w; omega) (fun p hp => by have := hj.bk.wb p hp; omega))
                have htx := texts_fs e.dueP e.dueP (dueP_le e (by have := hj.bk.w; omega))
                rw [decide_eq_true rfl] at htx
                have hJ := hj.due.up
                generalize e.dueP = dp at *
                generalize e.due = e' at *
                simp only [rpv, rcs, pcs, wz, if_true, if_false, Bool.false_eq_true, reduceIte, En.pv, En.cs] at hs hs2
                simp -implicitDefEqProofs only [push_cast, hg, Ac.pv, bneSelf, Int.reduceBEq, Int.reduceBNe, Int.reduceEq, Int.reduceNe, Int.reducePow, Nat.reduceAdd, Nat.reduceMul, Nat.reduceSub, Nat.reduceLT, Nat.reduceLeDiff, Nat.reduceEqDiff, Nat.reduceBEq, Int.reduceLT, Int.reduceLE, Int.reduceAdd, Int.reduceSub, Int.reduceMul, Int.reduceToNat, Int.reduceNeg, reduceIte, reduceCtorEq, reduceBEq]
                (try refine ⟨by (unfold drawOk; kernel_rfl), ?_⟩)
                refine callE_pure hs (by rfl) (by rfl) (by rfl) (by decide) (by rfl) (fun _ => by rfl) (by first | rfl | simp [gdOk, newToks]) ?_
                simp -implicitDefEqProofs only [push_cast, hg, Ac.pv, bneSelf, Int.reduceBEq, Int.reduceBNe, Int.reduceEq, Int.reduceNe, Int.reducePow, Nat.reduceAdd, Nat.reduceMul, Nat.reduceSub, Nat.reduceLT, Nat.reduceLeDiff, Nat.reduceEqDiff, Nat.reduceBEq, Int.reduceLT, Int.reduceLE, Int.reduceAdd, Int.reduceSub, Int.reduceMul, Int.reduceToNat, Int.reduceNeg, reduceIte, reduceCtorEq, reduceBEq]
                (try refine ⟨by (unfold drawOk; kernel_rfl), ?_⟩)
                refine callE_pure hs2 (by rfl) (by rfl) (by rfl) (by decide) (by rfl) (fun _ => by rfl) (by first | rfl | simp [gdOk, newToks]) ?_
                simp -implicitDefEqProofs only [push_cast, hg, Ac.pv, bneSelf, Int.reduceBEq, Int.reduceBNe, Int.reduceEq, Int.reduceNe, Int.reducePow, Nat.reduceAdd, Nat.reduceMul, Nat.reduceSub, Nat.reduceLT, Nat.reduceLeDiff, Nat.reduceEqDiff, Nat.reduceBEq, Int.reduceLT, Int.reduceLE, Int.reduceAdd, Int.reduceSub, Int.reduceMul, Int.reduceToNat, Int.reduceNeg, reduceIte, reduceCtorEq, reduceBEq]
                (try refine ⟨by (unfold drawOk; kernel_rfl), ?_⟩)
                refine callE_pure htx (by rfl) (by rfl) (by rfl) (by decide) (by rfl) (fun _ => by rfl) (by first | rfl | simp [gdOk, newToks]) ?_
                simp -implicitDefEqProofs only [push_cast, hg, Ac.pv, bneSelf, Int.reduceBEq, Int.reduceBNe, Int.reduceEq, Int.reduceNe, Int.reducePow, Nat.reduceAdd, Nat.reduceMul, Nat.reduceSub, Nat.reduceLT, Nat.reduceLeDiff, Nat.reduceEqDiff, Nat.reduceBEq, Int.reduceLT, Int.reduceLE, Int.reduceAdd, Int.reduceSub, Int.reduceMul, Int.reduceToNat, Int.reduceNeg, reduceIte, reduceCtorEq, reduceBEq]
                (try refine ⟨by (unfold drawOk; kernel_rfl), ?_⟩)
                have hqq := quiet_fs e'
                have hrq := zz (args := []) false (fun h => by cases h) (rquiet_fs e' L)
                generalize hqv : (decide (e'.way.length = 0) && !e'.ack) = qv at hqq hrq
                simp only [rpv, rcs, pcs, wz, if_true, if_false, Bool.false_eq_true, reduceIte, En.pv, En.cs] at hqq hrq
                try simp -implicitDefEqProofs only [push_cast, hg, Ac.pv, Int.reduceBEq, Int.reduceBNe, Int.reduceEq, Int.reduceNe, Int.reducePow, Nat.reduceAdd, Nat.reduceMul, Nat.reduceSub, Nat.reduceLT, Nat.reduceLeDiff, Nat.reduceEqDiff, Nat.reduceBEq, Int.reduceLT, Int.reduceLE, Int.reduceAdd, Int.reduceSub, Int.reduceMul, Int.reduceToNat, Int.reduceNeg, reduceIte, reduceCtorEq, reduceBEq]
                (try refine ⟨by (unfold drawOk; kernel_rfl), ?_⟩)
                refine callE_pure hqq (by rfl) (by rfl) (by rfl) (by decide) (by rfl) (fun _ => by rfl) (by first | rfl | simp [gdOk, newToks]) ?_
                simp -implicitDefEqProofs only [push_cast, hg, Ac.pv, Int.reduceBEq, Int.reduceBNe, Int.reduceEq, Int.reduceNe, Int.reducePow, Nat.reduceAdd, Nat.reduceMul, Nat.reduceSub, Nat.reduceLT, Nat.reduceLeDiff, Nat.reduceEqDiff, Nat.reduceBEq, Int.reduceLT, Int.reduceLE, Int.reduceAdd, Int.reduceSub, Int.reduceMul, Int.reduceToNat, Int.reduceNeg, reduceIte, reduceCtorEq, reduceBEq]
                (try refine ⟨by (unfold drawOk; kernel_rfl), ?_⟩)
                refine callE_pure hrq (by rfl) (by rfl) (by rfl) (by decide) (by rfl) (fun _ => by rfl) (by first | rfl | simp [gdOk, newToks]) ?_
                simp -implicitDefEqProofs only [push_cast, hg, Ac.pv, bneSelf, Int.reduceBEq, Int.reduceBNe, Int.reduceEq, Int.reduceNe, Int.reducePow, Nat.reduceAdd, Nat.reduceMul, Nat.reduceSub, Nat.reduceLT, Nat.reduceLeDiff, Nat.reduceEqDiff, Nat.reduceBEq, Int.reduceLT, Int.reduceLE, Int.reduceAdd, Int.reduceSub, Int.reduceMul, Int.reduceToNat, Int.reduceNeg, reduceIte, reduceCtorEq, reduceBEq]
                (try refine ⟨by (unfold drawOk; kernel_rfl), ?_⟩)
                rw [hwr]
                refine ⟨⟨i + 1, by omega, e', L, hJ, false, (fun h => by cases h)⟩, by simp only; omega, ?_⟩
                (simp only [PlS.st, rpv, rcs, pcs, wz, if_true, if_false, Bool.false_eq_true, reduceIte, En.pv, En.cs]; exact Wk.by _ _ _ [(0, 0), (1, 1)] [] [] (by simp) (by simp [wkV, PV.el, PV.weak, PS.get, PS.obj, PS.lv, lkp_hit, lkp_miss, lkp_nil, lko]) (by simp [PS.get, PS.obj, PS.lv, lkp_hit, lkp_miss, lkp_nil, lko, wkL, wkC, PV.weak]) (by simp [PS.get, PS.obj, PS.lv, lkp_hit, lkp_miss, lkp_nil, lko]) (by rfl) (by rfl) (by simp [lko]) (by simp) (by simp) (by simp) (fun i hi => absurd hi (Nat.not_lt_zero i)))
              · try simp -implicitDefEqProofs only [push_cast, hg, Ac.pv, Int.reduceBEq, Int.reduceBNe, Int.reduceEq, Int.reduceNe, Int.reducePow, Nat.reduceAdd, Nat.reduceMul, Nat.reduceSub, Nat.reduceLT, Nat.reduceLeDiff, Nat.reduceEqDiff, Nat.reduceBEq, Int.reduceLT, Int.reduceLE, Int.reduceAdd, Int.reduceSub, Int.reduceMul, Int.reduceToNat, Int.reduceNeg, reduceIte, reduceCtorEq, reduceBEq]
                refine condC_split (fun h5 => ?_) (fun h5 => ?_)
                · obtain ⟨e', L', c, hR, hR2, hJ⟩ := hj.gotc hqs
                  have hs := got_fs e q.b (hj.bk.ok (by omega)) (by omega)
                  have hs2 := zz false hz (rgot_fs e L q.b (hj.bk.ok (by omega)) (by omega) (by have := hj.ll; omega) (by have := hj.ls; omega))
                  rw [hR] at hs
                  rw [hR2] at hs2
                  simp only [rpv, rcs, pcs, wz, if_true, if_false, Bool.false_eq_true, reduceIte, En.pv, En.cs] at hs hs2
                  simp -implicitDefEqProofs only [push_cast, hg, Ac.pv, bneSelf, Int.reduceBEq, Int.reduceBNe, Int.reduceEq, Int.reduceNe, Int.reducePow, Nat.reduceAdd, Nat.reduceMul, Nat.reduceSub, Nat.reduceLT, Nat.reduceLeDiff, Nat.reduceEqDiff, Nat.reduceBEq, Int.reduceLT, Int.reduceLE, Int.reduceAdd, Int.reduceSub, Int.reduceMul, Int.reduceToNat, Int.reduceNeg, reduceIte, reduceCtorEq, reduceBEq]
                  (try refine ⟨by (unfold drawOk; kernel_rfl), ?_⟩)
                  refine ⟨hlt', ?_⟩
                  refine callE_pure hs (by rfl) (by rfl) (by rfl) (by decide) (by rfl) (fun _ => by rfl) (by first | rfl | simp [gdOk, newToks]) ?_
                  simp -implicitDefEqProofs only [push_cast, hg, Ac.pv, bneSelf, Int.reduceBEq, Int.reduceBNe, Int.reduceEq, Int.reduceNe, Int.reducePow, Nat.reduceAdd, Nat.reduceMul, Nat.reduceSub, Nat.reduceLT, Nat.reduceLeDiff, Nat.reduceEqDiff, Nat.reduceBEq, Int.reduceLT, Int.reduceLE, Int.reduceAdd, Int.reduceSub, Int.reduceMul, Int.reduceToNat, Int.reduceNeg, reduceIte, reduceCtorEq, reduceBEq]
                  (try refine ⟨by (unfold drawOk; kernel_rfl), ?_⟩)
                  refine ⟨hlt', ?_⟩
                  refine callE_pure hs2 (by rfl) (by rfl) (by rfl) (by decide) (by rfl) (fun _ => by rfl) (by first | rfl | simp [gdOk, newToks]) ?_
                  simp -implicitDefEqProofs only [push_cast, hg, Ac.pv, bneSelf, Int.reduceBEq, Int.reduceBNe, Int.reduceEq, Int.reduceNe, Int.reducePow, Nat.reduceAdd, Nat.reduceMul, Nat.reduceSub, Nat.reduceLT, Nat.reduceLeDiff, Nat.reduceEqDiff, Nat.reduceBEq, Int.reduceLT, Int.reduceLE, Int.reduceAdd, Int.reduceSub, Int.reduceMul, Int.reduceToNat, Int.reduceNeg, reduceIte, reduceCtorEq, reduceBEq]
                  (try refine ⟨by (unfold drawOk; kernel_rfl), ?_⟩)
                  have hqq := quiet_fs e'
                  have hrq := zz (args := []) false (fun h => by cases h) (rquiet_fs e' L')
                  generalize hqv : (decide (e'.way.length = 0) && !e'.ack) = qv at hqq hrq
                  simp only [rpv, rcs, pcs, wz, if_true, if_false, Bool.false_eq_true, reduceIte, En.pv, En.cs] at hqq hrq
                  try simp -implicitDefEqProofs only [push_cast, hg, Ac.pv, Int.reduceBEq, Int.reduceBNe, Int.reduceEq, Int.reduceNe, Int.reducePow, Nat.reduceAdd, Nat.reduceMul, Nat.reduceSub, Nat.reduceLT, Nat.reduceLeDiff, Nat.reduceEqDiff, Nat.reduceBEq, Int.reduceLT, Int.reduceLE, Int.reduceAdd, Int.reduceSub, Int.reduceMul, Int.reduceToNat, Int.reduceNeg, reduceIte, reduceCtorEq, reduceBEq]
                  (try refine ⟨by (unfold drawOk; kernel_rfl), ?_⟩)
                  refine callE_pure hqq (by rfl) (by rfl) (by rfl) (by decide) (by rfl) (fun _ => by rfl) (by first | rfl | simp [gdOk, newToks]) ?_
                  simp -implicitDefEqProofs only [push_cast, hg, Ac.pv, Int.reduceBEq, Int.reduceBNe, Int.reduceEq, Int.reduceNe, Int.reducePow, Nat.reduceAdd, Nat.reduceMul, Nat.reduceSub, Nat.reduceLT, Nat.reduceLeDiff, Nat.reduceEqDiff, Nat.reduceBEq, Int.reduceLT, Int.reduceLE, Int.reduceAdd, Int.reduceSub, Int.reduceMul, Int.reduceToNat, Int.reduceNeg, reduceIte, reduceCtorEq, reduceBEq]
                  (try refine ⟨by (unfold drawOk; kernel_rfl), ?_⟩)
                  refine callE_pure hrq (by rfl) (by rfl) (by rfl) (by decide) (by rfl) (fun _ => by rfl) (by first | rfl | simp [gdOk, newToks]) ?_
                  simp -implicitDefEqProofs only [push_cast, hg, Ac.pv, bneSelf, Int.reduceBEq, Int.reduceBNe, Int.reduceEq, Int.reduceNe, Int.reducePow, Nat.reduceAdd, Nat.reduceMul, Nat.reduceSub, Nat.reduceLT, Nat.reduceLeDiff, Nat.reduceEqDiff, Nat.reduceBEq, Int.reduceLT, Int.reduceLE, Int.reduceAdd, Int.reduceSub, Int.reduceMul, Int.reduceToNat, Int.reduceNeg, reduceIte, reduceCtorEq, reduceBEq]
                  (try refine ⟨by (unfold drawOk; kernel_rfl), ?_⟩)
                  rw [hwr]
                  refine ⟨⟨i + 1, by omega, e', L', hJ, false, (fun h => by cases h)⟩, by simp only; omega, ?_⟩
                  (simp only [PlS.st, rpv, rcs, pcs, wz, if_true, if_false, Bool.false_eq_true, reduceIte, En.pv, En.cs]; exact Wk.by _ _ _ [(0, 0), (1, 1)] [] [] (by simp) (by simp [wkV, PV.el, PV.weak, PS.get, PS.obj, PS.lv, lkp_hit, lkp_miss, lkp_nil, lko]) (by simp [PS.get, PS.obj, PS.lv, lkp_hit, lkp_miss, lkp_nil, lko, wkL, wkC, PV.weak]) (by simp [PS.get, PS.obj, PS.lv, lkp_hit, lkp_miss, lkp_nil, lko]) (by rfl) (by rfl) (by simp [lko]) (by simp) (by simp) (by simp) (fun i hi => absurd hi (Nat.not_lt_zero i)))
                · try simp -implicitDefEqProofs only [push_cast, hg, Ac.pv, Int.reduceBEq, Int.reduceBNe, Int.reduceEq, Int.reduceNe, Int.reducePow, Nat.reduceAdd, Nat.reduceMul, Nat.reduceSub, Nat.reduceLT, Nat.reduceLeDiff, Nat.reduceEqDiff, Nat.reduceBEq, Int.reduceLT, Int.reduceLE, Int.reduceAdd, Int.reduceSub, Int.reduceMul, Int.reduceToNat, Int.reduceNeg, reduceIte, reduceCtorEq, reduceBEq]
                  refine condC_split (fun h6 => ?_) (fun h6 => ?_)
                  · have hs := read_fs e
                    have hJ := hj.clear.up
                    obtain ⟨e', he'⟩ : ∃ e' : En, e' = { e with read := [] } := ⟨_, rfl⟩
                    have hmc : e'.most = e.most ∧ e'.rest = e.rest ∧ e'.way = e.way ∧ e'.next = e.next ∧ e'.exp = e.exp ∧ e'.ack = e.ack ∧ e'.read = [] ∧ e'.aside = e.aside := by subst he'; exact ⟨rfl, rfl, rfl, rfl, rfl, rfl, rfl, rfl⟩
                    obtain ⟨m1, m2, m3, m4, m5, m6, m7, m8⟩ := hmc
                    rw [← he'] at hJ
                    rw [← he'] at hs
                    simp only [rpv, rcs, pcs, wz, if_true, if_false, Bool.false_eq_true, reduceIte, En.pv, En.cs, m1, m2, m3, m4, m5, m6, m7, m8] at hs
                    simp -implicitDefEqProofs only [push_cast, hg, Ac.pv, bneSelf, Int.reduceBEq, Int.reduceBNe, Int.reduceEq, Int.reduceNe, Int.reducePow, Nat.reduceAdd, Nat.reduceMul, Nat.reduceSub, Nat.reduceLT, Nat.reduceLeDiff, Nat.reduceEqDiff, Nat.reduceBEq, Int.reduceLT, Int.reduceLE, Int.reduceAdd, Int.reduceSub, Int.reduceMul, Int.reduceToNat, Int.reduceNeg, reduceIte, reduceCtorEq, reduceBEq]
                    (try refine ⟨by (unfold drawOk; kernel_rfl), ?_⟩)
                    refine callE_pure hs (by rfl) (by rfl) (by rfl) (by decide) (by rfl) (fun _ => by rfl) (by first | rfl | simp [gdOk, newToks]) ?_
                    simp -implicitDefEqProofs only [push_cast, hg, Ac.pv, bneSelf, Int.reduceBEq, Int.reduceBNe, Int.reduceEq, Int.reduceNe, Int.reducePow, Nat.reduceAdd, Nat.reduceMul, Nat.reduceSub, Nat.reduceLT, Nat.reduceLeDiff, Nat.reduceEqDiff, Nat.reduceBEq, Int.reduceLT, Int.reduceLE, Int.reduceAdd, Int.reduceSub, Int.reduceMul, Int.reduceToNat, Int.reduceNeg, reduceIte, reduceCtorEq, reduceBEq]
                    (try refine ⟨by (unfold drawOk; kernel_rfl), ?_⟩)
                    have hqq := quiet_fs e'
                    have hrq := zz (args := []) false (fun h => by cases h) (rquiet_fs e' L)
                    generalize hqv : (decide (e'.way.length = 0) && !e'.ack) = qv at hqq hrq
                    simp only [rpv, rcs, pcs, wz, if_true, if_false, Bool.false_eq_true, reduceIte, En.pv, En.cs, m1, m2, m3, m4, m5, m6, m7, m8] at hqq hrq
                    try simp -implicitDefEqProofs only [push_cast, hg, Ac.pv, Int.reduceBEq, Int.reduceBNe, Int.reduceEq, Int.reduceNe, Int.reducePow, Nat.reduceAdd, Nat.reduceMul, Nat.reduceSub, Nat.reduceLT, Nat.reduceLeDiff, Nat.reduceEqDiff, Nat.reduceBEq, Int.reduceLT, Int.reduceLE, Int.reduceAdd, Int.reduceSub, Int.reduceMul, Int.reduceToNat, Int.reduceNeg, reduceIte, reduceCtorEq, reduceBEq]
                    (try refine ⟨by (unfold drawOk; kernel_rfl), ?_⟩)
                    refine callE_pure hqq (by rfl) (by rfl) (by rfl) (by decide) (by rfl) (fun _ => by rfl) (by first | rfl | simp [gdOk, newToks]) ?_
                    simp -implicitDefEqProofs only [push_cast, hg, Ac.pv, Int.reduceBEq, Int.reduceBNe, Int.reduceEq, Int.reduceNe, Int.reducePow, Nat.reduceAdd, Nat.reduceMul, Nat.reduceSub, Nat.reduceLT, Nat.reduceLeDiff, Nat.reduceEqDiff, Nat.reduceBEq, Int.reduceLT, Int.reduceLE, Int.reduceAdd, Int.reduceSub, Int.reduceMul, Int.reduceToNat, Int.reduceNeg, reduceIte, reduceCtorEq, reduceBEq]
                    (try refine ⟨by (unfold drawOk; kernel_rfl), ?_⟩)
                    refine callE_pure hrq (by rfl) (by rfl) (by rfl) (by decide) (by rfl) (fun _ => by rfl) (by first | rfl | simp [gdOk, newToks]) ?_
                    simp -implicitDefEqProofs only [push_cast, hg, Ac.pv, bneSelf, Int.reduceBEq, Int.reduceBNe, Int.reduceEq, Int.reduceNe, Int.reducePow, Nat.reduceAdd, Nat.reduceMul, Nat.reduceSub, Nat.reduceLT, Nat.reduceLeDiff, Nat.reduceEqDiff, Nat.reduceBEq, Int.reduceLT, Int.reduceLE, Int.reduceAdd, Int.reduceSub, Int.reduceMul, Int.reduceToNat, Int.reduceNeg, reduceIte, reduceCtorEq, reduceBEq]
                    (try refine ⟨by (unfold drawOk; kernel_rfl), ?_⟩)
                    rw [hwr]
                    refine ⟨⟨i + 1, by omega, e', L, hJ, false, (fun h => by cases h)⟩, by simp only; omega, ?_⟩
                    (simp only [PlS.st, rpv, rcs, pcs, wz, if_true, if_false, Bool.false_eq_true, reduceIte, En.pv, En.cs]; exact Wk.by _ _ _ [(0, 0), (1, 1)] [] [] (by simp) (by simp [wkV, PV.el, PV.weak, PS.get, PS.obj, PS.lv, lkp_hit, lkp_miss, lkp_nil, lko, m1, m2, m3, m4, m5, m6, m7, m8]) (by simp [PS.get, PS.obj, PS.lv, lkp_hit, lkp_miss, lkp_nil, lko, wkL, wkC, PV.weak, m1, m2, m3, m4, m5, m6, m7, m8]) (by simp [PS.get, PS.obj, PS.lv, lkp_hit, lkp_miss, lkp_nil, lko]) (by rfl) (by rfl) (by simp [lko]) (by simp) (by simp) (by simp) (fun i hi => absurd hi (Nat.not_lt_zero i)))
                  · try simp -implicitDefEqProofs only [push_cast, hg, Ac.pv, Int.reduceBEq, Int.reduceBNe, Int.reduceEq, Int.reduceNe, Int.reducePow, Nat.reduceAdd, Nat.reduceMul, Nat.reduceSub, Nat.reduceLT, Nat.reduceLeDiff, Nat.reduceEqDiff, Nat.reduceBEq, Int.reduceLT, Int.reduceLE, Int.reduceAdd, Int.reduceSub, Int.reduceMul, Int.reduceToNat, Int.reduceNeg, reduceIte, reduceCtorEq, reduceBEq]
                    refine condC_split (fun h7 => ?_) (fun h7 => ?_)
                    · have hs := tick_fs e (by have := hj.bk.w; omega)
                      have hs2 := zz (args := []) false hz (rtick_fs e L (by have := hj.bk.w; omega))
                      have hJ := hj.tick.up
                      generalize e.tick = e' at *
                      simp only [rpv, rcs, pcs, wz, if_true, if_false, Bool.false_eq_true, reduceIte, En.pv, En.cs] at hs hs2
                      simp -implicitDefEqProofs only [push_cast, hg, Ac.pv, bneSelf, Int.reduceBEq, Int.reduceBNe, Int.reduceEq, Int.reduceNe, Int.reducePow, Nat.reduceAdd, Nat.reduceMul, Nat.reduceSub, Nat.reduceLT, Nat.reduceLeDiff, Nat.reduceEqDiff, Nat.reduceBEq, Int.reduceLT, Int.reduceLE, Int.reduceAdd, Int.reduceSub, Int.reduceMul, Int.reduceToNat, Int.reduceNeg, reduceIte, reduceCtorEq, reduceBEq]
                      (try refine ⟨by (unfold drawOk; kernel_rfl), ?_⟩)
                      refine callE_pure hs (by rfl) (by rfl) (by rfl) (by decide) (by rfl) (fun _ => by rfl) (by first | rfl | simp [gdOk, newToks]) ?_
                      simp -implicitDefEqProofs only [push_cast, hg, Ac.pv, bneSelf, Int.reduceBEq, Int.reduceBNe, Int.reduceEq, Int.reduceNe, Int.reducePow, Nat.reduceAdd, Nat.reduceMul, Nat.reduceSub, Nat.reduceLT, Nat.reduceLeDiff, Nat.reduceEqDiff, Nat.reduceBEq, Int.reduceLT, Int.reduceLE, Int.reduceAdd, Int.reduceSub, Int.reduceMul, Int.reduceToNat, Int.reduceNeg, reduceIte, reduceCtorEq, reduceBEq]
                      (try refine ⟨by (unfold drawOk; kernel_rfl), ?_⟩)
                      refine callE_pure hs2 (by rfl) (by rfl) (by rfl) (by decide) (by rfl) (fun _ => by rfl) (by first | rfl | simp [gdOk, newToks]) ?_
                      simp -implicitDefEqProofs only [push_cast, hg, Ac.pv, bneSelf, Int.reduceBEq, Int.reduceBNe, Int.reduceEq, Int.reduceNe, Int.reducePow, Nat.reduceAdd, Nat.reduceMul, Nat.reduceSub, Nat.reduceLT, Nat.reduceLeDiff, Nat.reduceEqDiff, Nat.reduceBEq, Int.reduceLT, Int.reduceLE, Int.reduceAdd, Int.reduceSub, Int.reduceMul, Int.reduceToNat, Int.reduceNeg, reduceIte, reduceCtorEq, reduceBEq]
                      (try refine ⟨by (unfold drawOk; kernel_rfl), ?_⟩)
                      have hqq := quiet_fs e'
                      have hrq := zz (args := []) false (fun h => by cases h) (rquiet_fs e' L)
                      generalize hqv : (decide (e'.way.length = 0) && !e'.ack) = qv at hqq hrq
                      simp only [rpv, rcs, pcs, wz, if_true, if_false, Bool.false_eq_true, reduceIte, En.pv, En.cs] at hqq hrq
                      try simp -implicitDefEqProofs only [push_cast, hg, Ac.pv, Int.reduceBEq, Int.reduceBNe, Int.reduceEq, Int.reduceNe, Int.reducePow, Nat.reduceAdd, Nat.reduceMul, Nat.reduceSub, Nat.reduceLT, Nat.reduceLeDiff, Nat.reduceEqDiff, Nat.reduceBEq, Int.reduceLT, Int.reduceLE, Int.reduceAdd, Int.reduceSub, Int.reduceMul, Int.reduceToNat, Int.reduceNeg, reduceIte, reduceCtorEq, reduceBEq]
                      (try refine ⟨by (unfold drawOk; kernel_rfl), ?_⟩)
                      refine callE_pure hqq (by rfl) (by rfl) (by rfl) (by decide) (by rfl) (fun _ => by rfl) (by first | rfl | simp [gdOk, newToks]) ?_
                      simp -implicitDefEqProofs only [push_cast, hg, Ac.pv, Int.reduceBEq, Int.reduceBNe, Int.reduceEq, Int.reduceNe, Int.reducePow, Nat.reduceAdd, Nat.reduceMul, Nat.reduceSub, Nat.reduceLT, Nat.reduceLeDiff, Nat.reduceEqDiff, Nat.reduceBEq, Int.reduceLT, Int.reduceLE, Int.reduceAdd, Int.reduceSub, Int.reduceMul, Int.reduceToNat, Int.reduceNeg, reduceIte, reduceCtorEq, reduceBEq]
                      (try refine ⟨by (unfold drawOk; kernel_rfl), ?_⟩)
                      refine callE_pure hrq (by rfl) (by rfl) (by rfl) (by decide) (by rfl) (fun _ => by rfl) (by first | rfl | simp [gdOk, newToks]) ?_
                      simp -implicitDefEqProofs only [push_cast, hg, Ac.pv, bneSelf, Int.reduceBEq, Int.reduceBNe, Int.reduceEq, Int.reduceNe, Int.reducePow, Nat.reduceAdd, Nat.reduceMul, Nat.reduceSub, Nat.reduceLT, Nat.reduceLeDiff, Nat.reduceEqDiff, Nat.reduceBEq, Int.reduceLT, Int.reduceLE, Int.reduceAdd, Int.reduceSub, Int.reduceMul, Int.reduceToNat, Int.reduceNeg, reduceIte, reduceCtorEq, reduceBEq]
                      (try refine ⟨by (unfold drawOk; kernel_rfl), ?_⟩)
                      rw [hwr]
                      refine ⟨⟨i + 1, by omega, e', L, hJ, false, (fun h => by cases h)⟩, by simp only; omega, ?_⟩
                      (simp only [PlS.st, rpv, rcs, pcs, wz, if_true, if_false, Bool.false_eq_true, reduceIte, En.pv, En.cs]; exact Wk.by _ _ _ [(0, 0), (1, 1)] [] [] (by simp) (by simp [wkV, PV.el, PV.weak, PS.get, PS.obj, PS.lv, lkp_hit, lkp_miss, lkp_nil, lko]) (by simp [PS.get, PS.obj, PS.lv, lkp_hit, lkp_miss, lkp_nil, lko, wkL, wkC, PV.weak]) (by simp [PS.get, PS.obj, PS.lv, lkp_hit, lkp_miss, lkp_nil, lko]) (by rfl) (by rfl) (by simp [lko]) (by simp) (by simp) (by simp) (fun i hi => absurd hi (Nat.not_lt_zero i)))
                    · try simp -implicitDefEqProofs only [push_cast, hg, Ac.pv, Int.reduceBEq, Int.reduceBNe, Int.reduceEq, Int.reduceNe, Int.reducePow, Nat.reduceAdd, Nat.reduceMul, Nat.reduceSub, Nat.reduceLT, Nat.reduceLeDiff, Nat.reduceEqDiff, Nat.reduceBEq, Int.reduceLT, Int.reduceLE, Int.reduceAdd, Int.reduceSub, Int.reduceMul, Int.reduceToNat, Int.reduceNeg, reduceIte, reduceCtorEq, reduceBEq]
                      refine condC_split (fun h8 => ?_) (fun h8 => ?_)
                      · have hs := cut_fs e (by have := hj.bk.w; omega)
                        have hs2 := zz (args := []) false hz (rcut_fs e L (by have := hj.bk.w; omega))
                        obtain ⟨hJ, hcu⟩ := hj.cut
                        replace hJ := hJ.up
                        rw [hcu] at hs2
                        generalize e.cut = e' at *
                        simp only [rpv, rcs, pcs, wz, if_true, if_false, Bool.false_eq_true, reduceIte, En.pv, En.cs] at hs hs2
                        simp -implicitDefEqProofs only [push_cast, hg, Ac.pv, bneSelf, Int.reduceBEq, Int.reduceBNe, Int.reduceEq, Int.reduceNe, Int.reducePow, Nat.reduceAdd, Nat.reduceMul, Nat.reduceSub, Nat.reduceLT, Nat.reduceLeDiff, Nat.reduceEqDiff, Nat.reduceBEq, Int.reduceLT, Int.reduceLE, Int.reduceAdd, Int.reduceSub, Int.reduceMul, Int.reduceToNat, Int.reduceNeg, reduceIte, reduceCtorEq, reduceBEq]
                        (try refine ⟨by (unfold drawOk; kernel_rfl), ?_⟩)
                        refine callE_pure hs (by rfl) (by rfl) (by rfl) (by decide) (by rfl) (fun _ => by rfl) (by first | rfl | simp [gdOk, newToks]) ?_
                        simp -implicitDefEqProofs only [push_cast, hg, Ac.pv, bneSelf, Int.reduceBEq, Int.reduceBNe, Int.reduceEq, Int.reduceNe, Int.reducePow, Nat.reduceAdd, Nat.reduceMul, Nat.reduceSub, Nat.reduceLT, Nat.reduceLeDiff, Nat.reduceEqDiff, Nat.reduceBEq, Int.reduceLT, Int.reduceLE, Int.reduceAdd, Int.reduceSub, Int.reduceMul, Int.reduceToNat, Int.reduceNeg, reduceIte, reduceCtorEq, reduceBEq]
                        (try refine ⟨by (unfold drawOk; kernel_rfl), ?_⟩)
                        refine callE_pure hs2 (by rfl) (by rfl) (by rfl) (by decide) (by rfl) (fun _ => by rfl) (by first | rfl | simp [gdOk, newToks]) ?_
                        simp -implicitDefEqProofs only [push_cast, hg, Ac.pv, bneSelf, Int.reduceBEq, Int.reduceBNe, Int.reduceEq, Int.reduceNe, Int.reducePow, Nat.reduceAdd, Nat.reduceMul, Nat.reduceSub, Nat.reduceLT, Nat.reduceLeDiff, Nat.reduceEqDiff, Nat.reduceBEq, Int.reduceLT, Int.reduceLE, Int.reduceAdd, Int.reduceSub, Int.reduceMul, Int.reduceToNat, Int.reduceNeg, reduceIte, reduceCtorEq, reduceBEq]
                        (try refine ⟨by (unfold drawOk; kernel_rfl), ?_⟩)
                        have hqq := quiet_fs e'
                        have hrq := zz (args := []) false (fun h => by cases h) (rquiet_fs e' L)
                        generalize hqv : (decide (e'.way.length = 0) && !e'.ack) = qv at hqq hrq
                        simp only [rpv, rcs, pcs, wz, if_true, if_false, Bool.false_eq_true, reduceIte, En.pv, En.cs] at hqq hrq
                        try simp -implicitDefEqProofs only [push_cast, hg, Ac.pv, Int.reduceBEq, Int.reduceBNe, Int.reduceEq, Int.reduceNe, Int.reducePow, Nat.reduceAdd, Nat.reduceMul, Nat.reduceSub, Nat.reduceLT, Nat.reduceLeDiff, Nat.reduceEqDiff, Nat.reduceBEq, Int.reduceLT, Int.reduceLE, Int.reduceAdd, Int.reduceSub, Int.reduceMul, Int.reduceToNat, Int.reduceNeg, reduceIte, reduceCtorEq, reduceBEq]
                        (try refine ⟨by (unfold drawOk; kernel_rfl), ?_⟩)
                        refine callE_pure hqq (by rfl) (by rfl) (by rfl) (by decide) (by rfl) (fun _ => by rfl) (by first | rfl | simp [gdOk, newToks]) ?_
                        simp -implicitDefEqProofs only [push_cast, hg, Ac.pv, Int.reduceBEq, Int.reduceBNe, Int.reduceEq, Int.reduceNe, Int.reducePow, Nat.reduceAdd, Nat.reduceMul, Nat.reduceSub, Nat.reduceLT, Nat.reduceLeDiff, Nat.reduceEqDiff, Nat.reduceBEq, Int.reduceLT, Int.reduceLE, Int.reduceAdd, Int.reduceSub, Int.reduceMul, Int.reduceToNat, Int.reduceNeg, reduceIte, reduceCtorEq, reduceBEq]
                        (try refine ⟨by (unfold drawOk; kernel_rfl), ?_⟩)
                        refine callE_pure hrq (by rfl) (by rfl) (by rfl) (by decide) (by rfl) (fun _ => by rfl) (by first | rfl | simp [gdOk, newToks]) ?_
                        simp -implicitDefEqProofs only [push_cast, hg, Ac.pv, bneSelf, Int.reduceBEq, Int.reduceBNe, Int.reduceEq, Int.reduceNe, Int.reducePow, Nat.reduceAdd, Nat.reduceMul, Nat.reduceSub, Nat.reduceLT, Nat.reduceLeDiff, Nat.reduceEqDiff, Nat.reduceBEq, Int.reduceLT, Int.reduceLE, Int.reduceAdd, Int.reduceSub, Int.reduceMul, Int.reduceToNat, Int.reduceNeg, reduceIte, reduceCtorEq, reduceBEq]
                        (try refine ⟨by (unfold drawOk; kernel_rfl), ?_⟩)
                        rw [hwr]
                        refine ⟨⟨i + 1, by omega, e', L, hJ, false, (fun h => by cases h)⟩, by simp only; omega, ?_⟩
                        (simp only [PlS.st, rpv, rcs, pcs, wz, if_true, if_false, Bool.false_eq_true, reduceIte, En.pv, En.cs]; exact Wk.by _ _ _ [(0, 0), (1, 1)] [] [] (by simp) (by simp [wkV, PV.el, PV.weak, PS.get, PS.obj, PS.lv, lkp_hit, lkp_miss, lkp_nil, lko]) (by simp [PS.get, PS.obj, PS.lv, lkp_hit, lkp_miss, lkp_nil, lko, wkL, wkC, PV.weak]) (by simp [PS.get, PS.obj, PS.lv, lkp_hit, lkp_miss, lkp_nil, lko]) (by rfl) (by rfl) (by simp [lko]) (by simp) (by simp) (by simp) (fun i hi => absurd hi (Nat.not_lt_zero i)))
                      · have hJ := hj.up
                        have hqq := quiet_fs e
                        have hrq := zz (args := []) false (fun h => by cases h) (rquiet_fs e L)
                        generalize hqv : (decide (e.way.length = 0) && !e.ack) = qv at hqq hrq
                        simp only [rpv, rcs, pcs, wz, if_true, if_false, Bool.false_eq_true, reduceIte, En.pv, En.cs] at hqq hrq
                        try simp -implicitDefEqProofs only [push_cast, hg, Ac.pv, Int.reduceBEq, Int.reduceBNe, Int.reduceEq, Int.reduceNe, Int.reducePow, Nat.reduceAdd, Nat.reduceMul, Nat.reduceSub, Nat.reduceLT, Nat.reduceLeDiff, Nat.reduceEqDiff, Nat.reduceBEq, Int.reduceLT, Int.reduceLE, Int.reduceAdd, Int.reduceSub, Int.reduceMul, Int.reduceToNat, Int.reduceNeg, reduceIte, reduceCtorEq, reduceBEq]
                        (try refine ⟨by (unfold drawOk; kernel_rfl), ?_⟩)
                        refine callE_pure hqq (by rfl) (by rfl) (by rfl) (by decide) (by rfl) (fun _ => by rfl) (by first | rfl | simp [gdOk, newToks]) ?_
                        simp -implicitDefEqProofs only [push_cast, hg, Ac.pv, Int.reduceBEq, Int.reduceBNe, Int.reduceEq, Int.reduceNe, Int.reducePow, Nat.reduceAdd, Nat.reduceMul, Nat.reduceSub, Nat.reduceLT, Nat.reduceLeDiff, Nat.reduceEqDiff, Nat.reduceBEq, Int.reduceLT, Int.reduceLE, Int.reduceAdd, Int.reduceSub, Int.reduceMul, Int.reduceToNat, Int.reduceNeg, reduceIte, reduceCtorEq, reduceBEq]
                        (try refine ⟨by (unfold drawOk; kernel_rfl), ?_⟩)
                        refine callE_pure hrq (by rfl) (by rfl) (by rfl) (by decide) (by rfl) (fun _ => by rfl) (by first | rfl | simp [gdOk, newToks]) ?_
                        simp -implicitDefEqProofs only [push_cast, hg, Ac.pv, bneSelf, Int.reduceBEq, Int.reduceBNe, Int.reduceEq, Int.reduceNe, Int.reducePow, Nat.reduceAdd, Nat.reduceMul, Nat.reduceSub, Nat.reduceLT, Nat.reduceLeDiff, Nat.reduceEqDiff, Nat.reduceBEq, Int.reduceLT, Int.reduceLE, Int.reduceAdd, Int.reduceSub, Int.reduceMul, Int.reduceToNat, Int.reduceNeg, reduceIte, reduceCtorEq, reduceBEq]
                        (try refine ⟨by (unfold drawOk; kernel_rfl), ?_⟩)
                        rw [hwr]
                        refine ⟨⟨i + 1, by omega, e, L, hJ, false, (fun h => by cases h)⟩, by simp only; omega, ?_⟩
                        (simp only [PlS.st, rpv, rcs, pcs, wz, if_true, if_false, Bool.false_eq_true, reduceIte, En.pv, En.cs]; exact Wk.by _ _ _ [(0, 0), (1, 1)] [] [] (by simp) (by simp [wkV, PV.el, PV.weak, PS.get, PS.obj, PS.lv, lkp_hit, lkp_miss, lkp_nil, lko]) (by simp [PS.get, PS.obj, PS.lv, lkp_hit, lkp_miss, lkp_nil, lko, wkL, wkC, PV.weak]) (by simp [PS.get, PS.obj, PS.lv, lkp_hit, lkp_miss, lkp_nil, lko]) (by rfl) (by rfl) (by simp [lko]) (by simp) (by simp) (by simp) (fun i hi => absurd hi (Nat.not_lt_zero i)))
          · simp only [rpv, rcs, pcs, wz, if_true, if_false, Bool.false_eq_true, reduceIte, En.pv, En.cs]
            simp -implicitDefEqProofs only [push_cast, hg, Ac.pv, Int.reduceBEq, Int.reduceBNe, Int.reduceEq, Int.reduceNe, Int.reducePow, Nat.reduceAdd, Nat.reduceMul, Nat.reduceSub, Nat.reduceLT, Nat.reduceLeDiff, Nat.reduceEqDiff, Nat.reduceBEq, Int.reduceLT, Int.reduceLE, Int.reduceAdd, Int.reduceSub, Int.reduceMul, Int.reduceToNat, Int.reduceNeg, reduceIte, reduceCtorEq, reduceBEq]
            refine ⟨hlt', ?_⟩
            refine condC_split (fun h3 => ?_) (fun h3 => ?_)
            · obtain ⟨e', c, hR, hR2, hJ⟩ := hj.sendc hqs
              have hs := send_fs e q.b (hj.bk.ok (by omega)) (by omega)
              have hs2 := zz true hz (rsend_fs e L q.b (hj.bk.ok (by omega)) (by omega) (by have := hj.bk.r; omega))
              rw [hR] at hs
              rw [hR2] at hs2
              simp only [rpv, rcs, pcs, wz, if_true, if_false, Bool.false_eq_true, reduceIte, En.pv, En.cs] at hs hs2
              simp -implicitDefEqProofs only [push_cast, hg, Ac.pv, bneSelf, Int.reduceBEq, Int.reduceBNe, Int.reduceEq, Int.reduceNe, Int.reducePow, Nat.reduceAdd, Nat.reduceMul, Nat.reduceSub, Nat.reduceLT, Nat.reduceLeDiff, Nat.reduceEqDiff, Nat.reduceBEq, Int.reduceLT, Int.reduceLE, Int.reduceAdd, Int.reduceSub, Int.reduceMul, Int.reduceToNat, Int.reduceNeg, reduceIte, reduceCtorEq, reduceBEq]
              (try refine ⟨by (unfold drawOk; kernel_rfl), ?_⟩)
              refine ⟨hlt', ?_⟩
              refine callE_pure hs (by rfl) (by rfl) (by rfl) (by decide) (by rfl) (fun _ => by rfl) (by first | rfl | simp [gdOk, newToks]) ?_
              simp -implicitDefEqProofs only [push_cast, hg, Ac.pv, bneSelf, Int.reduceBEq, Int.reduceBNe, Int.reduceEq, Int.reduceNe, Int.reducePow, Nat.reduceAdd, Nat.reduceMul, Nat.reduceSub, Nat.reduceLT, Nat.reduceLeDiff, Nat.reduceEqDiff, Nat.reduceBEq, Int.reduceLT, Int.reduceLE, Int.reduceAdd, Int.reduceSub, Int.reduceMul, Int.reduceToNat, Int.reduceNeg, reduceIte, reduceCtorEq, reduceBEq]
              (try refine ⟨by (unfold drawOk; kernel_rfl), ?_⟩)
              refine ⟨hlt', ?_⟩
              refine callE_pure hs2 (by rfl) (by rfl) (by rfl) (by decide) (by rfl) (fun _ => by rfl) (by first | rfl | simp [gdOk, newToks]) ?_
              simp -implicitDefEqProofs only [push_cast, hg, Ac.pv, bneSelf, Int.reduceBEq, Int.reduceBNe, Int.reduceEq, Int.reduceNe, Int.reducePow, Nat.reduceAdd, Nat.reduceMul, Nat.reduceSub, Nat.reduceLT, Nat.reduceLeDiff, Nat.reduceEqDiff, Nat.reduceBEq, Int.reduceLT, Int.reduceLE, Int.reduceAdd, Int.reduceSub, Int.reduceMul, Int.reduceToNat, Int.reduceNeg, reduceIte, reduceCtorEq, reduceBEq]
              (try refine ⟨by (unfold drawOk; kernel_rfl), ?_⟩)
              have hqq := quiet_fs e'
              have hrq := zz (args := []) false (fun h => by cases h) (rquiet_fs e' L)
              generalize hqv : (decide (e'.way.length = 0) && !e'.ack) = qv at hqq hrq
              simp only [rpv, rcs, pcs, wz, if_true, if_false, Bool.false_eq_true, reduceIte, En.pv, En.cs] at hqq hrq
              try simp -implicitDefEqProofs only [push_cast, hg, Ac.pv, Int.reduceBEq, Int.reduceBNe, Int.reduceEq, Int.reduceNe, Int.reducePow, Nat.reduceAdd, Nat.reduceMul, Nat.reduceSub, Nat.reduceLT, Nat.reduceLeDiff, Nat.reduceEqDiff, Nat.reduceBEq, Int.reduceLT, Int.reduceLE, Int.reduceAdd, Int.reduceSub, Int.reduceMul, Int.reduceToNat, Int.reduceNeg, reduceIte, reduceCtorEq, reduceBEq]
              (try refine ⟨by (unfold drawOk; kernel_rfl), ?_⟩)
              refine callE_pure hqq (by rfl) (by rfl) (by rfl) (by decide) (by rfl) (fun _ => by rfl) (by first | rfl | simp [gdOk, newToks]) ?_
              simp -implicitDefEqProofs only [push_cast, hg, Ac.pv, Int.reduceBEq, Int.reduceBNe, Int.reduceEq, Int.reduceNe, Int.reducePow, Nat.reduceAdd, Nat.reduceMul, Nat.reduceSub, Nat.reduceLT, Nat.reduceLeDiff, Nat.reduceEqDiff, Nat.reduceBEq, Int.reduceLT, Int.reduceLE, Int.reduceAdd, Int.reduceSub, Int.reduceMul, Int.reduceToNat, Int.reduceNeg, reduceIte, reduceCtorEq, reduceBEq]
              (try refine ⟨by (unfold drawOk; kernel_rfl), ?_⟩)
              refine callE_pure hrq (by rfl) (by rfl) (by rfl) (by decide) (by rfl) (fun _ => by rfl) (by first | rfl | simp [gdOk, newToks]) ?_
              simp -implicitDefEqProofs only [push_cast, hg, Ac.pv, bneSelf, Int.reduceBEq, Int.reduceBNe, Int.reduceEq, Int.reduceNe, Int.reducePow, Nat.reduceAdd, Nat.reduceMul, Nat.reduceSub, Nat.reduceLT, Nat.reduceLeDiff, Nat.reduceEqDiff, Nat.reduceBEq, Int.reduceLT, Int.reduceLE, Int.reduceAdd, Int.reduceSub, Int.reduceMul, Int.reduceToNat, Int.reduceNeg, reduceIte, reduceCtorEq, reduceBEq]
              (try refine ⟨by (unfold drawOk; kernel_rfl), ?_⟩)
              rw [hwr]
              refine ⟨⟨i + 1, by omega, e', L, hJ, false, (fun h => by cases h)⟩, by simp only; omega, ?_⟩
              (simp only [PlS.st, rpv, rcs, pcs, wz, if_true, if_false, Bool.false_eq_true, reduceIte, En.pv, En.cs]; exact Wk.by _ _ _ [(0, 0), (1, 1)] [] [] (by simp) (by simp [wkV, PV.el, PV.weak, PS.get, PS.obj, PS.lv, lkp_hit, lkp_miss, lkp_nil, lko]) (by simp [PS.get, PS.obj, PS.lv, lkp_hit, lkp_miss, lkp_nil, lko, wkL, wkC, PV.weak]) (by simp [PS.get, PS.obj, PS.lv, lkp_hit, lkp_miss, lkp_nil, lko]) (by rfl) (by rfl) (by simp [lko]) (by simp) (by simp) (by simp) (fun i hi => absurd hi (Nat.not_lt_zero i)))
            · try simp -implicitDefEqProofs only [push_cast, hg, Ac.pv, Int.reduceBEq, Int.reduceBNe, Int.reduceEq, Int.reduceNe, Int.reducePow, Nat.reduceAdd, Nat.reduceMul, Nat.reduceSub, Nat.reduceLT, Nat.reduceLeDiff, Nat.reduceEqDiff, Nat.reduceBEq, Int.reduceLT, Int.reduceLE, Int.reduceAdd, Int.reduceSub, Int.reduceMul, Int.reduceToNat, Int.reduceNeg, reduceIte, reduceCtorEq, reduceBEq]
              refine condC_split (fun h4 => ?_) (fun h4 => ?_)
              · have hs := due_fs e (by have := hj.bk.w; omega) (fun p hp => by have := hj.bk.wb p hp; omega)
                have hs2 := zz (args := []) true hz (rdue_fs e L (by have := hj.bk.w; omega) (fun p hp => by have := hj.bk.wb p hp; omega))
                have htx := texts_fs e.dueP e.dueP (dueP_le e (by have := hj.bk.w; omega))
                rw [decide_eq_true rfl] at htx
                have hJ := hj.due.up
                generalize e.dueP = dp at *
                generalize e.due = e' at *
                simp only [rpv, rcs, pcs, wz, if_true, if_false, Bool.false_eq_true, reduceIte, En.pv, En.cs] at hs hs2
                simp -implicitDefEqProofs only [push_cast, hg, Ac.pv, bneSelf, Int.reduceBEq, Int.reduceBNe, Int.reduceEq, Int.reduceNe, Int.reducePow, Nat.reduceAdd, Nat.reduceMul, Nat.reduceSub, Nat.reduceLT, Nat.reduceLeDiff, Nat.reduceEqDiff, Nat.reduceBEq, Int.reduceLT, Int.reduceLE, Int.reduceAdd, Int.reduceSub, Int.reduceMul, Int.reduceToNat, Int.reduceNeg, reduceIte, reduceCtorEq, reduceBEq]
                (try refine ⟨by (unfold drawOk; kernel_rfl), ?_⟩)
                refine callE_pure hs (by rfl) (by rfl) (by rfl) (by decide) (by rfl) (fun _ => by rfl) (by first | rfl | simp [gdOk, newToks]) ?_
                simp -implicitDefEqProofs only [push_cast, hg, Ac.pv, bneSelf, Int.reduceBEq, Int.reduceBNe, Int.reduceEq, Int.reduceNe, Int.reducePow, Nat.reduceAdd, Nat.reduceMul, Nat.reduceSub, Nat.reduceLT, Nat.reduceLeDiff, Nat.reduceEqDiff, Nat.reduceBEq, Int.reduceLT, Int.reduceLE, Int.reduceAdd, Int.reduceSub, Int.reduceMul, Int.reduceToNat, Int.reduceNeg, reduceIte, reduceCtorEq, reduceBEq]
                (try refine ⟨by (unfold drawOk; kernel_rfl), ?_⟩)
                refine callE_pure hs2 (by rfl) (by rfl) (by rfl) (by decide) (by rfl) (fun _ => by rfl) (by first | rfl | simp [gdOk, newToks]) ?_
                simp -implicitDefEqProofs only [push_cast, hg, Ac.pv, bneSelf, Int.reduceBEq, Int.reduceBNe, Int.reduceEq, Int.reduceNe, Int.reducePow, Nat.reduceAdd, Nat.reduceMul, Nat.reduceSub, Nat.reduceLT, Nat.reduceLeDiff, Nat.reduceEqDiff, Nat.reduceBEq, Int.reduceLT, Int.reduceLE, Int.reduceAdd, Int.reduceSub, Int.reduceMul, Int.reduceToNat, Int.reduceNeg, reduceIte, reduceCtorEq, reduceBEq]
                (try refine ⟨by (unfold drawOk; kernel_rfl), ?_⟩)
                refine callE_pure htx (by rfl) (by rfl) (by rfl) (by decide) (by rfl) (fun _ => by rfl) (by first | rfl | simp [gdOk, newToks]) ?_
                simp -implicitDefEqProofs only [push_cast, hg, Ac.pv, bneSelf, Int.reduceBEq, Int.reduceBNe, Int.reduceEq, Int.reduceNe, Int.reducePow, Nat.reduceAdd, Nat.reduceMul, Nat.reduceSub, Nat.reduceLT, Nat.reduceLeDiff, Nat.reduceEqDiff, Nat.reduceBEq, Int.reduceLT, Int.reduceLE, Int.reduceAdd, Int.reduceSub, Int.reduceMul, Int.reduceToNat, Int.reduceNeg, reduceIte, reduceCtorEq, reduceBEq]
                (try refine ⟨by (unfold drawOk; kernel_rfl), ?_⟩)
                have hqq := quiet_fs e'
                have hrq := zz (args := []) false (fun h => by cases h) (rquiet_fs e' L)
                generalize hqv : (decide (e'.way.length = 0) && !e'.ack) = qv at hqq hrq
                simp only [rpv, rcs, pcs, wz, if_true, if_false, Bool.false_eq_true, reduceIte, En.pv, En.cs] at hqq hrq
                try simp -implicitDefEqProofs only [push_cast, hg, Ac.pv, Int.reduceBEq, Int.reduceBNe, Int.reduceEq, Int.reduceNe, Int.reducePow, Nat.reduceAdd, Nat.reduceMul, Nat.reduceSub, Nat.reduceLT, Nat.reduceLeDiff, Nat.reduceEqDiff, Nat.reduceBEq, Int.reduceLT, Int.reduceLE, Int.reduceAdd, Int.reduceSub, Int.reduceMul, Int.reduceToNat, Int.reduceNeg, reduceIte, reduceCtorEq, reduceBEq]
                (try refine ⟨by (unfold drawOk; kernel_rfl), ?_⟩)
                refine callE_pure hqq (by rfl) (by rfl) (by rfl) (by decide) (by rfl) (fun _ => by rfl) (by first | rfl | simp [gdOk, newToks]) ?_
                simp -implicitDefEqProofs only [push_cast, hg, Ac.pv, Int.reduceBEq, Int.reduceBNe, Int.reduceEq, Int.reduceNe, Int.reducePow, Nat.reduceAdd, Nat.reduceMul, Nat.reduceSub, Nat.reduceLT, Nat.reduceLeDiff, Nat.reduceEqDiff, Nat.reduceBEq, Int.reduceLT, Int.reduceLE, Int.reduceAdd, Int.reduceSub, Int.reduceMul, Int.reduceToNat, Int.reduceNeg, reduceIte, reduceCtorEq, reduceBEq]
                (try refine ⟨by (unfold drawOk; kernel_rfl), ?_⟩)
                refine callE_pure hrq (by rfl) (by rfl) (by rfl) (by decide) (by rfl) (fun _ => by rfl) (by first | rfl | simp [gdOk, newToks]) ?_
                simp -implicitDefEqProofs only [push_cast, hg, Ac.pv, bneSelf, Int.reduceBEq, Int.reduceBNe, Int.reduceEq, Int.reduceNe, Int.reducePow, Nat.reduceAdd, Nat.reduceMul, Nat.reduceSub, Nat.reduceLT, Nat.reduceLeDiff, Nat.reduceEqDiff, Nat.reduceBEq, Int.reduceLT, Int.reduceLE, Int.reduceAdd, Int.reduceSub, Int.reduceMul, Int.reduceToNat, Int.reduceNeg, reduceIte, reduceCtorEq, reduceBEq]
                (try refine ⟨by (unfold drawOk; kernel_rfl), ?_⟩)
                rw [hwr]
                refine ⟨⟨i + 1, by omega, e', L, hJ, false, (fun h => by cases h)⟩, by simp only; omega, ?_⟩
                (simp only [PlS.st, rpv, rcs, pcs, wz, if_true, if_false, Bool.false_eq_true, reduceIte, En.pv, En.cs]; exact Wk.by _ _ _ [(0, 0), (1, 1)] [] [] (by simp) (by simp [wkV, PV.el, PV.weak, PS.get, PS.obj, PS.lv, lkp_hit, lkp_miss, lkp_nil, lko]) (by simp [PS.get, PS.obj, PS.lv, lkp_hit, lkp_miss, lkp_nil, lko, wkL, wkC, PV.weak]) (by simp [PS.get, PS.obj, PS.lv, lkp_hit, lkp_miss, lkp_nil, lko]) (by rfl) (by rfl) (by simp [lko]) (by simp) (by simp) (by simp) (fun i hi => absurd hi (Nat.not_lt_zero i)))
              · try simp -implicitDefEqProofs only [push_cast, hg, Ac.pv, Int.reduceBEq, Int.reduceBNe, Int.reduceEq, Int.reduceNe, Int.reducePow, Nat.reduceAdd, Nat.reduceMul, Nat.reduceSub, Nat.reduceLT, Nat.reduceLeDiff, Nat.reduceEqDiff, Nat.reduceBEq, Int.reduceLT, Int.reduceLE, Int.reduceAdd, Int.reduceSub, Int.reduceMul, Int.reduceToNat, Int.reduceNeg, reduceIte, reduceCtorEq, reduceBEq]
                refine condC_split (fun h5 => ?_) (fun h5 => ?_)
                · obtain ⟨e', L', c, hR, hR2, hJ⟩ := hj.gotc hqs
                  have hs := got_fs e q.b (hj.bk.ok (by omega)) (by omega)
                  have hs2 := zz true hz (rgot_fs e L q.b (hj.bk.ok (by omega)) (by omega) (by have := hj.ll; omega) (by have := hj.ls; omega))
                  rw [hR] at hs
                  rw [hR2] at hs2
                  simp only [rpv, rcs, pcs, wz, if_true, if_false, Bool.false_eq_true, reduceIte, En.pv, En.cs] at hs hs2
                  simp -implicitDefEqProofs only [push_cast, hg, Ac.pv, bneSelf, Int.reduceBEq, Int.reduceBNe, Int.reduceEq, Int.reduceNe, Int.reducePow, Nat.reduceAdd, Nat.reduceMul, Nat.reduceSub, Nat.reduceLT, Nat.reduceLeDiff, Nat.reduceEqDiff, Nat.reduceBEq, Int.reduceLT, Int.reduceLE, Int.reduceAdd, Int.reduceSub, Int.reduceMul, Int.reduceToNat, Int.reduceNeg, reduceIte, reduceCtorEq, reduceBEq]
                  (try refine ⟨by (unfold drawOk; kernel_rfl), ?_⟩)
                  refine ⟨hlt', ?_⟩
                  refine callE_pure hs (by rfl) (by rfl) (by rfl) (by decide) (by rfl) (fun _ => by rfl) (by first | rfl | simp [gdOk, newToks]) ?_
                  simp -implicitDefEqProofs only [push_cast, hg, Ac.pv, bneSelf, Int.reduceBEq, Int.reduceBNe, Int.reduceEq, Int.reduceNe, Int.reducePow, Nat.reduceAdd, Nat.reduceMul, Nat.reduceSub, Nat.reduceLT, Nat.reduceLeDiff, Nat.reduceEqDiff, Nat.reduceBEq, Int.reduceLT, Int.reduceLE, Int.reduceAdd, Int.reduceSub, Int.reduceMul, Int.reduceToNat, Int.reduceNeg, reduceIte, reduceCtorEq, reduceBEq]
                  (try refine ⟨by (unfold drawOk; kernel_rfl), ?_⟩)
                  refine ⟨hlt', ?_⟩
                  refine callE_pure hs2 (by rfl) (by rfl) (by rfl) (by decide) (by rfl) (fun _ => by rfl) (by first | rfl | simp [gdOk, newToks]) ?_
                  simp -implicitDefEqProofs only [push_cast, hg, Ac.pv, bneSelf, Int.reduceBEq, Int.reduceBNe, Int.reduceEq, Int.reduceNe, Int.reducePow, Nat.reduceAdd, Nat.reduceMul, Nat.reduceSub, Nat.reduceLT, Nat.reduceLeDiff, Nat.reduceEqDiff, Nat.reduceBEq, Int.reduceLT, Int.reduceLE, Int.reduceAdd, Int.reduceSub, Int.reduceMul, Int.reduceToNat, Int.reduceNeg, reduceIte, reduceCtorEq, reduceBEq]
                  (try refine ⟨by (unfold drawOk; kernel_rfl), ?_⟩)
                  have hqq := quiet_fs e'
                  have hrq := zz (args := []) false (fun h => by cases h) (rquiet_fs e' L')
                  generalize hqv : (decide (e'.way.length = 0) && !e'.ack) = qv at hqq hrq
                  simp only [rpv, rcs, pcs, wz, if_true, if_false, Bool.false_eq_true, reduceIte, En.pv, En.cs] at hqq hrq
                  try simp -implicitDefEqProofs only [push_cast, hg, Ac.pv, Int.reduceBEq, Int.reduceBNe, Int.reduceEq, Int.reduceNe, Int.reducePow, Nat.reduceAdd, Nat.reduceMul, Nat.reduceSub, Nat.reduceLT, Nat.reduceLeDiff, Nat.reduceEqDiff, Nat.reduceBEq, Int.reduceLT, Int.reduceLE, Int.reduceAdd, Int.reduceSub, Int.reduceMul, Int.reduceToNat, Int.reduceNeg, reduceIte, reduceCtorEq, reduceBEq]
                  (try refine ⟨by (unfold drawOk; kernel_rfl), ?_⟩)
                  refine callE_pure hqq (by rfl) (by rfl) (by rfl) (by decide) (by rfl) (fun _ => by rfl) (by first | rfl | simp [gdOk, newToks]) ?_
                  simp -implicitDefEqProofs only [push_cast, hg, Ac.pv, Int.reduceBEq, Int.reduceBNe, Int.reduceEq, Int.reduceNe, Int.reducePow, Nat.reduceAdd, Nat.reduceMul, Nat.reduceSub, Nat.reduceLT, Nat.reduceLeDiff, Nat.reduceEqDiff, Nat.reduceBEq, Int.reduceLT, Int.reduceLE, Int.reduceAdd, Int.reduceSub, Int.reduceMul, Int.reduceToNat, Int.reduceNeg, reduceIte, reduceCtorEq, reduceBEq]
                  (try refine ⟨by (unfold drawOk; kernel_rfl), ?_⟩)
                  refine callE_pure hrq (by rfl) (by rfl) (by rfl) (by decide) (by rfl) (fun _ => by rfl) (by first | rfl | simp [gdOk, newToks]) ?_
                  simp -implicitDefEqProofs only [push_cast, hg, Ac.pv, bneSelf, Int.reduceBEq, Int.reduceBNe, Int.reduceEq, Int.reduceNe, Int.reducePow, Nat.reduceAdd, Nat.reduceMul, Nat.reduceSub, Nat.reduceLT, Nat.reduceLeDiff, Nat.reduceEqDiff, Nat.reduceBEq, Int.reduceLT, Int.reduceLE, Int.reduceAdd, Int.reduceSub, Int.reduceMul, Int.reduceToNat, Int.reduceNeg, reduceIte, reduceCtorEq, reduceBEq]
                  (try refine ⟨by (unfold drawOk; kernel_rfl), ?_⟩)
                  rw [hwr]
                  refine ⟨⟨i + 1, by omega, e', L', hJ, false, (fun h => by cases h)⟩, by simp only; omega, ?_⟩
                  (simp only [PlS.st, rpv, rcs, pcs, wz, if_true, if_false, Bool.false_eq_true, reduceIte, En.pv, En.cs]; exact Wk.by _ _ _ [(0, 0), (1, 1)] [] [] (by simp) (by simp [wkV, PV.el, PV.weak, PS.get, PS.obj, PS.lv, lkp_hit, lkp_miss, lkp_nil, lko]) (by simp [PS.get, PS.obj, PS.lv, lkp_hit, lkp_miss, lkp_nil, lko, wkL, wkC, PV.weak]) (by simp [PS.get, PS.obj, PS.lv, lkp_hit, lkp_miss, lkp_nil, lko]) (by rfl) (by rfl) (by simp [lko]) (by simp) (by simp) (by simp) (fun i hi => absurd hi (Nat.not_lt_zero i)))
                · try simp -implicitDefEqProofs only [push_cast, hg, Ac.pv, Int.reduceBEq, Int.reduceBNe, Int.reduceEq, Int.reduceNe, Int.reducePow, Nat.reduceAdd, Nat.reduceMul, Nat.reduceSub, Nat.reduceLT, Nat.reduceLeDiff, Nat.reduceEqDiff, Nat.reduceBEq, Int.reduceLT, Int.reduceLE, Int.reduceAdd, Int.reduceSub, Int.reduceMul, Int.reduceToNat, Int.reduceNeg, reduceIte, reduceCtorEq, reduceBEq]
                  refine condC_split (fun h6 => ?_) (fun h6 => ?_)
                  · have hs := read_fs e
                    have hJ := hj.clear.up
                    obtain ⟨e', he'⟩ : ∃ e' : En, e' = { e with read := [] } := ⟨_, rfl⟩
                    have hmc : e'.most = e.most ∧ e'.rest = e.rest ∧ e'.way = e.way ∧ e'.next = e.next ∧ e'.exp = e.exp ∧ e'.ack = e.ack ∧ e'.read = [] ∧ e'.aside = e.aside := by subst he'; exact ⟨rfl, rfl, rfl, rfl, rfl, rfl, rfl, rfl⟩
                    obtain ⟨m1, m2, m3, m4, m5, m6, m7, m8⟩ := hmc
                    rw [← he'] at hJ
                    rw [← he'] at hs
                    simp only [rpv, rcs, pcs, wz, if_true, if_false, Bool.false_eq_true, reduceIte, En.pv, En.cs, m1, m2, m3, m4, m5, m6, m7, m8] at hs
                    simp -implicitDefEqProofs only [push_cast, hg, Ac.pv, bneSelf, Int.reduceBEq, Int.reduceBNe, Int.reduceEq, Int.reduceNe, Int.reducePow, Nat.reduceAdd, Nat.reduceMul, Nat.reduceSub, Nat.reduceLT, Nat.reduceLeDiff, Nat.reduceEqDiff, Nat.reduceBEq, Int.reduceLT, Int.reduceLE, Int.reduceAdd, Int.reduceSub, Int.reduceMul, Int.reduceToNat, Int.reduceNeg, reduceIte, reduceCtorEq, reduceBEq]
                    (try refine ⟨by (unfold drawOk; kernel_rfl), ?_⟩)
                    refine callE_pure hs (by rfl) (by rfl) (by rfl) (by decide) (by rfl) (fun _ => by rfl) (by first | rfl | simp [gdOk, newToks]) ?_
                    simp -implicitDefEqProofs only [push_cast, hg, Ac.pv, bneSelf, Int.reduceBEq, Int.reduceBNe, Int.reduceEq, Int.reduceNe, Int.reducePow, Nat.reduceAdd, Nat.reduceMul, Nat.reduceSub, Nat.reduceLT, Nat.reduceLeDiff, Nat.reduceEqDiff, Nat.reduceBEq, Int.reduceLT, Int.reduceLE, Int.reduceAdd, Int.reduceSub, Int.reduceMul, Int.reduceToNat, Int.reduceNeg, reduceIte, reduceCtorEq, reduceBEq]
                    (try refine ⟨by (unfold drawOk; kernel_rfl), ?_⟩)
                    have hqq := quiet_fs e'
                    have hrq := zz (args := []) true (fun _ => by rw [m3]; exact hz rfl) (rquiet_fs e' L)
                    generalize hqv : (decide (e'.way.length = 0) && !e'.ack) = qv at hqq hrq
                    simp only [rpv, rcs, pcs, wz, if_true, if_false, Bool.false_eq_true, reduceIte, En.pv, En.cs, m1, m2, m3, m4, m5, m6, m7, m8] at hqq hrq
                    try simp -implicitDefEqProofs only [push_cast, hg, Ac.pv, Int.reduceBEq, Int.reduceBNe, Int.reduceEq, Int.reduceNe, Int.reducePow, Nat.reduceAdd, Nat.reduceMul, Nat.reduceSub, Nat.reduceLT, Nat.reduceLeDiff, Nat.reduceEqDiff, Nat.reduceBEq, Int.reduceLT, Int.reduceLE, Int.reduceAdd, Int.reduceSub, Int.reduceMul, Int.reduceToNat, Int.reduceNeg, reduceIte, reduceCtorEq, reduceBEq]
                    (try refine ⟨by (unfold drawOk; kernel_rfl), ?_⟩)
                    refine callE_pure hqq (by rfl) (by rfl) (by rfl) (by decide) (by rfl) (fun _ => by rfl) (by first | rfl | simp [gdOk, newToks]) ?_
                    simp -implicitDefEqProofs only [push_cast, hg, Ac.pv, Int.reduceBEq, Int.reduceBNe, Int.reduceEq, Int.reduceNe, Int.reducePow, Nat.reduceAdd, Nat.reduceMul, Nat.reduceSub, Nat.reduceLT, Nat.reduceLeDiff, Nat.reduceEqDiff, Nat.reduceBEq, Int.reduceLT, Int.reduceLE, Int.reduceAdd, Int.reduceSub, Int.reduceMul, Int.reduceToNat, Int.reduceNeg, reduceIte, reduceCtorEq, reduceBEq]
                    (try refine ⟨by (unfold drawOk; kernel_rfl), ?_⟩)
                    refine callE_pure hrq (by rfl) (by rfl) (by rfl) (by decide) (by rfl) (fun _ => by rfl) (by first | rfl | simp [gdOk, newToks]) ?_
                    simp -implicitDefEqProofs only [push_cast, hg, Ac.pv, bneSelf, Int.reduceBEq, Int.reduceBNe, Int.reduceEq, Int.reduceNe, Int.reducePow, Nat.reduceAdd, Nat.reduceMul, Nat.reduceSub, Nat.reduceLT, Nat.reduceLeDiff, Nat.reduceEqDiff, Nat.reduceBEq, Int.reduceLT, Int.reduceLE, Int.reduceAdd, Int.reduceSub, Int.reduceMul, Int.reduceToNat, Int.reduceNeg, reduceIte, reduceCtorEq, reduceBEq]
                    (try refine ⟨by (unfold drawOk; kernel_rfl), ?_⟩)
                    rw [hwr]
                    refine ⟨⟨i + 1, by omega, e', L, hJ, true, (fun _ => by rw [m3]; exact hz rfl)⟩, by simp only; omega, ?_⟩
                    (simp only [PlS.st, rpv, rcs, pcs, wz, if_true, if_false, Bool.false_eq_true, reduceIte, En.pv, En.cs]; exact Wk.by _ _ _ [(0, 0), (1, 1)] [] [] (by simp) (by simp [wkV, PV.el, PV.weak, PS.get, PS.obj, PS.lv, lkp_hit, lkp_miss, lkp_nil, lko, m1, m2, m3, m4, m5, m6, m7, m8]) (by simp [PS.get, PS.obj, PS.lv, lkp_hit, lkp_miss, lkp_nil, lko, wkL, wkC, PV.weak, m1, m2, m3, m4, m5, m6, m7, m8]) (by simp [PS.get, PS.obj, PS.lv, lkp_hit, lkp_miss, lkp_nil, lko]) (by rfl) (by rfl) (by simp [lko]) (by simp) (by simp) (by simp) (fun i hi => absurd hi (Nat.not_lt_zero i)))
                  · try simp -implicitDefEqProofs only [push_cast, hg, Ac.pv, Int.reduceBEq, Int.reduceBNe, Int.reduceEq, Int.reduceNe, Int.reducePow, Nat.reduceAdd, Nat.reduceMul, Nat.reduceSub, Nat.reduceLT, Nat.reduceLeDiff, Nat.reduceEqDiff, Nat.reduceBEq, Int.reduceLT, Int.reduceLE, Int.reduceAdd, Int.reduceSub, Int.reduceMul, Int.reduceToNat, Int.reduceNeg, reduceIte, reduceCtorEq, reduceBEq]
                    refine condC_split (fun h7 => ?_) (fun h7 => ?_)
                    · have hs := tick_fs e (by have := hj.bk.w; omega)
                      have hs2 := zz (args := []) true hz (rtick_fs e L (by have := hj.bk.w; omega))
                      have hJ := hj.tick.up
                      generalize e.tick = e' at *
                      simp only [rpv, rcs, pcs, wz, if_true, if_false, Bool.false_eq_true, reduceIte, En.pv, En.cs] at hs hs2
                      simp -implicitDefEqProofs only [push_cast, hg, Ac.pv, bneSelf, Int.reduceBEq, Int.reduceBNe, Int.reduceEq, Int.reduceNe, Int.reducePow, Nat.reduceAdd, Nat.reduceMul, Nat.reduceSub, Nat.reduceLT, Nat.reduceLeDiff, Nat.reduceEqDiff, Nat.reduceBEq, Int.reduceLT, Int.reduceLE, Int.reduceAdd, Int.reduceSub, Int.reduceMul, Int.reduceToNat, Int.reduceNeg, reduceIte, reduceCtorEq, reduceBEq]
                      (try refine ⟨by (unfold drawOk; kernel_rfl), ?_⟩)
                      refine callE_pure hs (by rfl) (by rfl) (by rfl) (by decide) (by rfl) (fun _ => by rfl) (by first | rfl | simp [gdOk, newToks]) ?_
                      simp -implicitDefEqProofs only [push_cast, hg, Ac.pv, bneSelf, Int.reduceBEq, Int.reduceBNe, Int.reduceEq, Int.reduceNe, Int.reducePow, Nat.reduceAdd, Nat.reduceMul, Nat.reduceSub, Nat.reduceLT, Nat.reduceLeDiff, Nat.reduceEqDiff, Nat.reduceBEq, Int.reduceLT, Int.reduceLE, Int.reduceAdd, Int.reduceSub, Int.reduceMul, Int.reduceToNat, Int.reduceNeg, reduceIte, reduceCtorEq, reduceBEq]
                      (try refine ⟨by (unfold drawOk; kernel_rfl), ?_⟩)
                      refine callE_pure hs2 (by rfl) (by rfl) (by rfl) (by decide) (by rfl) (fun _ => by rfl) (by first | rfl | simp [gdOk, newToks]) ?_
                      simp -implicitDefEqProofs only [push_cast, hg, Ac.pv, bneSelf, Int.reduceBEq, Int.reduceBNe, Int.reduceEq, Int.reduceNe, Int.reducePow, Nat.reduceAdd, Nat.reduceMul, Nat.reduceSub, Nat.reduceLT, Nat.reduceLeDiff, Nat.reduceEqDiff, Nat.reduceBEq, Int.reduceLT, Int.reduceLE, Int.reduceAdd, Int.reduceSub, Int.reduceMul, Int.reduceToNat, Int.reduceNeg, reduceIte, reduceCtorEq, reduceBEq]
                      (try refine ⟨by (unfold drawOk; kernel_rfl), ?_⟩)
                      have hqq := quiet_fs e'
                      have hrq := zz (args := []) false (fun h => by cases h) (rquiet_fs e' L)
                      generalize hqv : (decide (e'.way.length = 0) && !e'.ack) = qv at hqq hrq
                      simp only [rpv, rcs, pcs, wz, if_true, if_false, Bool.false_eq_true, reduceIte, En.pv, En.cs] at hqq hrq
                      try simp -implicitDefEqProofs only [push_cast, hg, Ac.pv, Int.reduceBEq, Int.reduceBNe, Int.reduceEq, Int.reduceNe, Int.reducePow, Nat.reduceAdd, Nat.reduceMul, Nat.reduceSub, Nat.reduceLT, Nat.reduceLeDiff, Nat.reduceEqDiff, Nat.reduceBEq, Int.reduceLT, Int.reduceLE, Int.reduceAdd, Int.reduceSub, Int.reduceMul, Int.reduceToNat, Int.reduceNeg, reduceIte, reduceCtorEq, reduceBEq]
                      (try refine ⟨by (unfold drawOk; kernel_rfl), ?_⟩)
                      refine callE_pure hqq (by rfl) (by rfl) (by rfl) (by decide) (by rfl) (fun _ => by rfl) (by first | rfl | simp [gdOk, newToks]) ?_
                      simp -implicitDefEqProofs only [push_cast, hg, Ac.pv, Int.reduceBEq, Int.reduceBNe, Int.reduceEq, Int.reduceNe, Int.reducePow, Nat.reduceAdd, Nat.reduceMul, Nat.reduceSub, Nat.reduceLT, Nat.reduceLeDiff, Nat.reduceEqDiff, Nat.reduceBEq, Int.reduceLT, Int.reduceLE, Int.reduceAdd, Int.reduceSub, Int.reduceMul, Int.reduceToNat, Int.reduceNeg, reduceIte, reduceCtorEq, reduceBEq]
                      (try refine ⟨by (unfold drawOk; kernel_rfl), ?_⟩)
                      refine callE_pure hrq (by rfl) (by rfl) (by rfl) (by decide) (by rfl) (fun _ => by rfl) (by first | rfl | simp [gdOk, newToks]) ?_
                      simp -implicitDefEqProofs only [push_cast, hg, Ac.pv, bneSelf, Int.reduceBEq, Int.reduceBNe, Int.reduceEq, Int.reduceNe, Int.reducePow, Nat.reduceAdd, Nat.reduceMul, Nat.reduceSub, Nat.reduceLT, Nat.reduceLeDiff, Nat.reduceEqDiff, Nat.reduceBEq, Int.reduceLT, Int.reduceLE, Int.reduceAdd, Int.reduceSub, Int.reduceMul, Int.reduceToNat, Int.reduceNeg, reduceIte, reduceCtorEq, reduceBEq]
                      (try refine ⟨by (unfold drawOk; kernel_rfl), ?_⟩)
                      rw [hwr]
                      refine ⟨⟨i + 1, by omega, e', L, hJ, false, (fun h => by cases h)⟩, by simp only; omega, ?_⟩
                      (simp only [PlS.st, rpv, rcs, pcs, wz, if_true, if_false, Bool.false_eq_true, reduceIte, En.pv, En.cs]; exact Wk.by _ _ _ [(0, 0), (1, 1)] [] [] (by simp) (by simp [wkV, PV.el, PV.weak, PS.get, PS.obj, PS.lv, lkp_hit, lkp_miss, lkp_nil, lko]) (by simp [PS.get, PS.obj, PS.lv, lkp_hit, lkp_miss, lkp_nil, lko, wkL, wkC, PV.weak]) (by simp [PS.get, PS.obj, PS.lv, lkp_hit, lkp_miss, lkp_nil, lko]) (by rfl) (by rfl) (by simp [lko]) (by simp) (by simp) (by simp) (fun i hi => absurd hi (Nat.not_lt_zero i)))
                    · try simp -implicitDefEqProofs only [push_cast, hg, Ac.pv, Int.reduceBEq, Int.reduceBNe, Int.reduceEq, Int.reduceNe, Int.reducePow, Nat.reduceAdd, Nat.reduceMul, Nat.reduceSub, Nat.reduceLT, Nat.reduceLeDiff, Nat.reduceEqDiff, Nat.reduceBEq, Int.reduceLT, Int.reduceLE, Int.reduceAdd, Int.reduceSub, Int.reduceMul, Int.reduceToNat, Int.reduceNeg, reduceIte, reduceCtorEq, reduceBEq]
                      refine condC_split (fun h8 => ?_) (fun h8 => ?_)
                      · have hs := cut_fs e (by have := hj.bk.w; omega)
                        have hs2 := zz (args := []) true hz (rcut_fs e L (by have := hj.bk.w; omega))
                        obtain ⟨hJ, hcu⟩ := hj.cut
                        replace hJ := hJ.up
                        rw [hcu] at hs2
                        generalize e.cut = e' at *
                        simp only [rpv, rcs, pcs, wz, if_true, if_false, Bool.false_eq_true, reduceIte, En.pv, En.cs] at hs hs2
                        simp -implicitDefEqProofs only [push_cast, hg, Ac.pv, bneSelf, Int.reduceBEq, Int.reduceBNe, Int.reduceEq, Int.reduceNe, Int.reducePow, Nat.reduceAdd, Nat.reduceMul, Nat.reduceSub, Nat.reduceLT, Nat.reduceLeDiff, Nat.reduceEqDiff, Nat.reduceBEq, Int.reduceLT, Int.reduceLE, Int.reduceAdd, Int.reduceSub, Int.reduceMul, Int.reduceToNat, Int.reduceNeg, reduceIte, reduceCtorEq, reduceBEq]
                        (try refine ⟨by (unfold drawOk; kernel_rfl), ?_⟩)
                        refine callE_pure hs (by rfl) (by rfl) (by rfl) (by decide) (by rfl) (fun _ => by rfl) (by first | rfl | simp [gdOk, newToks]) ?_
                        simp -implicitDefEqProofs only [push_cast, hg, Ac.pv, bneSelf, Int.reduceBEq, Int.reduceBNe, Int.reduceEq, Int.reduceNe, Int.reducePow, Nat.reduceAdd, Nat.reduceMul, Nat.reduceSub, Nat.reduceLT, Nat.reduceLeDiff, Nat.reduceEqDiff, Nat.reduceBEq, Int.reduceLT, Int.reduceLE, Int.reduceAdd, Int.reduceSub, Int.reduceMul, Int.reduceToNat, Int.reduceNeg, reduceIte, reduceCtorEq, reduceBEq]
                        (try refine ⟨by (unfold drawOk; kernel_rfl), ?_⟩)
                        refine callE_pure hs2 (by rfl) (by rfl) (by rfl) (by decide) (by rfl) (fun _ => by rfl) (by first | rfl | simp [gdOk, newToks]) ?_
                        simp -implicitDefEqProofs only [push_cast, hg, Ac.pv, bneSelf, Int.reduceBEq, Int.reduceBNe, Int.reduceEq, Int.reduceNe, Int.reducePow, Nat.reduceAdd, Nat.reduceMul, Nat.reduceSub, Nat.reduceLT, Nat.reduceLeDiff, Nat.reduceEqDiff, Nat.reduceBEq, Int.reduceLT, Int.reduceLE, Int.reduceAdd, Int.reduceSub, Int.reduceMul, Int.reduceToNat, Int.reduceNeg, reduceIte, reduceCtorEq, reduceBEq]
                        (try refine ⟨by (unfold drawOk; kernel_rfl), ?_⟩)
                        have hqq := quiet_fs e'
                        have hrq := zz (args := []) false (fun h => by cases h) (rquiet_fs e' L)
                        generalize hqv : (decide (e'.way.length = 0) && !e'.ack) = qv at hqq hrq
                        simp only [rpv, rcs, pcs, wz, if_true, if_false, Bool.false_eq_true, reduceIte, En.pv, En.cs] at hqq hrq
                        try simp -implicitDefEqProofs only [push_cast, hg, Ac.pv, Int.reduceBEq, Int.reduceBNe, Int.reduceEq, Int.reduceNe, Int.reducePow, Nat.reduceAdd, Nat.reduceMul, Nat.reduceSub, Nat.reduceLT, Nat.reduceLeDiff, Nat.reduceEqDiff, Nat.reduceBEq, Int.reduceLT, Int.reduceLE, Int.reduceAdd, Int.reduceSub, Int.reduceMul, Int.reduceToNat, Int.reduceNeg, reduceIte, reduceCtorEq, reduceBEq]
                        (try refine ⟨by (unfold drawOk; kernel_rfl), ?_⟩)
                        refine callE_pure hqq (by rfl) (by rfl) (by rfl) (by decide) (by rfl) (fun _ => by rfl) (by first | rfl | simp [gdOk, newToks]) ?_
                        simp -implicitDefEqProofs only [push_cast, hg, Ac.pv, Int.reduceBEq, Int.reduceBNe, Int.reduceEq, Int.reduceNe, Int.reducePow, Nat.reduceAdd, Nat.reduceMul, Nat.reduceSub, Nat.reduceLT, Nat.reduceLeDiff, Nat.reduceEqDiff, Nat.reduceBEq, Int.reduceLT, Int.reduceLE, Int.reduceAdd, Int.reduceSub, Int.reduceMul, Int.reduceToNat, Int.reduceNeg, reduceIte, reduceCtorEq, reduceBEq]
                        (try refine ⟨by (unfold drawOk; kernel_rfl), ?_⟩)
                        refine callE_pure hrq (by rfl) (by rfl) (by rfl) (by decide) (by rfl) (fun _ => by rfl) (by first | rfl | simp [gdOk, newToks]) ?_
                        simp -implicitDefEqProofs only [push_cast, hg, Ac.pv, bneSelf, Int.reduceBEq, Int.reduceBNe, Int.reduceEq, Int.reduceNe, Int.reducePow, Nat.reduceAdd, Nat.reduceMul, Nat.reduceSub, Nat.reduceLT, Nat.reduceLeDiff, Nat.reduceEqDiff, Nat.reduceBEq, Int.reduceLT, Int.reduceLE, Int.reduceAdd, Int.reduceSub, Int.reduceMul, Int.reduceToNat, Int.reduceNeg, reduceIte, reduceCtorEq, reduceBEq]
                        (try refine ⟨by (unfold drawOk; kernel_rfl), ?_⟩)
                        rw [hwr]
                        refine ⟨⟨i + 1, by omega, e', L, hJ, false, (fun h => by cases h)⟩, by simp only; omega, ?_⟩
                        (simp only [PlS.st, rpv, rcs, pcs, wz, if_true, if_false, Bool.false_eq_true, reduceIte, En.pv, En.cs]; exact Wk.by _ _ _ [(0, 0), (1, 1)] [] [] (by simp) (by simp [wkV, PV.el, PV.weak, PS.get, PS.obj, PS.lv, lkp_hit, lkp_miss, lkp_nil, lko]) (by simp [PS.get, PS.obj, PS.lv, lkp_hit, lkp_miss, lkp_nil, lko, wkL, wkC, PV.weak]) (by simp [PS.get, PS.obj, PS.lv, lkp_hit, lkp_miss, lkp_nil, lko]) (by rfl) (by rfl) (by simp [lko]) (by simp) (by simp) (by simp) (fun i hi => absurd hi (Nat.not_lt_zero i)))
                      · have hJ := hj.up
                        have hqq := quiet_fs e
                        have hrq := zz (args := []) true hz (rquiet_fs e L)
                        generalize hqv : (decide (e.way.length = 0) && !e.ack) = qv at hqq hrq
                        simp only [rpv, rcs, pcs, wz, if_true, if_false, Bool.false_eq_true, reduceIte, En.pv, En.cs] at hqq hrq
                        try simp -implicitDefEqProofs only [push_cast, hg, Ac.pv, Int.reduceBEq, Int.reduceBNe, Int.reduceEq, Int.reduceNe, Int.reducePow, Nat.reduceAdd, Nat.reduceMul, Nat.reduceSub, Nat.reduceLT, Nat.reduceLeDiff, Nat.reduceEqDiff, Nat.reduceBEq, Int.reduceLT, Int.reduceLE, Int.reduceAdd, Int.reduceSub, Int.reduceMul, Int.reduceToNat, Int.reduceNeg, reduceIte, reduceCtorEq, reduceBEq]
                        (try refine ⟨by (unfold drawOk; kernel_rfl), ?_⟩)
                        refine callE_pure hqq (by rfl) (by rfl) (by rfl) (by decide) (by rfl) (fun _ => by rfl) (by first | rfl | simp [gdOk, newToks]) ?_
                        simp -implicitDefEqProofs only [push_cast, hg, Ac.pv, Int.reduceBEq, Int.reduceBNe, Int.reduceEq, Int.reduceNe, Int.reducePow, Nat.reduceAdd, Nat.reduceMul, Nat.reduceSub, Nat.reduceLT, Nat.reduceLeDiff, Nat.reduceEqDiff, Nat.reduceBEq, Int.reduceLT, Int.reduceLE, Int.reduceAdd, Int.reduceSub, Int.reduceMul, Int.reduceToNat, Int.reduceNeg, reduceIte, reduceCtorEq, reduceBEq]
                        (try refine ⟨by (unfold drawOk; kernel_rfl), ?_⟩)
                        refine callE_pure hrq (by rfl) (by rfl) (by rfl) (by decide) (by rfl) (fun _ => by rfl) (by first | rfl | simp [gdOk, newToks]) ?_
                        simp -implicitDefEqProofs only [push_cast, hg, Ac.pv, bneSelf, Int.reduceBEq, Int.reduceBNe, Int.reduceEq, Int.reduceNe, Int.reducePow, Nat.reduceAdd, Nat.reduceMul, Nat.reduceSub, Nat.reduceLT, Nat.reduceLeDiff, Nat.reduceEqDiff, Nat.reduceBEq, Int.reduceLT, Int.reduceLE, Int.reduceAdd, Int.reduceSub, Int.reduceMul, Int.reduceToNat, Int.reduceNeg, reduceIte, reduceCtorEq, reduceBEq]
                        (try refine ⟨by (unfold drawOk; kernel_rfl), ?_⟩)
                        rw [hwr]
                        refine ⟨⟨i + 1, by omega, e, L, hJ, true, hz⟩, by simp only; omega, ?_⟩
                        (simp only [PlS.st, rpv, rcs, pcs, wz, if_true, if_false, Bool.false_eq_true, reduceIte, En.pv, En.cs]; exact Wk.by _ _ _ [(0, 0), (1, 1)] [] [] (by simp) (by simp [wkV, PV.el, PV.weak, PS.get, PS.obj, PS.lv, lkp_hit, lkp_miss, lkp_nil, lko]) (by simp [PS.get, PS.obj, PS.lv, lkp_hit, lkp_miss, lkp_nil, lko, wkL, wkC, PV.weak]) (by simp [PS.get, PS.obj, PS.lv, lkp_hit, lkp_miss, lkp_nil, lko]) (by rfl) (by rfl) (by simp [lko]) (by simp) (by simp) (by simp) (fun i hi => absurd hi (Nat.not_lt_zero i)))
        · simp -implicitDefEqProofs only [push_cast, Int.reduceBEq, Int.reduceBNe, Int.reduceEq, Int.reduceNe, Int.reducePow, Nat.reduceAdd, Nat.reduceMul, Nat.reduceSub, Nat.reduceLT, Nat.reduceLeDiff, Nat.reduceEqDiff, Nat.reduceBEq, Int.reduceLT, Int.reduceLE, Int.reduceAdd, Int.reduceSub, Int.reduceMul, Int.reduceToNat, Int.reduceNeg, reduceIte, reduceCtorEq, reduceBEq]
          (try refine ⟨by (unfold drawOk; kernel_rfl), ?_⟩)
          refine callE_pure awake_fs (by rfl) (by rfl) (by rfl) (by decide) (by rfl) (fun _ => by rfl) (by first | rfl | simp [gdOk, newToks]) ?_
          simp -implicitDefEqProofs only [push_cast, Int.reduceBEq, Int.reduceBNe, Int.reduceEq, Int.reduceNe, Int.reducePow, Nat.reduceAdd, Nat.reduceMul, Nat.reduceSub, Nat.reduceLT, Nat.reduceLeDiff, Nat.reduceEqDiff, Nat.reduceBEq, Int.reduceLT, Int.reduceLE, Int.reduceAdd, Int.reduceSub, Int.reduceMul, Int.reduceToNat, Int.reduceNeg, reduceIte, reduceCtorEq, reduceBEq]
    · rw [newR, if_neg hm] at hnew
      have hc : (decide (1 ≤ m) && decide (m ≤ 1024)) = true := by simp at hm ⊢; omega
      have hm1 : 1 ≤ m ∧ m ≤ 1024 := by simpa using hc
      obtain ⟨e0, he0⟩ : ∃ e : En, e = { End0 with most := m } := ⟨_, rfl⟩
      rw [← he0] at hnew
      have hj0 : Jn 0 e0 [] := by
        subst he0
        exact ⟨⟨by simp only [End0]; omega, by simp only [End0]; omega, by simp [End0], (fun p hp => by cases hp), by simp [End0], by simp [End0], by simp [End0], by simp [End0], by simp [End0], fun j _ => rfl, fun j => Nat.zero_le _, by simp [End0]⟩, ⟨fun j => rfl, by simp, by simp, by simp⟩, rfl, by simp, by simp [pcSum], ⟨by simp [End0], by simp [End0]⟩, fun h => absurd (show m = 0 from h) (by omega)⟩
      have hw0 : e0.way = [] := by subst he0; rfl
      simp only [rpv, rcs, pcs, wz, if_true, if_false, Bool.false_eq_true, reduceIte, En.pv, En.cs] at hnew
      simp -implicitDefEqProofs only [push_cast, Int.reduceBEq, Int.reduceBNe, Int.reduceEq, Int.reduceNe, Int.reducePow, Nat.reduceAdd, Nat.reduceMul, Nat.reduceSub, Nat.reduceLT, Nat.reduceLeDiff, Nat.reduceEqDiff, Nat.reduceBEq, Int.reduceLT, Int.reduceLE, Int.reduceAdd, Int.reduceSub, Int.reduceMul, Int.reduceToNat, Int.reduceNeg, reduceIte, reduceCtorEq, reduceBEq]
      refine callE_pure hnew (by rfl) (by rfl) (by rfl) (by decide) (by rfl) (fun _ => by rfl) (by first | rfl | simp [gdOk, newToks]) ?_
      simp -implicitDefEqProofs only [push_cast, hc, Int.reduceBEq, Int.reduceBNe, Int.reduceEq, Int.reduceNe, Int.reducePow, Nat.reduceAdd, Nat.reduceMul, Nat.reduceSub, Nat.reduceLT, Nat.reduceLeDiff, Nat.reduceEqDiff, Nat.reduceBEq, Int.reduceLT, Int.reduceLE, Int.reduceAdd, Int.reduceSub, Int.reduceMul, Int.reduceToNat, Int.reduceNeg, reduceIte, reduceCtorEq, reduceBEq]
      obtain ⟨y1, y2, y3, y4, y5, y6⟩ : e0.most = m ∧ e0.rest = [] ∧ e0.next = 0 ∧ e0.exp = 0 ∧ e0.read = [] ∧ e0.ack = false := by subst he0; exact ⟨rfl, rfl, rfl, rfl, rfl, rfl⟩
      refine loopC_of (α := PlS l) PlS.st (fun x => l.length - x.i) ⟨0, by omega, e0, [], hj0, true, fun _ => ⟨hw0, rfl⟩⟩ ?_ ?_
      · (simp only [PlS.st, rpv, rcs, pcs, wz, if_true, if_false, Bool.false_eq_true, reduceIte, En.pv, En.cs]; exact Wk.by _ _ _ [(0, 32), (1, 44)] [] [] (by simp) (by simp [wkV, PV.el, PV.weak, PS.get, PS.obj, PS.lv, lkp_hit, lkp_miss, lkp_nil, lko, y1, y2, y3, y4, y5, y6, hw0]) (by simp [PS.get, PS.obj, PS.lv, lkp_hit, lkp_miss, lkp_nil, lko, wkL, wkC, PV.weak, y1, y2, y3, y4, y5, y6, hw0]) (by simp [PS.get, PS.obj, PS.lv, lkp_hit, lkp_miss, lkp_nil, lko]) (by rfl) (by rfl) (by simp [lko]) (by simp) (by simp) (by simp) (fun i hi => absurd hi (Nat.not_lt_zero i)))
      · rintro ⟨i, hi, e, L, hj, z, hz⟩
        simp -implicitDefEqProofs only [push_cast, PlS.st, Int.reduceBEq, Int.reduceBNe, Int.reduceEq, Int.reduceNe, Int.reducePow, Nat.reduceAdd, Nat.reduceMul, Nat.reduceSub, Nat.reduceLT, Nat.reduceLeDiff, Nat.reduceEqDiff, Nat.reduceBEq, Int.reduceLT, Int.reduceLE, Int.reduceAdd, Int.reduceSub, Int.reduceMul, Int.reduceToNat, Int.reduceNeg, reduceIte, reduceCtorEq, reduceBEq]
        refine condC_split (fun h2 => ?_) (fun h2 => ?_)
        · have hlt : i < l.length := by simp at h2; omega
          have hg := acs_at hlt
          have hqs : (l.getD i ac0).b.length ≤ 3000 := by
            rw [List.getD_eq_getElem?_getD, List.getElem?_eq_getElem hlt, Option.getD_some]
            exact hall _ (List.getElem_mem _)
          have hwr : IntKind.i64.wrap ((i : Int) + 1) = ((i + 1 : Nat) : Int) := by (rw [wrap_i64_id (by omega) (by omega)]; rfl)
          have hlt' : (i : Int) < ((l.map Ac.pv).length : Int) := by rw [List.length_map]; omega
          generalize l.getD i ac0 = q at hg hqs
          cases z
          · simp only [rpv, rcs, pcs, wz, if_true, if_false, Bool.false_eq_true, reduceIte, En.pv, En.cs]
            simp -implicitDefEqProofs only [push_cast, hg, Ac.pv, Int.reduceBEq, Int.reduceBNe, Int.reduceEq, Int.reduceNe, Int.reducePow, Nat.reduceAdd, Nat.reduceMul, Nat.reduceSub, Nat.reduceLT, Nat.reduceLeDiff, Nat.reduceEqDiff, Nat.reduceBEq, Int.reduceLT, Int.reduceLE, Int.reduceAdd, Int.reduceSub, Int.reduceMul, Int.reduceToNat, Int.reduceNeg, reduceIte, reduceCtorEq, reduceBEq]
            refine ⟨hlt', ?_⟩
            refine condC_split (fun h3 => ?_) (fun h3 => ?_)
            · obtain ⟨e', c, hR, hR2, hJ⟩ := hj.sendc hqs
              have hs := send_fs e q.b (hj.bk.ok (by omega)) (by omega)
              have hs2 := zz false hz (rsend_fs e L q.b (hj.bk.ok (by omega)) (by omega) (by have := hj.bk.r; omega))
              rw [hR] at hs
              rw [hR2] at hs2
              simp only [rpv, rcs, pcs, wz, if_true, if_false, Bool.false_eq_true, reduceIte, En.pv, En.cs] at hs hs2
              simp -implicitDefEqProofs only [push_cast, hg, Ac.pv, bneSelf, Int.reduceBEq, Int.reduceBNe, Int.reduceEq, Int.reduceNe, Int.reducePow, Nat.reduceAdd, Nat.reduceMul, Nat.reduceSub, Nat.reduceLT, Nat.reduceLeDiff, Nat.reduceEqDiff, Nat.reduceBEq, Int.reduceLT, Int.reduceLE, Int.reduceAdd, Int.reduceSub, Int.reduceMul, Int.reduceToNat, Int.reduceNeg, reduceIte, reduceCtorEq, reduceBEq]
              (try refine ⟨by (unfold drawOk; kernel_rfl), ?_⟩)
              refine ⟨hlt', ?_⟩
              refine callE_pure hs (by rfl) (by rfl) (by rfl) (by decide) (by rfl) (fun _ => by rfl) (by first | rfl | simp [gdOk, newToks]) ?_
              simp -implicitDefEqProofs only [push_cast, hg, Ac.pv, bneSelf, Int.reduceBEq, Int.reduceBNe, Int.reduceEq, Int.reduceNe, Int.reducePow, Nat.reduceAdd, Nat.reduceMul, Nat.reduceSub, Nat.reduceLT, Nat.reduceLeDiff, Nat.reduceEqDiff, Nat.reduceBEq, Int.reduceLT, Int.reduceLE, Int.reduceAdd, Int.reduceSub, Int.reduceMul, Int.reduceToNat, Int.reduceNeg, reduceIte, reduceCtorEq, reduceBEq]
              (try refine ⟨by (unfold drawOk; kernel_rfl), ?_⟩)
              refine ⟨hlt', ?_⟩
              refine callE_pure hs2 (by rfl) (by rfl) (by rfl) (by decide) (by rfl) (fun _ => by rfl) (by first | rfl | simp [gdOk, newToks]) ?_
              simp -implicitDefEqProofs only [push_cast, hg, Ac.pv, bneSelf, Int.reduceBEq, Int.reduceBNe, Int.reduceEq, Int.reduceNe, Int.reducePow, Nat.reduceAdd, Nat.reduceMul, Nat.reduceSub, Nat.reduceLT, Nat.reduceLeDiff, Nat.reduceEqDiff, Nat.reduceBEq, Int.reduceLT, Int.reduceLE, Int.reduceAdd, Int.reduceSub, Int.reduceMul, Int.reduceToNat, Int.reduceNeg, reduceIte, reduceCtorEq, reduceBEq]
              (try refine ⟨by (unfold drawOk; kernel_rfl), ?_⟩)
              have hqq := quiet_fs e'
              have hrq := zz (args := []) false (fun h => by cases h) (rquiet_fs e' L)
              generalize hqv : (decide (e'.way.length = 0) && !e'.ack) = qv at hqq hrq
              simp only [rpv, rcs, pcs, wz, if_true, if_false, Bool.false_eq_true, reduceIte, En.pv, En.cs] at hqq hrq
              try simp -implicitDefEqProofs only [push_cast, hg, Ac.pv, Int.reduceBEq, Int.reduceBNe, Int.reduceEq, Int.reduceNe, Int.reducePow, Nat.reduceAdd, Nat.reduceMul, Nat.reduceSub, Nat.reduceLT, Nat.reduceLeDiff, Nat.reduceEqDiff, Nat.reduceBEq, Int.reduceLT, Int.reduceLE, Int.reduceAdd, Int.reduceSub, Int.reduceMul, Int.reduceToNat, Int.reduceNeg, reduceIte, reduceCtorEq, reduceBEq]
              (try refine ⟨by (unfold drawOk; kernel_rfl), ?_⟩)
              refine callE_pure hqq (by rfl) (by rfl) (by rfl) (by decide) (by rfl) (fun _ => by rfl) (by first | rfl | simp [gdOk, newToks]) ?_
              simp -implicitDefEqProofs only [push_cast, hg, Ac.pv, Int.reduceBEq, Int.reduceBNe, Int.reduceEq, Int.reduceNe, Int.reducePow, Nat.reduceAdd, Nat.reduceMul, Nat.reduceSub, Nat.reduceLT, Nat.reduceLeDiff, Nat.reduceEqDiff, Nat.reduceBEq, Int.reduceLT, Int.reduceLE, Int.reduceAdd, Int.reduceSub, Int.reduceMul, Int.reduceToNat, Int.reduceNeg, reduceIte, reduceCtorEq, reduceBEq]
              (try refine ⟨by (unfold drawOk; kernel_rfl), ?_⟩)
              refine callE_pure hrq (by rfl) (by rfl) (by rfl) (by decide) (by rfl) (fun _ => by rfl) (by first | rfl | simp [gdOk, newToks]) ?_
              simp -implicitDefEqProofs only [push_cast, hg, Ac.pv, bneSelf, Int.reduceBEq, Int.reduceBNe, Int.reduceEq, Int.reduceNe, Int.reducePow, Nat.reduceAdd, Nat.reduceMul, Nat.reduceSub, Nat.reduceLT, Nat.reduceLeDiff, Nat.reduceEqDiff, Nat.reduceBEq, Int.reduceLT, Int.reduceLE, Int.reduceAdd, Int.reduceSub, Int.reduceMul, Int.reduceToNat, Int.reduceNeg, reduceIte, reduceCtorEq, reduceBEq]
              (try refine ⟨by (unfold drawOk; kernel_rfl), ?_⟩)
              rw [hwr]
              refine ⟨⟨i + 1, by omega, e', L, hJ, false, (fun h => by cases h)⟩, by simp only; omega, ?_⟩
              (simp only [PlS.st, rpv, rcs, pcs, wz, if_true, if_false, Bool.false_eq_true, reduceIte, En.pv, En.cs]; exact Wk.by _ _ _ [(0, 0), (1, 1)] [] [] (by simp) (by simp [wkV, PV.el, PV.weak, PS.get, PS.obj, PS.lv, lkp_hit, lkp_miss, lkp_nil, lko]) (by simp [PS.get, PS.obj, PS.lv, lkp_hit, lkp_miss, lkp_nil, lko, wkL, wkC, PV.weak]) (by simp [PS.get, PS.obj, PS.lv, lkp_hit, lkp_miss, lkp_nil, lko]) (by rfl) (by rfl) (by simp [lko]) (by simp) (by simp) (by simp) (fun i hi => absurd hi (Nat.not_lt_zero i)))
            · try simp -implicitDefEqProofs only [push_cast, hg, Ac.pv, Int.reduceBEq, Int.reduceBNe, Int.reduceEq, Int.reduceNe, Int.reducePow, Nat.reduceAdd, Nat.reduceMul, Nat.reduceSub, Nat.reduceLT, Nat.reduceLeDiff, Nat.reduceEqDiff, Nat.reduceBEq, Int.reduceLT, Int.reduceLE, Int.reduceAdd, Int.reduceSub, Int.reduceMul, Int.reduceToNat, Int.reduceNeg, reduceIte, reduceCtorEq, reduceBEq]
              refine condC_split (fun h4 => ?_) (fun h4 => ?_)
              · have hs := due_fs e (by have := hj.bk.w; omega) (fun p hp => by have := hj.bk.wb p hp; omega)
                have hs2 := zz (args := []) false hz (rdue_fs e L (by have := hj.bk.w; omega) (fun p hp => by have := hj.bk.wb p hp; omega))
                have htx := texts_fs e.dueP e.dueP (dueP_le e (by have := hj.bk.w; omega))
                rw [decide_eq_true rfl] at htx
                have hJ := hj.due.up
                generalize e.dueP = dp at *
                generalize e.due = e' at *
                simp only [rpv, rcs, pcs, wz, if_true, if_false, Bool.false_eq_true, reduceIte, En.pv, En.cs] at hs hs2
                simp -implicitDefEqProofs only [push_cast, hg, Ac.pv, bneSelf, Int.reduceBEq, Int.reduceBNe, Int.reduceEq, Int.reduceNe, Int.reducePow, Nat.reduceAdd, Nat.reduceMul, Nat.reduceSub, Nat.reduceLT, Nat.reduceLeDiff, Nat.reduceEqDiff, Nat.reduceBEq, Int.reduceLT, Int.reduceLE, Int.reduceAdd, Int.reduceSub, Int.reduceMul, Int.reduceToNat, Int.reduceNeg, reduceIte, reduceCtorEq, reduceBEq]
                (try refine ⟨by (unfold drawOk; kernel_rfl), ?_⟩)
                refine callE_pure hs (by rfl) (by rfl) (by rfl) (by decide) (by rfl) (fun _ => by rfl) (by first | rfl | simp [gdOk, newToks]) ?_
                simp -implicitDefEqProofs only [push_cast, hg, Ac.pv, bneSelf, Int.reduceBEq, Int.reduceBNe, Int.reduceEq, Int.reduceNe, Int.reducePow, Nat.reduceAdd, Nat.reduceMul, Nat.reduceSub, Nat.reduceLT, Nat.reduceLeDiff, Nat.reduceEqDiff, Nat.reduceBEq, Int.reduceLT, Int.reduceLE, Int.reduceAdd, Int.reduceSub, Int.reduceMul, Int.reduceToNat, Int.reduceNeg, reduceIte, reduceCtorEq, reduceBEq]
                (try refine ⟨by (unfold drawOk; kernel_rfl), ?_⟩)
                refine callE_pure hs2 (by rfl) (by rfl) (by rfl) (by decide) (by rfl) (fun _ => by rfl) (by first | rfl | simp [gdOk, newToks]) ?_
                simp -implicitDefEqProofs only [push_cast, hg, Ac.pv, bneSelf, Int.reduceBEq, Int.reduceBNe, Int.reduceEq, Int.reduceNe, Int.reducePow, Nat.reduceAdd, Nat.reduceMul, Nat.reduceSub, Nat.reduceLT, Nat.reduceLeDiff, Nat.reduceEqDiff, Nat.reduceBEq, Int.reduceLT, Int.reduceLE, Int.reduceAdd, Int.reduceSub, Int.reduceMul, Int.reduceToNat, Int.reduceNeg, reduceIte, reduceCtorEq, reduceBEq]
                (try refine ⟨by (unfold drawOk; kernel_rfl), ?_⟩)
                refine callE_pure htx (by rfl) (by rfl) (by rfl) (by decide) (by rfl) (fun _ => by rfl) (by first | rfl | simp [gdOk, newToks]) ?_
                simp -implicitDefEqProofs only [push_cast, hg, Ac.pv, bneSelf, Int.reduceBEq, Int.reduceBNe, Int.reduceEq, Int.reduceNe, Int.reducePow, Nat.reduceAdd, Nat.reduceMul, Nat.reduceSub, Nat.reduceLT, Nat.reduceLeDiff, Nat.reduceEqDiff, Nat.reduceBEq, Int.reduceLT, Int.reduceLE, Int.reduceAdd, Int.reduceSub, Int.reduceMul, Int.reduceToNat, Int.reduceNeg, reduceIte, reduceCtorEq, reduceBEq]
                (try refine ⟨by (unfold drawOk; kernel_rfl), ?_⟩)
                have hqq := quiet_fs e'
                have hrq := zz (args := []) false (fun h => by cases h) (rquiet_fs e' L)
                generalize hqv : (decide (e'.way.length = 0) && !e'.ack) = qv at hqq hrq
                simp only [rpv, rcs, pcs, wz, if_true, if_false, Bool.false_eq_true, reduceIte, En.pv, En.cs] at hqq hrq
                try simp -implicitDefEqProofs only [push_cast, hg, Ac.pv, Int.reduceBEq, Int.reduceBNe, Int.reduceEq, Int.reduceNe, Int.reducePow, Nat.reduceAdd, Nat.reduceMul, Nat.reduceSub, Nat.reduceLT, Nat.reduceLeDiff, Nat.reduceEqDiff, Nat.reduceBEq, Int.reduceLT, Int.reduceLE, Int.reduceAdd, Int.reduceSub, Int.reduceMul, Int.reduceToNat, Int.reduceNeg, reduceIte, reduceCtorEq, reduceBEq]
                (try refine ⟨by (unfold drawOk; kernel_rfl), ?_⟩)
                refine callE_pure hqq (by rfl) (by rfl) (by rfl) (by decide) (by rfl) (fun _ => by rfl) (by first | rfl | simp [gdOk, newToks]) ?_
                simp -implicitDefEqProofs only [push_cast, hg, Ac.pv, Int.reduceBEq, Int.reduceBNe, Int.reduceEq, Int.reduceNe, Int.reducePow, Nat.reduceAdd, Nat.reduceMul, Nat.reduceSub, Nat.reduceLT, Nat.reduceLeDiff, Nat.reduceEqDiff, Nat.reduceBEq, Int.reduceLT, Int.reduceLE, Int.reduceAdd, Int.reduceSub, Int.reduceMul, Int.reduceToNat, Int.reduceNeg, reduceIte, reduceCtorEq, reduceBEq]
                (try refine ⟨by (unfold drawOk; kernel_rfl), ?_⟩)
                refine callE_pure hrq (by rfl) (by rfl) (by rfl) (by decide) (by rfl) (fun _ => by rfl) (by first | rfl | simp [gdOk, newToks]) ?_
                simp -implicitDefEqProofs only [push_cast, hg, Ac.pv, bneSelf, Int.reduceBEq, Int.reduceBNe, Int.reduceEq, Int.reduceNe, Int.reducePow, Nat.reduceAdd, Nat.reduceMul, Nat.reduceSub, Nat.reduceLT, Nat.reduceLeDiff, Nat.reduceEqDiff, Nat.reduceBEq, Int.reduceLT, Int.reduceLE, Int.reduceAdd, Int.reduceSub, Int.reduceMul, Int.reduceToNat, Int.reduceNeg, reduceIte, reduceCtorEq, reduceBEq]
                (try refine ⟨by (unfold drawOk; kernel_rfl), ?_⟩)
                rw [hwr]
                refine ⟨⟨i + 1, by omega, e', L, hJ, false, (fun h => by cases h)⟩, by simp only; omega, ?_⟩
                (simp only [PlS.st, rpv, rcs, pcs, wz, if_true, if_false, Bool.false_eq_true, reduceIte, En.pv, En.cs]; exact Wk.by _ _ _ [(0, 0), (1, 1)] [] [] (by simp) (by simp [wkV, PV.el, PV.weak, PS.get, PS.obj, PS.lv, lkp_hit, lkp_miss, lkp_nil, lko]) (by simp [PS.get, PS.obj, PS.lv, lkp_hit, lkp_miss, lkp_nil, lko, wkL, wkC, PV.weak]) (by simp [PS.get, PS.obj, PS.lv, lkp_hit, lkp_miss, lkp_nil, lko]) (by rfl) (by rfl) (by simp [lko]) (by simp) (by simp) (by simp) (fun i hi => absurd hi (Nat.not_lt_zero i)))
              · try simp -implicitDefEqProofs only [push_cast, hg, Ac.pv, Int.reduceBEq, Int.reduceBNe, Int.reduceEq, Int.reduceNe, Int.reducePow, Nat.reduceAdd, Nat.reduceMul, Nat.reduceSub, Nat.reduceLT, Nat.reduceLeDiff, Nat.reduceEqDiff, Nat.reduceBEq, Int.reduceLT, Int.reduceLE, Int.reduceAdd, Int.reduceSub, Int.reduceMul, Int.reduceToNat, Int.reduceNeg, reduceIte, reduceCtorEq, reduceBEq]
                refine condC_split (fun h5 => ?_) (fun h5 => ?_)
                · obtain ⟨e', L', c, hR, hR2, hJ⟩ := hj.gotc hqs
                  have hs := got_fs e q.b (hj.bk.ok (by omega)) (by omega)
                  have hs2 := zz false hz (rgot_fs e L q.b (hj.bk.ok (by omega)) (by omega) (by have := hj.ll; omega) (by have := hj.ls; omega))
                  rw [hR] at hs
                  rw [hR2] at hs2
                  simp only [rpv, rcs, pcs, wz, if_true, if_false, Bool.false_eq_true, reduceIte, En.pv, En.cs] at hs hs2
                  simp -implicitDefEqProofs only [push_cast, hg, Ac.pv, bneSelf, Int.reduceBEq, Int.reduceBNe, Int.reduceEq, Int.reduceNe, Int.reducePow, Nat.reduceAdd, Nat.reduceMul, Nat.reduceSub, Nat.reduceLT, Nat.reduceLeDiff, Nat.reduceEqDiff, Nat.reduceBEq, Int.reduceLT, Int.reduceLE, Int.reduceAdd, Int.reduceSub, Int.reduceMul, Int.reduceToNat, Int.reduceNeg, reduceIte, reduceCtorEq, reduceBEq]
                  (try refine ⟨by (unfold drawOk; kernel_rfl), ?_⟩)
                  refine ⟨hlt', ?_⟩
                  refine callE_pure hs (by rfl) (by rfl) (by rfl) (by decide) (by rfl) (fun _ => by rfl) (by first | rfl | simp [gdOk, newToks]) ?_
                  simp -implicitDefEqProofs only [push_cast, hg, Ac.pv, bneSelf, Int.reduceBEq, Int.reduceBNe, Int.reduceEq, Int.reduceNe, Int.reducePow, Nat.reduceAdd, Nat.reduceMul, Nat.reduceSub, Nat.reduceLT, Nat.reduceLeDiff, Nat.reduceEqDiff, Nat.reduceBEq, Int.reduceLT, Int.reduceLE, Int.reduceAdd, Int.reduceSub, Int.reduceMul, Int.reduceToNat, Int.reduceNeg, reduceIte, reduceCtorEq, reduceBEq]
                  (try refine ⟨by (unfold drawOk; kernel_rfl), ?_⟩)
                  refine ⟨hlt', ?_⟩
                  refine callE_pure hs2 (by rfl) (by rfl) (by rfl) (by decide) (by rfl) (fun _ => by rfl) (by first | rfl | simp [gdOk, newToks]) ?_
                  simp -implicitDefEqProofs only [push_cast, hg, Ac.pv, bneSelf, Int.reduceBEq, Int.reduceBNe, Int.reduceEq, Int.reduceNe, Int.reducePow, Nat.reduceAdd, Nat.reduceMul, Nat.reduceSub, Nat.reduceLT, Nat.reduceLeDiff, Nat.reduceEqDiff, Nat.reduceBEq, Int.reduceLT, Int.reduceLE, Int.reduceAdd, Int.reduceSub, Int.reduceMul, Int.reduceToNat, Int.reduceNeg, reduceIte, reduceCtorEq, reduceBEq]
                  (try refine ⟨by (unfold drawOk; kernel_rfl), ?_⟩)
                  have hqq := quiet_fs e'
                  have hrq := zz (args := []) false (fun h => by cases h) (rquiet_fs e' L')
                  generalize hqv : (decide (e'.way.length = 0) && !e'.ack) = qv at hqq hrq
                  simp only [rpv, rcs, pcs, wz, if_true, if_false, Bool.false_eq_true, reduceIte, En.pv, En.cs] at hqq hrq
                  try simp -implicitDefEqProofs only [push_cast, hg, Ac.pv, Int.reduceBEq, Int.reduceBNe, Int.reduceEq, Int.reduceNe, Int.reducePow, Nat.reduceAdd, Nat.reduceMul, Nat.reduceSub, Nat.reduceLT, Nat.reduceLeDiff, Nat.reduceEqDiff, Nat.reduceBEq, Int.reduceLT, Int.reduceLE, Int.reduceAdd, Int.reduceSub, Int.reduceMul, Int.reduceToNat, Int.reduceNeg, reduceIte, reduceCtorEq, reduceBEq]
                  (try refine ⟨by (unfold drawOk; kernel_rfl), ?_⟩)
                  refine callE_pure hqq (by rfl) (by rfl) (by rfl) (by decide) (by rfl) (fun _ => by rfl) (by first | rfl | simp [gdOk, newToks]) ?_
                  simp -implicitDefEqProofs only [push_cast, hg, Ac.pv, Int.reduceBEq, Int.reduceBNe, Int.reduceEq, Int.reduceNe, Int.reducePow, Nat.reduceAdd, Nat.reduceMul, Nat.reduceSub, Nat.reduceLT, Nat.reduceLeDiff, Nat.reduceEqDiff, Nat.reduceBEq, Int.reduceLT, Int.reduceLE, Int.reduceAdd, Int.reduceSub, Int.reduceMul, Int.reduceToNat, Int.reduceNeg, reduceIte, reduceCtorEq, reduceBEq]
                  (try refine ⟨by (unfold drawOk; kernel_rfl), ?_⟩)
                  refine callE_pure hrq (by rfl) (by rfl) (by rfl) (by decide) (by rfl) (fun _ => by rfl) (by first | rfl | simp [gdOk, newToks]) ?_
                  simp -implicitDefEqProofs only [push_cast, hg, Ac.pv, bneSelf, Int.reduceBEq, Int.reduceBNe, Int.reduceEq, Int.reduceNe, Int.reducePow, Nat.reduceAdd, Nat.reduceMul, Nat.reduceSub, Nat.reduceLT, Nat.reduceLeDiff, Nat.reduceEqDiff, Nat.reduceBEq, Int.reduceLT, Int.reduceLE, Int.reduceAdd, Int.reduceSub, Int.reduceMul, Int.reduceToNat, Int.reduceNeg, reduceIte, reduceCtorEq, reduceBEq]
                  (try refine ⟨by (unfold drawOk; kernel_rfl), ?_⟩)
                  rw [hwr]
                  refine ⟨⟨i + 1, by omega, e', L', hJ, false, (fun h => by cases h)⟩, by simp only; omega, ?_⟩
                  (simp only [PlS.st, rpv, rcs, pcs, wz, if_true, if_false, Bool.false_eq_true, reduceIte, En.pv, En.cs]; exact Wk.by _ _ _ [(0, 0), (1, 1)] [] [] (by simp) (by simp [wkV, PV.el, PV.weak, PS.get, PS.obj, PS.lv, lkp_hit, lkp_miss, lkp_nil, lko]) (by simp [PS.get, PS.obj, PS.lv, lkp_hit, lkp_miss, lkp_nil, lko, wkL, wkC, PV.weak]) (by simp [PS.get, PS.obj, PS.lv, lkp_hit, lkp_miss, lkp_nil, lko]) (by rfl) (by rfl) (by simp [lko]) (by simp) (by simp) (by simp) (fun i hi => absurd hi (Nat.not_lt_zero i)))
                · try simp -implicitDefEqProofs only [push_cast, hg, Ac.pv, Int.reduceBEq, Int.reduceBNe, Int.reduceEq, Int.reduceNe, Int.reducePow, Nat.reduceAdd, Nat.reduceMul, Nat.reduceSub, Nat.reduceLT, Nat.reduceLeDiff, Nat.reduceEqDiff, Nat.reduceBEq, Int.reduceLT, Int.reduceLE, Int.reduceAdd, Int.reduceSub, Int.reduceMul, Int.reduceToNat, Int.reduceNeg, reduceIte, reduceCtorEq, reduceBEq]
                  refine condC_split (fun h6 => ?_) (fun h6 => ?_)
                  · have hs := read_fs e
                    have hJ := hj.clear.up
                    obtain ⟨e', he'⟩ : ∃ e' : En, e' = { e with read := [] } := ⟨_, rfl⟩
                    have hmc : e'.most = e.most ∧ e'.rest = e.rest ∧ e'.way = e.way ∧ e'.next = e.next ∧ e'.exp = e.exp ∧ e'.ack = e.ack ∧ e'.read = [] ∧ e'.aside = e.aside := by subst he'; exact ⟨rfl, rfl, rfl, rfl, rfl, rfl, rfl, rfl⟩
                    obtain ⟨m1, m2, m3, m4, m5, m6, m7, m8⟩ := hmc
                    rw [← he'] at hJ
                    rw [← he'] at hs
                    simp only [rpv, rcs, pcs, wz, if_true, if_false, Bool.false_eq_true, reduceIte, En.pv, En.cs, m1, m2, m3, m4, m5, m6, m7, m8] at hs
                    simp -implicitDefEqProofs only [push_cast, hg, Ac.pv, bneSelf, Int.reduceBEq, Int.reduceBNe, Int.reduceEq, Int.reduceNe, Int.reducePow, Nat.reduceAdd, Nat.reduceMul, Nat.reduceSub, Nat.reduceLT, Nat.reduceLeDiff, Nat.reduceEqDiff, Nat.reduceBEq, Int.reduceLT, Int.reduceLE, Int.reduceAdd, Int.reduceSub, Int.reduceMul, Int.reduceToNat, Int.reduceNeg, reduceIte, reduceCtorEq, reduceBEq]
                    (try refine ⟨by (unfold drawOk; kernel_rfl), ?_⟩)
                    refine callE_pure hs (by rfl) (by rfl) (by rfl) (by decide) (by rfl) (fun _ => by rfl) (by first | rfl | simp [gdOk, newToks]) ?_
                    simp -implicitDefEqProofs only [push_cast, hg, Ac.pv, bneSelf, Int.reduceBEq, Int.reduceBNe, Int.reduceEq, Int.reduceNe, Int.reducePow, Nat.reduceAdd, Nat.reduceMul, Nat.reduceSub, Nat.reduceLT, Nat.reduceLeDiff, Nat.reduceEqDiff, Nat.reduceBEq, Int.reduceLT, Int.reduceLE, Int.reduceAdd, Int.reduceSub, Int.reduceMul, Int.reduceToNat, Int.reduceNeg, reduceIte, reduceCtorEq, reduceBEq]
                    (try refine ⟨by (unfold drawOk; kernel_rfl), ?_⟩)
                    have hqq := quiet_fs e'
                    have hrq := zz (args := []) false (fun h => by cases h) (rquiet_fs e' L)
                    generalize hqv : (decide (e'.way.length = 0) && !e'.ack) = qv at hqq hrq
                    simp only [rpv, rcs, pcs, wz, if_true, if_false, Bool.false_eq_true, reduceIte, En.pv, En.cs, m1, m2, m3, m4, m5, m6, m7, m8] at hqq hrq
                    try simp -implicitDefEqProofs only [push_cast, hg, Ac.pv, Int.reduceBEq, Int.reduceBNe, Int.reduceEq, Int.reduceNe, Int.reducePow, Nat.reduceAdd, Nat.reduceMul, Nat.reduceSub, Nat.reduceLT, Nat.reduceLeDiff, Nat.reduceEqDiff, Nat.reduceBEq, Int.reduceLT, Int.reduceLE, Int.reduceAdd, Int.reduceSub, Int.reduceMul, Int.reduceToNat, Int.reduceNeg, reduceIte, reduceCtorEq, reduceBEq]
                    (try refine ⟨by (unfold drawOk; kernel_rfl), ?_⟩)
                    refine callE_pure hqq (by rfl) (by rfl) (by rfl) (by decide) (by rfl) (fun _ => by rfl) (by first | rfl | simp [gdOk, newToks]) ?_
                    simp -implicitDefEqProofs only [push_cast, hg, Ac.pv, Int.reduceBEq, Int.reduceBNe, Int.reduceEq, Int.reduceNe, Int.reducePow, Nat.reduceAdd, Nat.reduceMul, Nat.reduceSub, Nat.reduceLT, Nat.reduceLeDiff, Nat.reduceEqDiff, Nat.reduceBEq, Int.reduceLT, Int.reduceLE, Int.reduceAdd, Int.reduceSub, Int.reduceMul, Int.reduceToNat, Int.reduceNeg, reduceIte, reduceCtorEq, reduceBEq]
                    (try refine ⟨by (unfold drawOk; kernel_rfl), ?_⟩)
                    refine callE_pure hrq (by rfl) (by rfl) (by rfl) (by decide) (by rfl) (fun _ => by rfl) (by first | rfl | simp [gdOk, newToks]) ?_
                    simp -implicitDefEqProofs only [push_cast, hg, Ac.pv, bneSelf, Int.reduceBEq, Int.reduceBNe, Int.reduceEq, Int.reduceNe, Int.reducePow, Nat.reduceAdd, Nat.reduceMul, Nat.reduceSub, Nat.reduceLT, Nat.reduceLeDiff, Nat.reduceEqDiff, Nat.reduceBEq, Int.reduceLT, Int.reduceLE, Int.reduceAdd, Int.reduceSub, Int.reduceMul, Int.reduceToNat, Int.reduceNeg, reduceIte, reduceCtorEq, reduceBEq]
                    (try refine ⟨by (unfold drawOk; kernel_rfl), ?_⟩)
                    rw [hwr]
                    refine ⟨⟨i + 1, by omega, e', L, hJ, false, (fun h => by cases h)⟩, by simp only; omega, ?_⟩
                    (simp only [PlS.st, rpv, rcs, pcs, wz, if_true, if_false, Bool.false_eq_true, reduceIte, En.pv, En.cs]; exact Wk.by _ _ _ [(0, 0), (1, 1)] [] [] (by simp) (by simp [wkV, PV.el, PV.weak, PS.get, PS.obj, PS.lv, lkp_hit, lkp_miss, lkp_nil, lko, m1, m2, m3, m4, m5, m6, m7, m8]) (by simp [PS.get, PS.obj, PS.lv, lkp_hit, lkp_miss, lkp_nil, lko, wkL, wkC, PV.weak, m1, m2, m3, m4, m5, m6, m7, m8]) (by simp [PS.get, PS.obj, PS.lv, lkp_hit, lkp_miss, lkp_nil, lko]) (by rfl) (by rfl) (by simp [lko]) (by simp) (by simp) (by simp) (fun i hi => absurd hi (Nat.not_lt_zero i)))
                  · try simp -implicitDefEqProofs only [push_cast, hg, Ac.pv, Int.reduceBEq, Int.reduceBNe, Int.reduceEq, Int.reduceNe, Int.reducePow, Nat.reduceAdd, Nat.reduceMul, Nat.reduceSub, Nat.reduceLT, Nat.reduceLeDiff, Nat.reduceEqDiff, Nat.reduceBEq, Int.reduceLT, Int.reduceLE, Int.reduceAdd, Int.reduceSub, Int.reduceMul, Int.reduceToNat, Int.reduceNeg, reduceIte, reduceCtorEq, reduceBEq]
                    refine condC_split (fun h7 => ?_) (fun h7 => ?_)
                    · have hs := tick_fs e (by have := hj.bk.w; omega)
                      have hs2 := zz (args := []) false hz (rtick_fs e L (by have := hj.bk.w; omega))
                      have hJ := hj.tick.up
                      generalize e.tick = e' at *
                      simp only [rpv, rcs, pcs, wz, if_true, if_false, Bool.false_eq_true, reduceIte, En.pv, En.cs] at hs hs2
                      simp -implicitDefEqProofs only [push_cast, hg, Ac.pv, bneSelf, Int.reduceBEq, Int.reduceBNe, Int.reduceEq, Int.reduceNe, Int.reducePow, Nat.reduceAdd, Nat.reduceMul, Nat.reduceSub, Nat.reduceLT, Nat.reduceLeDiff, Nat.reduceEqDiff, Nat.reduceBEq, Int.reduceLT, Int.reduceLE, Int.reduceAdd, Int.reduceSub, Int.reduceMul, Int.reduceToNat, Int.reduceNeg, reduceIte, reduceCtorEq, reduceBEq]
                      (try refine ⟨by (unfold drawOk; kernel_rfl), ?_⟩)
                      refine callE_pure hs (by rfl) (by rfl) (by rfl) (by decide) (by rfl) (fun _ => by rfl) (by first | rfl | simp [gdOk, newToks]) ?_
                      simp -implicitDefEqProofs only [push_cast, hg, Ac.pv, bneSelf, Int.reduceBEq, Int.reduceBNe, Int.reduceEq, Int.reduceNe, Int.reducePow, Nat.reduceAdd, Nat.reduceMul, Nat.reduceSub, Nat.reduceLT, Nat.reduceLeDiff, Nat.reduceEqDiff, Nat.reduceBEq, Int.reduceLT, Int.reduceLE, Int.reduceAdd, Int.reduceSub, Int.reduceMul, Int.reduceToNat, Int.reduceNeg, reduceIte, reduceCtorEq, reduceBEq]
                      (try refine ⟨by (unfold drawOk; kernel_rfl), ?_⟩)
                      refine callE_pure hs2 (by rfl) (by rfl) (by rfl) (by decide) (by rfl) (fun _ => by rfl) (by first | rfl | simp [gdOk, newToks]) ?_
                      simp -implicitDefEqProofs only [push_cast, hg, Ac.pv, bneSelf, Int.reduceBEq, Int.reduceBNe, Int.reduceEq, Int.reduceNe, Int.reducePow, Nat.reduceAdd, Nat.reduceMul, Nat.reduceSub, Nat.reduceLT, Nat.reduceLeDiff, Nat.reduceEqDiff, Nat.reduceBEq, Int.reduceLT, Int.reduceLE, Int.reduceAdd, Int.reduceSub, Int.reduceMul, Int.reduceToNat, Int.reduceNeg, reduceIte, reduceCtorEq, reduceBEq]
                      (try refine ⟨by (unfold drawOk; kernel_rfl), ?_⟩)
                      have hqq := quiet_fs e'
                      have hrq := zz (args := []) false (fun h => by cases h) (rquiet_fs e' L)
                      generalize hqv : (decide (e'.way.length = 0) && !e'.ack) = qv at hqq hrq
                      simp only [rpv, rcs, pcs, wz, if_true, if_false, Bool.false_eq_true, reduceIte, En.pv, En.cs] at hqq hrq
                      try simp -implicitDefEqProofs only [push_cast, hg, Ac.pv, Int.reduceBEq, Int.reduceBNe, Int.reduceEq, Int.reduceNe, Int.reducePow, Nat.reduceAdd, Nat.reduceMul, Nat.reduceSub, Nat.reduceLT, Nat.reduceLeDiff, Nat.reduceEqDiff, Nat.reduceBEq, Int.reduceLT, Int.reduceLE, Int.reduceAdd, Int.reduceSub, Int.reduceMul, Int.reduceToNat, Int.reduceNeg, reduceIte, reduceCtorEq, reduceBEq]
                      (try refine ⟨by (unfold drawOk; kernel_rfl), ?_⟩)
                      refine callE_pure hqq (by rfl) (by rfl) (by rfl) (by decide) (by rfl) (fun _ => by rfl) (by first | rfl | simp [gdOk, newToks]) ?_
                      simp -implicitDefEqProofs only [push_cast, hg, Ac.pv, Int.reduceBEq, Int.reduceBNe, Int.reduceEq, Int.reduceNe, Int.reducePow, Nat.reduceAdd, Nat.reduceMul, Nat.reduceSub, Nat.reduceLT, Nat.reduceLeDiff, Nat.reduceEqDiff, Nat.reduceBEq, Int.reduceLT, Int.reduceLE, Int.reduceAdd, Int.reduceSub, Int.reduceMul, Int.reduceToNat, Int.reduceNeg, reduceIte, reduceCtorEq, reduceBEq]
                      (try refine ⟨by (unfold drawOk; kernel_rfl), ?_⟩)
                      refine callE_pure hrq (by rfl) (by rfl) (by rfl) (by decide) (by rfl) (fun _ => by rfl) (by first | rfl | simp [gdOk, newToks]) ?_
                      simp -implicitDefEqProofs only [push_cast, hg, Ac.pv, bneSelf, Int.reduceBEq, Int.reduceBNe, Int.reduceEq, Int.reduceNe, Int.reducePow, Nat.reduceAdd, Nat.reduceMul, Nat.reduceSub, Nat.reduceLT, Nat.reduceLeDiff, Nat.reduceEqDiff, Nat.reduceBEq, Int.reduceLT, Int.reduceLE, Int.reduceAdd, Int.reduceSub, Int.reduceMul, Int.reduceToNat, Int.reduceNeg, reduceIte, reduceCtorEq, reduceBEq]
                      (try refine ⟨by (unfold drawOk; kernel_rfl), ?_⟩)
                      rw [hwr]
                      refine ⟨⟨i + 1, by omega, e', L, hJ, false, (fun h => by cases h)⟩, by simp only; omega, ?_⟩
                      (simp only [PlS.st, rpv, rcs, pcs, wz, if_true, if_false, Bool.false_eq_true, reduceIte, En.pv, En.cs]; exact Wk.by _ _ _ [(0, 0), (1, 1)] [] [] (by simp) (by simp [wkV, PV.el, PV.weak, PS.get, PS.obj, PS.lv, lkp_hit, lkp_miss, lkp_nil, lko]) (by simp [PS.get, PS.obj, PS.lv, lkp_hit, lkp_miss, lkp_nil, lko, wkL, wkC, PV.weak]) (by simp [PS.get, PS.obj, PS.lv, lkp_hit, lkp_miss, lkp_nil, lko]) (by rfl) (by rfl) (by simp [lko]) (by simp) (by simp) (by simp) (fun i hi => absurd hi (Nat.not_lt_zero i)))
                    · try simp -implicitDefEqProofs only [push_cast, hg, Ac.pv, Int.reduceBEq, Int.reduceBNe, Int.reduceEq, Int.reduceNe, Int.reducePow, Nat.reduceAdd, Nat.reduceMul, Nat.reduceSub, Nat.reduceLT, Nat.reduceLeDiff, Nat.reduceEqDiff, Nat.reduceBEq, Int.reduceLT, Int.reduceLE, Int.reduceAdd, Int.reduceSub, Int.reduceMul, Int.reduceToNat, Int.reduceNeg, reduceIte, reduceCtorEq, reduceBEq]
                      refine condC_split (fun h8 => ?_) (fun h8 => ?_)
                      · have hs := cut_fs e (by have := hj.bk.w; omega)
                        have hs2 := zz (args := []) false hz (rcut_fs e L (by have := hj.bk.w; omega))
                        obtain ⟨hJ, hcu⟩ := hj.cut
                        replace hJ := hJ.up
                        rw [hcu] at hs2
                        generalize e.cut = e' at *
                        simp only [rpv, rcs, pcs, wz, if_true, if_false, Bool.false_eq_true, reduceIte, En.pv, En.cs] at hs hs2
                        simp -implicitDefEqProofs only [push_cast, hg, Ac.pv, bneSelf, Int.reduceBEq, Int.reduceBNe, Int.reduceEq, Int.reduceNe, Int.reducePow, Nat.reduceAdd, Nat.reduceMul, Nat.reduceSub, Nat.reduceLT, Nat.reduceLeDiff, Nat.reduceEqDiff, Nat.reduceBEq, Int.reduceLT, Int.reduceLE, Int.reduceAdd, Int.reduceSub, Int.reduceMul, Int.reduceToNat, Int.reduceNeg, reduceIte, reduceCtorEq, reduceBEq]
                        (try refine ⟨by (unfold drawOk; kernel_rfl), ?_⟩)
                        refine callE_pure hs (by rfl) (by rfl) (by rfl) (by decide) (by rfl) (fun _ => by rfl) (by first | rfl | simp [gdOk, newToks]) ?_
                        simp -implicitDefEqProofs only [push_cast, hg, Ac.pv, bneSelf, Int.reduceBEq, Int.reduceBNe, Int.reduceEq, Int.reduceNe, Int.reducePow, Nat.reduceAdd, Nat.reduceMul, Nat.reduceSub, Nat.reduceLT, Nat.reduceLeDiff, Nat.reduceEqDiff, Nat.reduceBEq, Int.reduceLT, Int.reduceLE, Int.reduceAdd, Int.reduceSub, Int.reduceMul, Int.reduceToNat, Int.reduceNeg, reduceIte, reduceCtorEq, reduceBEq]
                        (try refine ⟨by (unfold drawOk; kernel_rfl), ?_⟩)
                        refine callE_pure hs2 (by rfl) (by rfl) (by rfl) (by decide) (by rfl) (fun _ => by rfl) (by first | rfl | simp [gdOk, newToks]) ?_
                        simp -implicitDefEqProofs only [push_cast, hg, Ac.pv, bneSelf, Int.reduceBEq, Int.reduceBNe, Int.reduceEq, Int.reduceNe, Int.reducePow, Nat.reduceAdd, Nat.reduceMul, Nat.reduceSub, Nat.reduceLT, Nat.reduceLeDiff, Nat.reduceEqDiff, Nat.reduceBEq, Int.reduceLT, Int.reduceLE, Int.reduceAdd, Int.reduceSub, Int.reduceMul, Int.reduceToNat, Int.reduceNeg, reduceIte, reduceCtorEq, reduceBEq]
                        (try refine ⟨by (unfold drawOk; kernel_rfl), ?_⟩)
                        have hqq := quiet_fs e'
                        have hrq := zz (args := []) false (fun h => by cases h) (rquiet_fs e' L)
                        generalize hqv : (decide (e'.way.length = 0) && !e'.ack) = qv at hqq hrq
                        simp only [rpv, rcs, pcs, wz, if_true, if_false, Bool.false_eq_true, reduceIte, En.pv, En.cs] at hqq hrq
                        try simp -implicitDefEqProofs only [push_cast, hg, Ac.pv, Int.reduceBEq, Int.reduceBNe, Int.reduceEq, Int.reduceNe, Int.reducePow, Nat.reduceAdd, Nat.reduceMul, Nat.reduceSub, Nat.reduceLT, Nat.reduceLeDiff, Nat.reduceEqDiff, Nat.reduceBEq, Int.reduceLT, Int.reduceLE, Int.reduceAdd, Int.reduceSub, Int.reduceMul, Int.reduceToNat, Int.reduceNeg, reduceIte, reduceCtorEq, reduceBEq]
                        (try refine ⟨by (unfold drawOk; kernel_rfl), ?_⟩)
                        refine callE_pure hqq (by rfl) (by rfl) (by rfl) (by decide) (by rfl) (fun _ => by rfl) (by first | rfl | simp [gdOk, newToks]) ?_
                        simp -implicitDefEqProofs only [push_cast, hg, Ac.pv, Int.reduceBEq, Int.reduceBNe, Int.reduceEq, Int.reduceNe, Int.reducePow, Nat.reduceAdd, Nat.reduceMul, Nat.reduceSub, Nat.reduceLT, Nat.reduceLeDiff, Nat.reduceEqDiff, Nat.reduceBEq, Int.reduceLT, Int.reduceLE, Int.reduceAdd, Int.reduceSub, Int.reduceMul, Int.reduceToNat, Int.reduceNeg, reduceIte, reduceCtorEq, reduceBEq]
                        (try refine ⟨by (unfold drawOk; kernel_rfl), ?_⟩)
                        refine callE_pure hrq (by rfl) (by rfl) (by rfl) (by decide) (by rfl) (fun _ => by rfl) (by first | rfl | simp [gdOk, newToks]) ?_
                        simp -implicitDefEqProofs only [push_cast, hg, Ac.pv, bneSelf, Int.reduceBEq, Int.reduceBNe, Int.reduceEq, Int.reduceNe, Int.reducePow, Nat.reduceAdd, Nat.reduceMul, Nat.reduceSub, Nat.reduceLT, Nat.reduceLeDiff, Nat.reduceEqDiff, Nat.reduceBEq, Int.reduceLT, Int.reduceLE, Int.reduceAdd, Int.reduceSub, Int.reduceMul, Int.reduceToNat, Int.reduceNeg, reduceIte, reduceCtorEq, reduceBEq]
                        (try refine ⟨by (unfold drawOk; kernel_rfl), ?_⟩)
                        rw [hwr]
                        refine ⟨⟨i + 1, by omega, e', L, hJ, false, (fun h => by cases h)⟩, by simp only; omega, ?_⟩
                        (simp only [PlS.st, rpv, rcs, pcs, wz, if_true, if_false, Bool.false_eq_true, reduceIte, En.pv, En.cs]; exact Wk.by _ _ _ [(0, 0), (1, 1)] [] [] (by simp) (by simp [wkV, PV.el, PV.weak, PS.get, PS.obj, PS.lv, lkp_hit, lkp_miss, lkp_nil, lko]) (by simp [PS.get, PS.obj, PS.lv, lkp_hit, lkp_miss, lkp_nil, lko, wkL, wkC, PV.weak]) (by simp [PS.get, PS.obj, PS.lv, lkp_hit, lkp_miss, lkp_nil, lko]) (by rfl) (by rfl) (by simp [lko]) (by simp) (by simp) (by simp) (fun i hi => absurd hi (Nat.not_lt_zero i)))
                      · have hJ := hj.up
                        have hqq := quiet_fs e
                        have hrq := zz (args := []) false (fun h => by cases h) (rquiet_fs e L)
                        generalize hqv : (decide (e.way.length = 0) && !e.ack) = qv at hqq hrq
                        simp only [rpv, rcs, pcs, wz, if_true, if_false, Bool.false_eq_true, reduceIte, En.pv, En.cs] at hqq hrq
                        try simp -implicitDefEqProofs only [push_cast, hg, Ac.pv, Int.reduceBEq, Int.reduceBNe, Int.reduceEq, Int.reduceNe, Int.reducePow, Nat.reduceAdd, Nat.reduceMul, Nat.reduceSub, Nat.reduceLT, Nat.reduceLeDiff, Nat.reduceEqDiff, Nat.reduceBEq, Int.reduceLT, Int.reduceLE, Int.reduceAdd, Int.reduceSub, Int.reduceMul, Int.reduceToNat, Int.reduceNeg, reduceIte, reduceCtorEq, reduceBEq]
                        (try refine ⟨by (unfold drawOk; kernel_rfl), ?_⟩)
                        refine callE_pure hqq (by rfl) (by rfl) (by rfl) (by decide) (by rfl) (fun _ => by rfl) (by first | rfl | simp [gdOk, newToks]) ?_
                        simp -implicitDefEqProofs only [push_cast, hg, Ac.pv, Int.reduceBEq, Int.reduceBNe, Int.reduceEq, Int.reduceNe, Int.reducePow, Nat.reduceAdd, Nat.reduceMul, Nat.reduceSub, Nat.reduceLT, Nat.reduceLeDiff, Nat.reduceEqDiff, Nat.reduceBEq, Int.reduceLT, Int.reduceLE, Int.reduceAdd, Int.reduceSub, Int.reduceMul, Int.reduceToNat, Int.reduceNeg, reduceIte, reduceCtorEq, reduceBEq]
                        (try refine ⟨by (unfold drawOk; kernel_rfl), ?_⟩)
                        refine callE_pure hrq (by rfl) (by rfl) (by rfl) (by decide) (by rfl) (fun _ => by rfl) (by first | rfl | simp [gdOk, newToks]) ?_
                        simp -implicitDefEqProofs only [push_cast, hg, Ac.pv, bneSelf, Int.reduceBEq, Int.reduceBNe, Int.reduceEq, Int.reduceNe, Int.reducePow, Nat.reduceAdd, Nat.reduceMul, Nat.reduceSub, Nat.reduceLT, Nat.reduceLeDiff, Nat.reduceEqDiff, Nat.reduceBEq, Int.reduceLT, Int.reduceLE, Int.reduceAdd, Int.reduceSub, Int.reduceMul, Int.reduceToNat, Int.reduceNeg, reduceIte, reduceCtorEq, reduceBEq]
                        (try refine ⟨by (unfold drawOk; kernel_rfl), ?_⟩)
                        rw [hwr]
                        refine ⟨⟨i + 1, by omega, e, L, hJ, false, (fun h => by cases h)⟩, by simp only; omega, ?_⟩
                        (simp only [PlS.st, rpv, rcs, pcs, wz, if_true, if_false, Bool.false_eq_true, reduceIte, En.pv, En.cs]; exact Wk.by _ _ _ [(0, 0), (1, 1)] [] [] (by simp) (by simp [wkV, PV.el, PV.weak, PS.get, PS.obj, PS.lv, lkp_hit, lkp_miss, lkp_nil, lko]) (by simp [PS.get, PS.obj, PS.lv, lkp_hit, lkp_miss, lkp_nil, lko, wkL, wkC, PV.weak]) (by simp [PS.get, PS.obj, PS.lv, lkp_hit, lkp_miss, lkp_nil, lko]) (by rfl) (by rfl) (by simp [lko]) (by simp) (by simp) (by simp) (fun i hi => absurd hi (Nat.not_lt_zero i)))
          · simp only [rpv, rcs, pcs, wz, if_true, if_false, Bool.false_eq_true, reduceIte, En.pv, En.cs]
            simp -implicitDefEqProofs only [push_cast, hg, Ac.pv, Int.reduceBEq, Int.reduceBNe, Int.reduceEq, Int.reduceNe, Int.reducePow, Nat.reduceAdd, Nat.reduceMul, Nat.reduceSub, Nat.reduceLT, Nat.reduceLeDiff, Nat.reduceEqDiff, Nat.reduceBEq, Int.reduceLT, Int.reduceLE, Int.reduceAdd, Int.reduceSub, Int.reduceMul, Int.reduceToNat, Int.reduceNeg, reduceIte, reduceCtorEq, reduceBEq]
            refine ⟨hlt', ?_⟩
            refine condC_split (fun h3 => ?_) (fun h3 => ?_)
            · obtain ⟨e', c, hR, hR2, hJ⟩ := hj.sendc hqs
              have hs := send_fs e q.b (hj.bk.ok (by omega)) (by omega)
              have hs2 := zz true hz (rsend_fs e L q.b (hj.bk.ok (by omega)) (by omega) (by have := hj.bk.r; omega))
              rw [hR] at hs
              rw [hR2] at hs2
              simp only [rpv, rcs, pcs, wz, if_true, if_false, Bool.false_eq_true, reduceIte, En.pv, En.cs] at hs hs2
              simp -implicitDefEqProofs only [push_cast, hg, Ac.pv, bneSelf, Int.reduceBEq, Int.reduceBNe, Int.reduceEq, Int.reduceNe, Int.reducePow, Nat.reduceAdd, Nat.reduceMul, Nat.reduceSub, Nat.reduceLT, Nat.reduceLeDiff, Nat.reduceEqDiff, Nat.reduceBEq, Int.reduceLT, Int.reduceLE, Int.reduceAdd, Int.reduceSub, Int.reduceMul, Int.reduceToNat, Int.reduceNeg, reduceIte, reduceCtorEq, reduceBEq]
              (try refine ⟨by (unfold drawOk; kernel_rfl), ?_⟩)
              refine ⟨hlt', ?_⟩
              refine callE_pure hs (by rfl) (by rfl) (by rfl) (by decide) (by rfl) (fun _ => by rfl) (by first | rfl | simp [gdOk, newToks]) ?_
              simp -implicitDefEqProofs only [push_cast, hg, Ac.pv, bneSelf, Int.reduceBEq, Int.reduceBNe, Int.reduceEq, Int.reduceNe, Int.reducePow, Nat.reduceAdd, Nat.reduceMul, Nat.reduceSub, Nat.reduceLT, Nat.reduceLeDiff, Nat.reduceEqDiff, Nat.reduceBEq, Int.reduceLT, Int.reduceLE, Int.reduceAdd, Int.reduceSub, Int.reduceMul, Int.reduceToNat, Int.reduceNeg, reduceIte, reduceCtorEq, reduceBEq]
              (try refine ⟨by (unfold drawOk; kernel_rfl), ?_⟩)
              refine ⟨hlt', ?_⟩
              refine callE_pure hs2 (by rfl) (by rfl) (by rfl) (by decide) (by rfl) (fun _ => by rfl) (by first | rfl | simp [gdOk, newToks]) ?_
              simp -implicitDefEqProofs only [push_cast, hg, Ac.pv, bneSelf, Int.reduceBEq, Int.reduceBNe, Int.reduceEq, Int.reduceNe, Int.reducePow, Nat.reduceAdd, Nat.reduceMul, Nat.reduceSub, Nat.reduceLT, Nat.reduceLeDiff, Nat.reduceEqDiff, Nat.reduceBEq, Int.reduceLT, Int.reduceLE, Int.reduceAdd, Int.reduceSub, Int.reduceMul, Int.reduceToNat, Int.reduceNeg, reduceIte, reduceCtorEq, reduceBEq]
              (try refine ⟨by (unfold drawOk; kernel_rfl), ?_⟩)
              have hqq := quiet_fs e'
              have hrq := zz (args := []) false (fun h => by cases h) (rquiet_fs e' L)
              generalize hqv : (decide (e'.way.length = 0) && !e'.ack) = qv at hqq hrq
              simp only [rpv, rcs, pcs, wz, if_true, if_false, Bool.false_eq_true, reduceIte, En.pv, En.cs] at hqq hrq
              try simp -implicitDefEqProofs only [push_cast, hg, Ac.pv, Int.reduceBEq, Int.reduceBNe, Int.reduceEq, Int.reduceNe, Int.reducePow, Nat.reduceAdd, Nat.reduceMul, Nat.reduceSub, Nat.reduceLT, Nat.reduceLeDiff, Nat.reduceEqDiff, Nat.reduceBEq, Int.reduceLT, Int.reduceLE, Int.reduceAdd, Int.reduceSub, Int.reduceMul, Int.reduceToNat, Int.reduceNeg, reduceIte, reduceCtorEq, reduceBEq]
              (try refine ⟨by (unfold drawOk; kernel_rfl), ?_⟩)
              refine callE_pure hqq (by rfl) (by rfl) (by rfl) (by decide) (by rfl) (fun _ => by rfl) (by first | rfl | simp [gdOk, newToks]) ?_
              simp -implicitDefEqProofs only [push_cast, hg, Ac.pv, Int.reduceBEq, Int.reduceBNe, Int.reduceEq, Int.reduceNe, Int.reducePow, Nat.reduceAdd, Nat.reduceMul, Nat.reduceSub, Nat.reduceLT, Nat.reduceLeDiff, Nat.reduceEqDiff, Nat.reduceBEq, Int.reduceLT, Int.reduceLE, Int.reduceAdd, Int.reduceSub, Int.reduceMul, Int.reduceToNat, Int.reduceNeg, reduceIte, reduceCtorEq, reduceBEq]
              (try refine ⟨by (unfold drawOk; kernel_rfl), ?_⟩)
              refine callE_pure hrq (by rfl) (by rfl) (by rfl) (by decide) (by rfl) (fun _ => by rfl) (by first | rfl | simp [gdOk, newToks]) ?_
              simp -implicitDefEqProofs only [push_cast, hg, Ac.pv, bneSelf, Int.reduceBEq, Int.reduceBNe, Int.reduceEq, Int.reduceNe, Int.reducePow, Nat.reduceAdd, Nat.reduceMul, Nat.reduceSub, Nat.reduceLT, Nat.reduceLeDiff, Nat.reduceEqDiff, Nat.reduceBEq, Int.reduceLT, Int.reduceLE, Int.reduceAdd, Int.reduceSub, Int.reduceMul, Int.reduceToNat, Int.reduceNeg, reduceIte, reduceCtorEq, reduceBEq]
              (try refine ⟨by (unfold drawOk; kernel_rfl), ?_⟩)
              rw [hwr]
              refine ⟨⟨i + 1, by omega, e', L, hJ, false, (fun h => by cases h)⟩, by simp only; omega, ?_⟩
              (simp only [PlS.st, rpv, rcs, pcs, wz, if_true, if_false, Bool.false_eq_true, reduceIte, En.pv, En.cs]; exact Wk.by _ _ _ [(0, 0), (1, 1)] [] [] (by simp) (by simp [wkV, PV.el, PV.weak, PS.get, PS.obj, PS.lv, lkp_hit, lkp_miss, lkp_nil, lko]) (by simp [PS.get, PS.obj, PS.lv, lkp_hit, lkp_miss, lkp_nil, lko, wkL, wkC, PV.weak]) (by simp [PS.get, PS.obj, PS.lv, lkp_hit, lkp_miss, lkp_nil, lko]) (by rfl) (by rfl) (by simp [lko]) (by simp) (by simp) (by simp) (fun i hi => absurd hi (Nat.not_lt_zero i)))
            · try simp -implicitDefEqProofs only [push_cast, hg, Ac.pv, Int.reduceBEq, Int.reduceBNe, Int.reduceEq, Int.reduceNe, Int.reducePow, Nat.reduceAdd, Nat.reduceMul, Nat.reduceSub, Nat.reduceLT, Nat.reduceLeDiff, Nat.reduceEqDiff, Nat.reduceBEq, Int.reduceLT, Int.reduceLE, Int.reduceAdd, Int.reduceSub, Int.reduceMul, Int.reduceToNat, Int.reduceNeg, reduceIte, reduceCtorEq, reduceBEq]
              refine condC_split (fun h4 => ?_) (fun h4 => ?_)
              · have hs := due_fs e (by have := hj.bk.w; omega) (fun p hp => by have := hj.bk.wb p hp; omega)
                have hs2 := zz (args := []) true hz (rdue_fs e L (by have := hj.bk.w; omega) (fun p hp => by have := hj.bk.wb p hp; omega))
                have htx := texts_fs e.dueP e.dueP (dueP_le e (by have := hj.bk.w; omega))
                rw [decide_eq_true rfl] at htx
                have hJ := hj.due.up
                generalize e.dueP = dp at *
                generalize e.due = e' at *
                simp only [rpv, rcs, pcs, wz, if_true, if_false, Bool.false_eq_true, reduceIte, En.pv, En.cs] at hs hs2
                simp -implicitDefEqProofs only [push_cast, hg, Ac.pv, bneSelf, Int.reduceBEq, Int.reduceBNe, Int.reduceEq, Int.reduceNe, Int.reducePow, Nat.reduceAdd, Nat.reduceMul, Nat.reduceSub, Nat.reduceLT, Nat.reduceLeDiff, Nat.reduceEqDiff, Nat.reduceBEq, Int.reduceLT, Int.reduceLE, Int.reduceAdd, Int.reduceSub, Int.reduceMul, Int.reduceToNat, Int.reduceNeg, reduceIte, reduceCtorEq, reduceBEq]
                (try refine ⟨by (unfold drawOk; kernel_rfl), ?_⟩)
                refine callE_pure hs (by rfl) (by rfl) (by rfl) (by decide) (by rfl) (fun _ => by rfl) (by first | rfl | simp [gdOk, newToks]) ?_
                simp -implicitDefEqProofs only [push_cast, hg, Ac.pv, bneSelf, Int.reduceBEq, Int.reduceBNe, Int.reduceEq, Int.reduceNe, Int.reducePow, Nat.reduceAdd, Nat.reduceMul, Nat.reduceSub, Nat.reduceLT, Nat.reduceLeDiff, Nat.reduceEqDiff, Nat.reduceBEq, Int.reduceLT, Int.reduceLE, Int.reduceAdd, Int.reduceSub, Int.reduceMul, Int.reduceToNat, Int.reduceNeg, reduceIte, reduceCtorEq, reduceBEq]
                (try refine ⟨by (unfold drawOk; kernel_rfl), ?_⟩)
                refine callE_pure hs2 (by rfl) (by rfl) (by rfl) (by decide) (by rfl) (fun _ => by rfl) (by first | rfl | simp [gdOk, newToks]) ?_
                simp -implicitDefEqProofs only [push_cast, hg, Ac.pv, bneSelf, Int.reduceBEq, Int.reduceBNe, Int.reduceEq, Int.reduceNe, Int.reducePow, Nat.reduceAdd, Nat.reduceMul, Nat.reduceSub, Nat.reduceLT, Nat.reduceLeDiff, Nat.reduceEqDiff, Nat.reduceBEq, Int.reduceLT, Int.reduceLE, Int.reduceAdd, Int.reduceSub, Int.reduceMul, Int.reduceToNat, Int.reduceNeg, reduceIte, reduceCtorEq, reduceBEq]
                (try refine ⟨by (unfold drawOk; kernel_rfl), ?_⟩)
                refine callE_pure htx (by rfl) (by rfl) (by rfl) (by decide) (by rfl) (fun _ => by rfl) (by first | rfl | simp [gdOk, newToks]) ?_
                simp -implicitDefEqProofs only [push_cast, hg, Ac.pv, bneSelf, Int.reduceBEq, Int.reduceBNe, Int.reduceEq, Int.reduceNe, Int.reducePow, Nat.reduceAdd, Nat.reduceMul, Nat.reduceSub, Nat.reduceLT, Nat.reduceLeDiff, Nat.reduceEqDiff, Nat.reduceBEq, Int.reduceLT, Int.reduceLE, Int.reduceAdd, Int.reduceSub, Int.reduceMul, Int.reduceToNat, Int.reduceNeg, reduceIte, reduceCtorEq, reduceBEq]
                (try refine ⟨by (unfold drawOk; kernel_rfl), ?_⟩)
                have hqq := quiet_fs e'
                have hrq := zz (args := []) false (fun h => by cases h) (rquiet_fs e' L)
                generalize hqv : (decide (e'.way.length = 0) && !e'.ack) = qv at hqq hrq
                simp only [rpv, rcs, pcs, wz, if_true, if_false, Bool.false_eq_true, reduceIte, En.pv, En.cs] at hqq hrq
                try simp -implicitDefEqProofs only [push_cast, hg, Ac.pv, Int.reduceBEq, Int.reduceBNe, Int.reduceEq, Int.reduceNe, Int.reducePow, Nat.reduceAdd, Nat.reduceMul, Nat.reduceSub, Nat.reduceLT, Nat.reduceLeDiff, Nat.reduceEqDiff, Nat.reduceBEq, Int.reduceLT, Int.reduceLE, Int.reduceAdd, Int.reduceSub, Int.reduceMul, Int.reduceToNat, Int.reduceNeg, reduceIte, reduceCtorEq, reduceBEq]
                (try refine ⟨by (unfold drawOk; kernel_rfl), ?_⟩)
                refine callE_pure hqq (by rfl) (by rfl) (by rfl) (by decide) (by rfl) (fun _ => by rfl) (by first | rfl | simp [gdOk, newToks]) ?_
                simp -implicitDefEqProofs only [push_cast, hg, Ac.pv, Int.reduceBEq, Int.reduceBNe, Int.reduceEq, Int.reduceNe, Int.reducePow, Nat.reduceAdd, Nat.reduceMul, Nat.reduceSub, Nat.reduceLT, Nat.reduceLeDiff, Nat.reduceEqDiff, Nat.reduceBEq, Int.reduceLT, Int.reduceLE, Int.reduceAdd, Int.reduceSub, Int.reduceMul, Int.reduceToNat, Int.reduceNeg, reduceIte, reduceCtorEq, reduceBEq]
                (try refine ⟨by (unfold drawOk; kernel_rfl), ?_⟩)
                refine callE_pure hrq (by rfl) (by rfl) (by rfl) (by decide) (by rfl) (fun _ => by rfl) (by first | rfl | simp [gdOk, newToks]) ?_
                simp -implicitDefEqProofs only [push_cast, hg, Ac.pv, bneSelf, Int.reduceBEq, Int.reduceBNe, Int.reduceEq, Int.reduceNe, Int.reducePow, Nat.reduceAdd, Nat.reduceMul, Nat.reduceSub, Nat.reduceLT, Nat.reduceLeDiff, Nat.reduceEqDiff, Nat.reduceBEq, Int.reduceLT, Int.reduceLE, Int.reduceAdd, Int.reduceSub, Int.reduceMul, Int.reduceToNat, Int.reduceNeg, reduceIte, reduceCtorEq, reduceBEq]
                (try refine ⟨by (unfold drawOk; kernel_rfl), ?_⟩)
                rw [hwr]
                refine ⟨⟨i + 1, by omega, e', L, hJ, false, (fun h => by cases h)⟩, by simp only; omega, ?_⟩
                (simp only [PlS.st, rpv, rcs, pcs, wz, if_true, if_false, Bool.false_eq_true, reduceIte, En.pv, En.cs]; exact Wk.by _ _ _ [(0, 0), (1, 1)] [] [] (by simp) (by simp [wkV, PV.el, PV.weak, PS.get, PS.obj, PS.lv, lkp_hit, lkp_miss, lkp_nil, lko]) (by simp [PS.get, PS.obj, PS.lv, lkp_hit, lkp_miss, lkp_nil, lko, wkL, wkC, PV.weak]) (by simp [PS.get, PS.obj, PS.lv, lkp_hit, lkp_miss, lkp_nil, lko]) (by rfl) (by rfl) (by simp [lko]) (by simp) (by simp) (by simp) (fun i hi => absurd hi (Nat.not_lt_zero i)))
              · try simp -implicitDefEqProofs only [push_cast, hg, Ac.pv, Int.reduceBEq, Int.reduceBNe, Int.reduceEq, Int.reduceNe, Int.reducePow, Nat.reduceAdd, Nat.reduceMul, Nat.reduceSub, Nat.reduceLT, Nat.reduceLeDiff, Nat.reduceEqDiff, Nat.reduceBEq, Int.reduceLT, Int.reduceLE, Int.reduceAdd, Int.reduceSub, Int.reduceMul, Int.reduceToNat, Int.reduceNeg, reduceIte, reduceCtorEq, reduceBEq]
                refine condC_split (fun h5 => ?_) (fun h5 => ?_)
                · obtain ⟨e', L', c, hR, hR2, hJ⟩ := hj.gotc hqs
                  have hs := got_fs e q.b (hj.bk.ok (by omega)) (by omega)
                  have hs2 := zz true hz (rgot_fs e L q.b (hj.bk.ok (by omega)) (by omega) (by have := hj.ll; omega) (by have := hj.ls; omega))
                  rw [hR] at hs
                  rw [hR2] at hs2
                  simp only [rpv, rcs, pcs, wz, if_true, if_false, Bool.false_eq_true, reduceIte, En.pv, En.cs] at hs hs2
                  simp -implicitDefEqProofs only [push_cast, hg, Ac.pv, bneSelf, Int.reduceBEq, Int.reduceBNe, Int.reduceEq, Int.reduceNe, Int.reducePow, Nat.reduceAdd, Nat.reduceMul, Nat.reduceSub, Nat.reduceLT, Nat.reduceLeDiff, Nat.reduceEqDiff, Nat.reduceBEq, Int.reduceLT, Int.reduceLE, Int.reduceAdd, Int.reduceSub, Int.reduceMul, Int.reduceToNat, Int.reduceNeg, reduceIte, reduceCtorEq, reduceBEq]
                  (try refine ⟨by (unfold drawOk; kernel_rfl), ?_⟩)
                  refine ⟨hlt', ?_⟩
                  refine callE_pure hs (by rfl) (by rfl) (by rfl) (by decide) (by rfl) (fun _ => by rfl) (by first | rfl | simp [gdOk, newToks]) ?_
                  simp -implicitDefEqProofs only [push_cast, hg, Ac.pv, bneSelf, Int.reduceBEq, Int.reduceBNe, Int.reduceEq, Int.reduceNe, Int.reducePow, Nat.reduceAdd, Nat.reduceMul, Nat.reduceSub, Nat.reduceLT, Nat.reduceLeDiff, Nat.reduceEqDiff, Nat.reduceBEq, Int.reduceLT, Int.reduceLE, Int.reduceAdd, Int.reduceSub, Int.reduceMul, Int.reduceToNat, Int.reduceNeg, reduceIte, reduceCtorEq, reduceBEq]
                  (try refine ⟨by (unfold drawOk; kernel_rfl), ?_⟩)
                  refine ⟨hlt', ?_⟩
                  refine callE_pure hs2 (by rfl) (by rfl) (by rfl) (by decide) (by rfl) (fun _ => by rfl) (by first | rfl | simp [gdOk, newToks]) ?_
                  simp -implicitDefEqProofs only [push_cast, hg, Ac.pv, bneSelf, Int.reduceBEq, Int.reduceBNe, Int.reduceEq, Int.reduceNe, Int.reducePow, Nat.reduceAdd, Nat.reduceMul, Nat.reduceSub, Nat.reduceLT, Nat.reduceLeDiff, Nat.reduceEqDiff, Nat.reduceBEq, Int.reduceLT, Int.reduceLE, Int.reduceAdd, Int.reduceSub, Int.reduceMul, Int.reduceToNat, Int.reduceNeg, reduceIte, reduceCtorEq, reduceBEq]
                  (try refine ⟨by (unfold drawOk; kernel_rfl), ?_⟩)
                  have hqq := quiet_fs e'
                  have hrq := zz (args := []) false (fun h => by cases h) (rquiet_fs e' L')
                  generalize hqv : (decide (e'.way.length = 0) && !e'.ack) = qv at hqq hrq
                  simp only [rpv, rcs, pcs, wz, if_true, if_false, Bool.false_eq_true, reduceIte, En.pv, En.cs] at hqq hrq
                  try simp -implicitDefEqProofs only [push_cast, hg, Ac.pv, Int.reduceBEq, Int.reduceBNe, Int.reduceEq, Int.reduceNe, Int.reducePow, Nat.reduceAdd, Nat.reduceMul, Nat.reduceSub, Nat.reduceLT, Nat.reduceLeDiff, Nat.reduceEqDiff, Nat.reduceBEq, Int.reduceLT, Int.reduceLE, Int.reduceAdd, Int.reduceSub, Int.reduceMul, Int.reduceToNat, Int.reduceNeg, reduceIte, reduceCtorEq, reduceBEq]
                  (try refine ⟨by (unfold drawOk; kernel_rfl), ?_⟩)
                  refine callE_pure hqq (by rfl) (by rfl) (by rfl) (by decide) (by rfl) (fun _ => by rfl) (by first | rfl | simp [gdOk, newToks]) ?_
                  simp -implicitDefEqProofs only [push_cast, hg, Ac.pv, Int.reduceBEq, Int.reduceBNe, Int.reduceEq, Int.reduceNe, Int.reducePow, Nat.reduceAdd, Nat.reduceMul, Nat.reduceSub, Nat.reduceLT, Nat.reduceLeDiff, Nat.reduceEqDiff, Nat.reduceBEq, Int.reduceLT, Int.reduceLE, Int.reduceAdd, Int.reduceSub, Int.reduceMul, Int.reduceToNat, Int.reduceNeg, reduceIte, reduceCtorEq, reduceBEq]
                  (try refine ⟨by (unfold drawOk; kernel_rfl), ?_⟩)
                  refine callE_pure hrq (by rfl) (by rfl) (by rfl) (by decide) (by rfl) (fun _ => by rfl) (by first | rfl | simp [gdOk, newToks]) ?_
                  simp -implicitDefEqProofs only [push_cast, hg, Ac.pv, bneSelf, Int.reduceBEq, Int.reduceBNe, Int.reduceEq, Int.reduceNe, Int.reducePow, Nat.reduceAdd, Nat.reduceMul, Nat.reduceSub, Nat.reduceLT, Nat.reduceLeDiff, Nat.reduceEqDiff, Nat.reduceBEq, Int.reduceLT, Int.reduceLE, Int.reduceAdd, Int.reduceSub, Int.reduceMul, Int.reduceToNat, Int.reduceNeg, reduceIte, reduceCtorEq, reduceBEq]
                  (try refine ⟨by (unfold drawOk; kernel_rfl), ?_⟩)
                  rw [hwr]
                  refine ⟨⟨i + 1, by omega, e', L', hJ, false, (fun h => by cases h)⟩, by simp only; omega, ?_⟩
                  (simp only [PlS.st, rpv, rcs, pcs, wz, if_true, if_false, Bool.false_eq_true, reduceIte, En.pv, En.cs]; exact Wk.by _ _ _ [(0, 0), (1, 1)] [] [] (by simp) (by simp [wkV, PV.el, PV.weak, PS.get, PS.obj, PS.lv, lkp_hit, lkp_miss, lkp_nil, lko]) (by simp [PS.get, PS.obj, PS.lv, lkp_hit, lkp_miss, lkp_nil, lko, wkL, wkC, PV.weak]) (by simp [PS.get, PS.obj, PS.lv, lkp_hit, lkp_miss, lkp_nil, lko]) (by rfl) (by rfl) (by simp [lko]) (by simp) (by simp) (by simp) (fun i hi => absurd hi (Nat.not_lt_zero i)))
                · try simp -implicitDefEqProofs only [push_cast, hg, Ac.pv, Int.reduceBEq, Int.reduceBNe, Int.reduceEq, Int.reduceNe, Int.reducePow, Nat.reduceAdd, Nat.reduceMul, Nat.reduceSub, Nat.reduceLT, Nat.reduceLeDiff, Nat.reduceEqDiff, Nat.reduceBEq, Int.reduceLT, Int.reduceLE, Int.reduceAdd, Int.reduceSub, Int.reduceMul, Int.reduceToNat, Int.reduceNeg, reduceIte, reduceCtorEq, reduceBEq]
                  refine condC_split (fun h6 => ?_) (fun h6 => ?_)
                  · have hs := read_fs e
                    have hJ := hj.clear.up
                    obtain ⟨e', he'⟩ : ∃ e' : En, e' = { e with read := [] } := ⟨_, rfl⟩
                    have hmc : e'.most = e.most ∧ e'.rest = e.rest ∧ e'.way = e.way ∧ e'.next = e.next ∧ e'.exp = e.exp ∧ e'.ack = e.ack ∧ e'.read = [] ∧ e'.aside = e.aside := by subst he'; exact ⟨rfl, rfl, rfl, rfl, rfl, rfl, rfl, rfl⟩
                    obtain ⟨m1, m2, m3, m4, m5, m6, m7, m8⟩ := hmc
                    rw [← he'] at hJ
                    rw [← he'] at hs
                    simp only [rpv, rcs, pcs, wz, if_true, if_false, Bool.false_eq_true, reduceIte, En.pv, En.cs, m1, m2, m3, m4, m5, m6, m7, m8] at hs
                    simp -implicitDefEqProofs only [push_cast, hg, Ac.pv, bneSelf, Int.reduceBEq, Int.reduceBNe, Int.reduceEq, Int.reduceNe, Int.reducePow, Nat.reduceAdd, Nat.reduceMul, Nat.reduceSub, Nat.reduceLT, Nat.reduceLeDiff, Nat.reduceEqDiff, Nat.reduceBEq, Int.reduceLT, Int.reduceLE, Int.reduceAdd, Int.reduceSub, Int.reduceMul, Int.reduceToNat, Int.reduceNeg, reduceIte, reduceCtorEq, reduceBEq]
                    (try refine ⟨by (unfold drawOk; kernel_rfl), ?_⟩)
                    refine callE_pure hs (by rfl) (by rfl) (by rfl) (by decide) (by rfl) (fun _ => by rfl) (by first | rfl | simp [gdOk, newToks]) ?_
                    simp -implicitDefEqProofs only [push_cast, hg, Ac.pv, bneSelf, Int.reduceBEq, Int.reduceBNe, Int.reduceEq, Int.reduceNe, Int.reducePow, Nat.reduceAdd, Nat.reduceMul, Nat.reduceSub, Nat.reduceLT, Nat.reduceLeDiff, Nat.reduceEqDiff, Nat.reduceBEq, Int.reduceLT, Int.reduceLE, Int.reduceAdd, Int.reduceSub, Int.reduceMul, Int.reduceToNat, Int.reduceNeg, reduceIte, reduceCtorEq, reduceBEq]
                    (try refine ⟨by (unfold drawOk; kernel_rfl), ?_⟩)
                    have hqq := quiet_fs e'
                    have hrq := zz (args := []) true (fun _ => by rw [m3]; exact hz rfl) (rquiet_fs e' L)
                    generalize hqv : (decide (e'.way.length = 0) && !e'.ack) = qv at hqq hrq
                    simp only [rpv, rcs, pcs, wz, if_true, if_false, Bool.false_eq_true, reduceIte, En.pv, En.cs, m1, m2, m3, m4, m5, m6, m7, m8] at hqq hrq
                    try simp -implicitDefEqProofs only [push_cast, hg, Ac.pv, Int.reduceBEq, Int.reduceBNe, Int.reduceEq, Int.reduceNe, Int.reducePow, Nat.reduceAdd, Nat.reduceMul, Nat.reduceSub, Nat.reduceLT, Nat.reduceLeDiff, Nat.reduceEqDiff, Nat.reduceBEq, Int.reduceLT, Int.reduceLE, Int.reduceAdd, Int.reduceSub, Int.reduceMul, Int.reduceToNat, Int.reduceNeg, reduceIte, reduceCtorEq, reduceBEq]
                    (try refine ⟨by (unfold drawOk; kernel_rfl), ?_⟩)
                    refine callE_pure hqq (by rfl) (by rfl) (by rfl) (by decide) (by rfl) (fun _ => by rfl) (by first | rfl | simp [gdOk, newToks]) ?_
                    simp -implicitDefEqProofs only [push_cast, hg, Ac.pv, Int.reduceBEq, Int.reduceBNe, Int.reduceEq, Int.reduceNe, Int.reducePow, Nat.reduceAdd, Nat.reduceMul, Nat.reduceSub, Nat.reduceLT, Nat.reduceLeDiff, Nat.reduceEqDiff, Nat.reduceBEq, Int.reduceLT, Int.reduceLE, Int.reduceAdd, Int.reduceSub, Int.reduceMul, Int.reduceToNat, Int.reduceNeg, reduceIte, reduceCtorEq, reduceBEq]
                    (try refine ⟨by (unfold drawOk; kernel_rfl), ?_⟩)
                    refine callE_pure hrq (by rfl) (by rfl) (by rfl) (by decide) (by rfl) (fun _ => by rfl) (by first | rfl | simp [gdOk, newToks]) ?_
                    simp -implicitDefEqProofs only [push_cast, hg, Ac.pv, bneSelf, Int.reduceBEq, Int.reduceBNe, Int.reduceEq, Int.reduceNe, Int.reducePow, Nat.reduceAdd, Nat.reduceMul, Nat.reduceSub, Nat.reduceLT, Nat.reduceLeDiff, Nat.reduceEqDiff, Nat.reduceBEq, Int.reduceLT, Int.reduceLE, Int.reduceAdd, Int.reduceSub, Int.reduceMul, Int.reduceToNat, Int.reduceNeg, reduceIte, reduceCtorEq, reduceBEq]
                    (try refine ⟨by (unfold drawOk; kernel_rfl), ?_⟩)
                    rw [hwr]
                    refine ⟨⟨i + 1, by omega, e', L, hJ, true, (fun _ => by rw [m3]; exact hz rfl)⟩, by simp only; omega, ?_⟩
                    (simp only [PlS.st, rpv, rcs, pcs, wz, if_true, if_false, Bool.false_eq_true, reduceIte, En.pv, En.cs]; exact Wk.by _ _ _ [(0, 0), (1, 1)] [] [] (by simp) (by simp [wkV, PV.el, PV.weak, PS.get, PS.obj, PS.lv, lkp_hit, lkp_miss, lkp_nil, lko, m1, m2, m3, m4, m5, m6, m7, m8]) (by simp [PS.get, PS.obj, PS.lv, lkp_hit, lkp_miss, lkp_nil, lko, wkL, wkC, PV.weak, m1, m2, m3, m4, m5, m6, m7, m8]) (by simp [PS.get, PS.obj, PS.lv, lkp_hit, lkp_miss, lkp_nil, lko]) (by rfl) (by rfl) (by simp [lko]) (by simp) (by simp) (by simp) (fun i hi => absurd hi (Nat.not_lt_zero i)))
                  · try simp -implicitDefEqProofs only [push_cast, hg, Ac.pv, Int.reduceBEq, Int.reduceBNe, Int.reduceEq, Int.reduceNe, Int.reducePow, Nat.reduceAdd, Nat.reduceMul, Nat.reduceSub, Nat.reduceLT, Nat.reduceLeDiff, Nat.reduceEqDiff, Nat.reduceBEq, Int.reduceLT, Int.reduceLE, Int.reduceAdd, Int.reduceSub, Int.reduceMul, Int.reduceToNat, Int.reduceNeg, reduceIte, reduceCtorEq, reduceBEq]
                    refine condC_split (fun h7 => ?_) (fun h7 => ?_)
                    · have hs := tick_fs e (by have := hj.bk.w; omega)
                      have hs2 := zz (args := []) true hz (rtick_fs e L (by have := hj.bk.w; omega))
                      have hJ := hj.tick.up
                      generalize e.tick = e' at *
                      simp only [rpv, rcs, pcs, wz, if_true, if_false, Bool.false_eq_true, reduceIte, En.pv, En.cs] at hs hs2
                      simp -implicitDefEqProofs only [push_cast, hg, Ac.pv, bneSelf, Int.reduceBEq, Int.reduceBNe, Int.reduceEq, Int.reduceNe, Int.reducePow, Nat.reduceAdd, Nat.reduceMul, Nat.reduceSub, Nat.reduceLT, Nat.reduceLeDiff, Nat.reduceEqDiff, Nat.reduceBEq, Int.reduceLT, Int.reduceLE, Int.reduceAdd, Int.reduceSub, Int.reduceMul, Int.reduceToNat, Int.reduceNeg, reduceIte, reduceCtorEq, reduceBEq]
                      (try refine ⟨by (unfold drawOk; kernel_rfl), ?_⟩)
                      refine callE_pure hs (by rfl) (by rfl) (by rfl) (by decide) (by rfl) (fun _ => by rfl) (by first | rfl | simp [gdOk, newToks]) ?_
                      simp -implicitDefEqProofs only [push_cast, hg, Ac.pv, bneSelf, Int.reduceBEq, Int.reduceBNe, Int.reduceEq, Int.reduceNe, Int.reducePow, Nat.reduceAdd, Nat.reduceMul, Nat.reduceSub, Nat.reduceLT, Nat.reduceLeDiff, Nat.reduceEqDiff, Nat.reduceBEq, Int.reduceLT, Int.reduceLE, Int.reduceAdd, Int.reduceSub, Int.reduceMul, Int.reduceToNat, Int.reduceNeg, reduceIte, reduceCtorEq, reduceBEq]
                      (try refine ⟨by (unfold drawOk; kernel_rfl), ?_⟩)
                      refine callE_pure hs2 (by rfl) (by rfl) (by rfl) (by decide) (by rfl) (fun _ => by rfl) (by first | rfl | simp [gdOk, newToks]) ?_
                      simp -implicitDefEqProofs only [push_cast, hg, Ac.pv, bneSelf, Int.reduceBEq, Int.reduceBNe, Int.reduceEq, Int.reduceNe, Int.reducePow, Nat.reduceAdd, Nat.reduceMul, Nat.reduceSub, Nat.reduceLT, Nat.reduceLeDiff, Nat.reduceEqDiff, Nat.reduceBEq, Int.reduceLT, Int.reduceLE, Int.reduceAdd, Int.reduceSub, Int.reduceMul, Int.reduceToNat, Int.reduceNeg, reduceIte, reduceCtorEq, reduceBEq]
                      (try refine ⟨by (unfold drawOk; kernel_rfl), ?_⟩)
                      have hqq := quiet_fs e'
                      have hrq := zz (args := []) false (fun h => by cases h) (rquiet_fs e' L)
                      generalize hqv : (decide (e'.way.length = 0) && !e'.ack) = qv at hqq hrq
                      simp only [rpv, rcs, pcs, wz, if_true, if_false, Bool.false_eq_true, reduceIte, En.pv, En.cs] at hqq hrq
                      try simp -implicitDefEqProofs only [push_cast, hg, Ac.pv, Int.reduceBEq, Int.reduceBNe, Int.reduceEq, Int.reduceNe, Int.reducePow, Nat.reduceAdd, Nat.reduceMul, Nat.reduceSub, Nat.reduceLT, Nat.reduceLeDiff, Nat.reduceEqDiff, Nat.reduceBEq, Int.reduceLT, Int.reduceLE, Int.reduceAdd, Int.reduceSub, Int.reduceMul, Int.reduceToNat, Int.reduceNeg, reduceIte, reduceCtorEq, reduceBEq]
                      (try refine ⟨by (unfold drawOk; kernel_rfl), ?_⟩)
                      refine callE_pure hqq (by rfl) (by rfl) (by rfl) (by decide) (by rfl) (fun _ => by rfl) (by first | rfl | simp [gdOk, newToks]) ?_
                      simp -implicitDefEqProofs only [push_cast, hg, Ac.pv, Int.reduceBEq, Int.reduceBNe, Int.reduceEq, Int.reduceNe, Int.reducePow, Nat.reduceAdd, Nat.reduceMul, Nat.reduceSub, Nat.reduceLT, Nat.reduceLeDiff, Nat.reduceEqDiff, Nat.reduceBEq, Int.reduceLT, Int.reduceLE, Int.reduceAdd, Int.reduceSub, Int.reduceMul, Int.reduceToNat, Int.reduceNeg, reduceIte, reduceCtorEq, reduceBEq]
                      (try refine ⟨by (unfold drawOk; kernel_rfl), ?_⟩)
                      refine callE_pure hrq (by rfl) (by rfl) (by rfl) (by decide) (by rfl) (fun _ => by rfl) (by first | rfl | simp [gdOk, newToks]) ?_
                      simp -implicitDefEqProofs only [push_cast, hg, Ac.pv, bneSelf, Int.reduceBEq, Int.reduceBNe, Int.reduceEq, Int.reduceNe, Int.reducePow, Nat.reduceAdd, Nat.reduceMul, Nat.reduceSub, Nat.reduceLT, Nat.reduceLeDiff, Nat.reduceEqDiff, Nat.reduceBEq, Int.reduceLT, Int.reduceLE, Int.reduceAdd, Int.reduceSub, Int.reduceMul, Int.reduceToNat, Int.reduceNeg, reduceIte, reduceCtorEq, reduceBEq]
                      (try refine ⟨by (unfold drawOk; kernel_rfl), ?_⟩)
                      rw [hwr]
                      refine ⟨⟨i + 1, by omega, e', L, hJ, false, (fun h => by cases h)⟩, by simp only; omega, ?_⟩
                      (simp only [PlS.st, rpv, rcs, pcs, wz, if_true, if_false, Bool.false_eq_true, reduceIte, En.pv, En.cs]; exact Wk.by _ _ _ [(0, 0), (1, 1)] [] [] (by simp) (by simp [wkV, PV.el, PV.weak, PS.get, PS.obj, PS.lv, lkp_hit, lkp_miss, lkp_nil, lko]) (by simp [PS.get, PS.obj, PS.lv, lkp_hit, lkp_miss, lkp_nil, lko, wkL, wkC, PV.weak]) (by simp [PS.get, PS.obj, PS.lv, lkp_hit, lkp_miss, lkp_nil, lko]) (by rfl) (by rfl) (by simp [lko]) (by simp) (by simp) (by simp) (fun i hi => absurd hi (Nat.not_lt_zero i)))
                    · try simp -implicitDefEqProofs only [push_cast, hg, Ac.pv, Int.reduceBEq, Int.reduceBNe, Int.reduceEq, Int.reduceNe, Int.reducePow, Nat.reduceAdd, Nat.reduceMul, Nat.reduceSub, Nat.reduceLT, Nat.reduceLeDiff, Nat.reduceEqDiff, Nat.reduceBEq, Int.reduceLT, Int.reduceLE, Int.reduceAdd, Int.reduceSub, Int.reduceMul, Int.reduceToNat, Int.reduceNeg, reduceIte, reduceCtorEq, reduceBEq]
                      refine condC_split (fun h8 => ?_) (fun h8 => ?_)
                      · have hs := cut_fs e (by have := hj.bk.w; omega)
                        have hs2 := zz (args := []) true hz (rcut_fs e L (by have := hj.bk.w; omega))
                        obtain ⟨hJ, hcu⟩ := hj.cut
                        replace hJ := hJ.up
                        rw [hcu] at hs2
                        generalize e.cut = e' at *
                        simp only [rpv, rcs, pcs, wz, if_true, if_false, Bool.false_eq_true, reduceIte, En.pv, En.cs] at hs hs2
                        simp -implicitDefEqProofs only [push_cast, hg, Ac.pv, bneSelf, Int.reduceBEq, Int.reduceBNe, Int.reduceEq, Int.reduceNe, Int.reducePow, Nat.reduceAdd, Nat.reduceMul, Nat.reduceSub, Nat.reduceLT, Nat.reduceLeDiff, Nat.reduceEqDiff, Nat.reduceBEq, Int.reduceLT, Int.reduceLE, Int.reduceAdd, Int.reduceSub, Int.reduceMul, Int.reduceToNat, Int.reduceNeg, reduceIte, reduceCtorEq, reduceBEq]
                        (try refine ⟨by (unfold drawOk; kernel_rfl), ?_⟩)
                        refine callE_pure hs (by rfl) (by rfl) (by rfl) (by decide) (by rfl) (fun _ => by rfl) (by first | rfl | simp [gdOk, newToks]) ?_
                        simp -implicitDefEqProofs only [push_cast, hg, Ac.pv, bneSelf, Int.reduceBEq, Int.reduceBNe, Int.reduceEq, Int.reduceNe, Int.reducePow, Nat.reduceAdd, Nat.reduceMul, Nat.reduceSub, Nat.reduceLT, Nat.reduceLeDiff, Nat.reduceEqDiff, Nat.reduceBEq, Int.reduceLT, Int.reduceLE, Int.reduceAdd, Int.reduceSub, Int.reduceMul, Int.reduceToNat, Int.reduceNeg, reduceIte, reduceCtorEq, reduceBEq]
                        (try refine ⟨by (unfold drawOk; kernel_rfl), ?_⟩)
                        refine callE_pure hs2 (by rfl) (by rfl) (by rfl) (by decide) (by rfl) (fun _ => by rfl) (by first | rfl | simp [gdOk, newToks]) ?_
                        simp -implicitDefEqProofs only [push_cast, hg, Ac.pv, bneSelf, Int.reduceBEq, Int.reduceBNe, Int.reduceEq, Int.reduceNe, Int.reducePow, Nat.reduceAdd, Nat.reduceMul, Nat.reduceSub, Nat.reduceLT, Nat.reduceLeDiff, Nat.reduceEqDiff, Nat.reduceBEq, Int.reduceLT, Int.reduceLE, Int.reduceAdd, Int.reduceSub, Int.reduceMul, Int.reduceToNat, Int.reduceNeg, reduceIte, reduceCtorEq, reduceBEq]
                        (try refine ⟨by (unfold drawOk; kernel_rfl), ?_⟩)
                        have hqq := quiet_fs e'
                        have hrq := zz (args := []) false (fun h => by cases h) (rquiet_fs e' L)
                        generalize hqv : (decide (e'.way.length = 0) && !e'.ack) = qv at hqq hrq
                        simp only [rpv, rcs, pcs, wz, if_true, if_false, Bool.false_eq_true, reduceIte, En.pv, En.cs] at hqq hrq
                        try simp -implicitDefEqProofs only [push_cast, hg, Ac.pv, Int.reduceBEq, Int.reduceBNe, Int.reduceEq, Int.reduceNe, Int.reducePow, Nat.reduceAdd, Nat.reduceMul, Nat.reduceSub, Nat.reduceLT, Nat.reduceLeDiff, Nat.reduceEqDiff, Nat.reduceBEq, Int.reduceLT, Int.reduceLE, Int.reduceAdd, Int.reduceSub, Int.reduceMul, Int.reduceToNat, Int.reduceNeg, reduceIte, reduceCtorEq, reduceBEq]
                        (try refine ⟨by (unfold drawOk; kernel_rfl), ?_⟩)
                        refine callE_pure hqq (by rfl) (by rfl) (by rfl) (by decide) (by rfl) (fun _ => by rfl) (by first | rfl | simp [gdOk, newToks]) ?_
                        simp -implicitDefEqProofs only [push_cast, hg, Ac.pv, Int.reduceBEq, Int.reduceBNe, Int.reduceEq, Int.reduceNe, Int.reducePow, Nat.reduceAdd, Nat.reduceMul, Nat.reduceSub, Nat.reduceLT, Nat.reduceLeDiff, Nat.reduceEqDiff, Nat.reduceBEq, Int.reduceLT, Int.reduceLE, Int.reduceAdd, Int.reduceSub, Int.reduceMul, Int.reduceToNat, Int.reduceNeg, reduceIte, reduceCtorEq, reduceBEq]
                        (try refine ⟨by (unfold drawOk; kernel_rfl), ?_⟩)
                        refine callE_pure hrq (by rfl) (by rfl) (by rfl) (by decide) (by rfl) (fun _ => by rfl) (by first | rfl | simp [gdOk, newToks]) ?_
                        simp -implicitDefEqProofs only [push_cast, hg, Ac.pv, bneSelf, Int.reduceBEq, Int.reduceBNe, Int.reduceEq, Int.reduceNe, Int.reducePow, Nat.reduceAdd, Nat.reduceMul, Nat.reduceSub, Nat.reduceLT, Nat.reduceLeDiff, Nat.reduceEqDiff, Nat.reduceBEq, Int.reduceLT, Int.reduceLE, Int.reduceAdd, Int.reduceSub, Int.reduceMul, Int.reduceToNat, Int.reduceNeg, reduceIte, reduceCtorEq, reduceBEq]
                        (try refine ⟨by (unfold drawOk; kernel_rfl), ?_⟩)
                        rw [hwr]
                        refine ⟨⟨i + 1, by omega, e', L, hJ, false, (fun h => by cases h)⟩, by simp only; omega, ?_⟩
                        (simp only [PlS.st, rpv, rcs, pcs, wz, if_true, if_false, Bool.false_eq_true, reduceIte, En.pv, En.cs]; exact Wk.by _ _ _ [(0, 0), (1, 1)] [] [] (by simp) (by simp [wkV, PV.el, PV.weak, PS.get, PS.obj, PS.lv, lkp_hit, lkp_miss, lkp_nil, lko]) (by simp [PS.get, PS.obj, PS.lv, lkp_hit, lkp_miss, lkp_nil, lko, wkL, wkC, PV.weak]) (by simp [PS.get, PS.obj, PS.lv, lkp_hit, lkp_miss, lkp_nil, lko]) (by rfl) (by rfl) (by simp [lko]) (by simp) (by simp) (by simp) (fun i hi => absurd hi (Nat.not_lt_zero i)))
                      · have hJ := hj.up
                        have hqq := quiet_fs e
                        have hrq := zz (args := []) true hz (rquiet_fs e L)
                        generalize hqv : (decide (e.way.length = 0) && !e.ack) = qv at hqq hrq
                        simp only [rpv, rcs, pcs, wz, if_true, if_false, Bool.false_eq_true, reduceIte, En.pv, En.cs] at hqq hrq
                        try simp -implicitDefEqProofs only [push_cast, hg, Ac.pv, Int.reduceBEq, Int.reduceBNe, Int.reduceEq, Int.reduceNe, Int.reducePow, Nat.reduceAdd, Nat.reduceMul, Nat.reduceSub, Nat.reduceLT, Nat.reduceLeDiff, Nat.reduceEqDiff, Nat.reduceBEq, Int.reduceLT, Int.reduceLE, Int.reduceAdd, Int.reduceSub, Int.reduceMul, Int.reduceToNat, Int.reduceNeg, reduceIte, reduceCtorEq, reduceBEq]
                        (try refine ⟨by (unfold drawOk; kernel_rfl), ?_⟩)
                        refine callE_pure hqq (by rfl) (by rfl) (by rfl) (by decide) (by rfl) (fun _ => by rfl) (by first | rfl | simp [gdOk, newToks]) ?_
                        simp -implicitDefEqProofs only [push_cast, hg, Ac.pv, Int.reduceBEq, Int.reduceBNe, Int.reduceEq, Int.reduceNe, Int.reducePow, Nat.reduceAdd, Nat.reduceMul, Nat.reduceSub, Nat.reduceLT, Nat.reduceLeDiff, Nat.reduceEqDiff, Nat.reduceBEq, Int.reduceLT, Int.reduceLE, Int.reduceAdd, Int.reduceSub, Int.reduceMul, Int.reduceToNat, Int.reduceNeg, reduceIte, reduceCtorEq, reduceBEq]
                        (try refine ⟨by (unfold drawOk; kernel_rfl), ?_⟩)
                        refine callE_pure hrq (by rfl) (by rfl) (by rfl) (by decide) (by rfl) (fun _ => by rfl) (by first | rfl | simp [gdOk, newToks]) ?_
                        simp -implicitDefEqProofs only [push_cast, hg, Ac.pv, bneSelf, Int.reduceBEq, Int.reduceBNe, Int.reduceEq, Int.reduceNe, Int.reducePow, Nat.reduceAdd, Nat.reduceMul, Nat.reduceSub, Nat.reduceLT, Nat.reduceLeDiff, Nat.reduceEqDiff, Nat.reduceBEq, Int.reduceLT, Int.reduceLE, Int.reduceAdd, Int.reduceSub, Int.reduceMul, Int.reduceToNat, Int.reduceNeg, reduceIte, reduceCtorEq, reduceBEq]
                        (try refine ⟨by (unfold drawOk; kernel_rfl), ?_⟩)
                        rw [hwr]
                        refine ⟨⟨i + 1, by omega, e, L, hJ, true, hz⟩, by simp only; omega, ?_⟩
                        (simp only [PlS.st, rpv, rcs, pcs, wz, if_true, if_false, Bool.false_eq_true, reduceIte, En.pv, En.cs]; exact Wk.by _ _ _ [(0, 0), (1, 1)] [] [] (by simp) (by simp [wkV, PV.el, PV.weak, PS.get, PS.obj, PS.lv, lkp_hit, lkp_miss, lkp_nil, lko]) (by simp [PS.get, PS.obj, PS.lv, lkp_hit, lkp_miss, lkp_nil, lko, wkL, wkC, PV.weak]) (by simp [PS.get, PS.obj, PS.lv, lkp_hit, lkp_miss, lkp_nil, lko]) (by rfl) (by rfl) (by simp [lko]) (by simp) (by simp) (by simp) (fun i hi => absurd hi (Nat.not_lt_zero i)))
        · simp -implicitDefEqProofs only [push_cast, Int.reduceBEq, Int.reduceBNe, Int.reduceEq, Int.reduceNe, Int.reducePow, Nat.reduceAdd, Nat.reduceMul, Nat.reduceSub, Nat.reduceLT, Nat.reduceLeDiff, Nat.reduceEqDiff, Nat.reduceBEq, Int.reduceLT, Int.reduceLE, Int.reduceAdd, Int.reduceSub, Int.reduceMul, Int.reduceToNat, Int.reduceNeg, reduceIte, reduceCtorEq, reduceBEq]
          (try refine ⟨by (unfold drawOk; kernel_rfl), ?_⟩)
          refine callE_pure awake_fs (by rfl) (by rfl) (by rfl) (by decide) (by rfl) (fun _ => by rfl) (by first | rfl | simp [gdOk, newToks]) ?_
          simp -implicitDefEqProofs only [push_cast, Int.reduceBEq, Int.reduceBNe, Int.reduceEq, Int.reduceNe, Int.reducePow, Nat.reduceAdd, Nat.reduceMul, Nat.reduceSub, Nat.reduceLT, Nat.reduceLeDiff, Nat.reduceEqDiff, Nat.reduceBEq, Int.reduceLT, Int.reduceLE, Int.reduceAdd, Int.reduceSub, Int.reduceMul, Int.reduceToNat, Int.reduceNeg, reduceIte, reduceCtorEq, reduceBEq]

end Go.Proofs.Lk
