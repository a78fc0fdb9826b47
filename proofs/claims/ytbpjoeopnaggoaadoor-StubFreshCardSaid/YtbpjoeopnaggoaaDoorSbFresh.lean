/- StubFresh. -/
import Derived.Test.YtbpjoeopnaggoaaDoorSbWide
set_option maxRecDepth 100000
set_option linter.unusedSimpArgs false
set_option linter.unusedVariables false
namespace Go.Proofs.Sh
open Go.Pv

theorem askS_keep (s : Sb) (X : List Rq) (ho : s.out.length ≤ 65536) (hq : 4 * s.q.length ≤ s.out.length) (h0 : 0 ≤ s.n) (hn : 4 * s.n ≤ s.out.length) :
    (askS s X).1.c = s.c ∧ (askS s X).1.t = s.t ∧ 4 * (askS s X).1.q.length ≤ (askS s X).1.out.length ∧ 0 ≤ (askS s X).1.n ∧ 4 * (askS s X).1.n ≤ (askS s X).1.out.length ∧ (askS s X).1.out.length ≤ 65536 := by
  unfold askS
  split
  · rename_i he
    have h1 := addAll_q (s.n, s.q, s.mm) X
    have h2 := addAll_n (s.n, s.q, s.mm) X
    have h3 := putAll_len s.o s.out ho X
    have h4 : (putAll s.o s.out X).2 = 0 := by
      unfold askE at he
      split at he
      · cases he
      · exact he
    have h5 := putAll_cnt s.o s.out X h4
    simp only at h1 h2
    refine ⟨rfl, rfl, ?_, ?_, ?_, h3⟩
    · show 4 * (addAll (s.n, s.q, s.mm) X).2.1.length ≤ (putAll s.o s.out X).1.length
      omega
    · show 0 ≤ (addAll (s.n, s.q, s.mm) X).1
      rw [h2]; omega
    · show 4 * (addAll (s.n, s.q, s.mm) X).1 ≤ ((putAll s.o s.out X).1.length : Int)
      rw [h2]; omega
  · exact ⟨rfl, rfl, hq, h0, hn, ho⟩
theorem shl_b (m i : Int) (h0 : 0 ≤ m) (h1 : m < 8) (h2 : 0 ≤ i) (h3 : i < 40) : IntKind.i64.wrap ((m + 1) * 1048576 + (i + 1)) = (m + 1) * 1048576 + (i + 1) ∧ IntKind.i64.wrap ((m + 1) * 1048576) = (m + 1) * 1048576 ∧
    IntKind.i64.wrap ((m + 1) * 1048576 + i) = (m + 1) * 1048576 + i ∧ IntKind.i64.wrap ((m + 1) * 1048576 + i + 1) = (m + 1) * 1048576 + (i + 1) := by
  have hz : 0 ≤ (m + 1) * 1048576 ∧ (m + 1) * 1048576 ≤ 8388608 := ⟨by omega, by omega⟩
  generalize (m + 1) * 1048576 = z at *
  refine ⟨wrap_i64_id (by omega) (by omega), wrap_i64_id (by omega) (by omega), wrap_i64_id (by omega) (by omega), ?_⟩
  rw [wrap_i64_id (by omega) (by omega)]; omega
structure FhS (m p : Nat) where
  s : Sb
  i : Nat
  h : i ≤ p
  hc : s.c = (m : Int) + 1
  ht : s.t = i
  hq : 4 * s.q.length ≤ s.out.length
  hn : 0 ≤ s.n
  hm : 4 * s.n ≤ s.out.length
  ho : s.out.length ≤ 65536
def FhS.st (X : List Rq) {m p : Nat} (a : FhS m p) : PS := { n := 69, env := [(2, .sl 4 (rqL X)), (7, .int .i64 ((m : Int) + 1)), (8, .box 0 0), (39, .int .i64 p), (40, .int .i64 a.i)], objs := [(0, some (a.s.cs (.sl 1 (ints a.s.q)) a.s.mpv))], live := [], nxt := 60 }
set_option maxHeartbeats 8000000 in
theorem stubFresh_fs (k n : Nat) (hk : k < 256) (hn : n < 256) (X : List Rq) (hX : X.length ≤ 1000000000000000) (hW : ∀ x ∈ X, x.Wide) : Fsp Tryd.prog 5 [] 0 [.int .u8 k, .int .u8 n, .sl 4 (rqL X)] [] 0 (.bool true) := by
  obtain ⟨m, hm⟩ : ∃ m, m = k % 8 := ⟨_, rfl⟩
  obtain ⟨p, hp⟩ : ∃ p, p = n % 40 := ⟨_, rfl⟩
  have a1 : Int.tmod (k : Int) 8 = (m : Int) := by rw [Int.tmod_eq_emod_of_nonneg (by omega)]; omega
  have a2 : Int.tmod (n : Int) 40 = (p : Int) := by rw [Int.tmod_eq_emod_of_nonneg (by omega)]; omega
  have a3 : IntKind.u8.wrap (m : Int) = (m : Int) := wrap_u8_id (by omega) (by omega)
  have a4 : IntKind.u8.wrap (p : Int) = (p : Int) := wrap_u8_id (by omega) (by omega)
  have a5 : IntKind.i64.wrap (m : Int) = (m : Int) := wrap_i64_id (by omega) (by omega)
  have a6 : IntKind.i64.wrap (p : Int) = (p : Int) := wrap_i64_id (by omega) (by omega)
  have a7 : IntKind.i64.wrap ((m : Int) + 1) = (m : Int) + 1 := wrap_i64_id (by omega) (by omega)
  have hN := new_fs 1 ((m : Int) + 1)
  have hcl : isCl ((m : Int) + 1) = true := by simp [isCl]; omega
  have hS : newS 1 ((m : Int) + 1) = ({ sb0 with o := 1, c := (m : Int) + 1, out := beg1 }, 0) := by
    rw [newS, if_neg (by decide), if_pos hcl]; rfl
  rw [newR, hS] at hN
  simp only [Sb.pv, Sb.cs, Sb.mpv, sb0, ints, List.map] at hN
  have hF : ∀ x ∈ X, x.Few := fun x hx => ⟨(hW x hx).n, (hW x hx).b, (hW x hx).l⟩
  have hf := fewW_fs [⟨X, []⟩] (fun a ha => by
    obtain rfl := List.mem_singleton.1 ha
    exact ⟨hX, by simp, hW, fun x hx => by cases hx⟩) (by simp)
  simp only [acL, List.map, Ac.pv, oL] at hf
  have hf := hf.takes (qs := [.sl 2 [.agg [.sl 4 (rqL X), .nilsl]]]) rfl (fun i q p h1 h2 g v r => by
      rcases i with _ | i
      · simp at h1 h2; subst h1; subst h2
        refine Rel.nlRow ?_ ?_ ?_ r
        · rfl
        · simp [nlCs, nlC, PV.cells]
        · simp [PV.cells]
      · simp at h1)
  cases k2 : decide (IntKind.i64.wrap ((fewN [⟨X, []⟩] : Nat) : Int) ≤ 2000)
  · rw [k2] at hf
    (refine Fsp.of (nx := 0) mixed Tryd.func5 rfl (by decide) (by first | exact Nat.le_refl _ | simp) (by simp [Tryd.f5]) ⟨by decide, by decide⟩ ?_; simp -implicitDefEqProofs only [push_cast, Tryd.f5, a1, a2, a3, a4, a5, a6, a7, Int.reduceBEq, Int.reduceBNe, Int.reduceEq, Int.reduceNe, Int.reducePow, Nat.reduceAdd, Nat.reduceMul, Nat.reduceSub, Nat.reduceLT, Nat.reduceLeDiff, Nat.reduceEqDiff, Nat.reduceBEq, Int.reduceLT, Int.reduceLE, Int.reduceAdd, Int.reduceSub, Int.reduceMul, Int.reduceToNat, Int.reduceNeg, reduceIte, reduceCtorEq, reduceBEq])
    refine callE_pure hN (by rfl) (by rfl) (by rfl) (by decide) (by rfl) (fun _ => by rfl) (by first | rfl | simp [gdOk, newToks]) ?_
    simp -implicitDefEqProofs only [push_cast, Int.reduceBEq, Int.reduceBNe, Int.reduceEq, Int.reduceNe, Int.reducePow, Nat.reduceAdd, Nat.reduceMul, Nat.reduceSub, Nat.reduceLT, Nat.reduceLeDiff, Nat.reduceEqDiff, Nat.reduceBEq, Int.reduceLT, Int.reduceLE, Int.reduceAdd, Int.reduceSub, Int.reduceMul, Int.reduceToNat, Int.reduceNeg, reduceIte, reduceCtorEq, reduceBEq]
    refine callE_pure hf (by rfl) (by rfl) (by rfl) (by decide) (by rfl) (fun _ => by rfl) (by first | rfl | simp [gdOk, newToks]) ?_
    simp -implicitDefEqProofs only [push_cast, Int.reduceBEq, Int.reduceBNe, Int.reduceEq, Int.reduceNe, Int.reducePow, Nat.reduceAdd, Nat.reduceMul, Nat.reduceSub, Nat.reduceLT, Nat.reduceLeDiff, Nat.reduceEqDiff, Nat.reduceBEq, Int.reduceLT, Int.reduceLE, Int.reduceAdd, Int.reduceSub, Int.reduceMul, Int.reduceToNat, Int.reduceNeg, reduceIte, reduceCtorEq, reduceBEq]
    refine callE_pure awake_fs (by rfl) (by rfl) (by rfl) (by decide) (by rfl) (fun _ => by rfl) (by first | rfl | simp [gdOk, newToks]) ?_
    simp -implicitDefEqProofs only [push_cast, Int.reduceBEq, Int.reduceBNe, Int.reduceEq, Int.reduceNe, Int.reducePow, Nat.reduceAdd, Nat.reduceMul, Nat.reduceSub, Nat.reduceLT, Nat.reduceLeDiff, Nat.reduceEqDiff, Nat.reduceBEq, Int.reduceLT, Int.reduceLE, Int.reduceAdd, Int.reduceSub, Int.reduceMul, Int.reduceToNat, Int.reduceNeg, reduceIte, reduceCtorEq, reduceBEq]
  · rw [k2] at hf
    (refine Fsp.of (nx := 0) mixed Tryd.func5 rfl (by decide) (by first | exact Nat.le_refl _ | simp) (by simp [Tryd.f5]) ⟨by decide, by decide⟩ ?_; simp -implicitDefEqProofs only [push_cast, Tryd.f5, a1, a2, a3, a4, a5, a6, a7, Int.reduceBEq, Int.reduceBNe, Int.reduceEq, Int.reduceNe, Int.reducePow, Nat.reduceAdd, Nat.reduceMul, Nat.reduceSub, Nat.reduceLT, Nat.reduceLeDiff, Nat.reduceEqDiff, Nat.reduceBEq, Int.reduceLT, Int.reduceLE, Int.reduceAdd, Int.reduceSub, Int.reduceMul, Int.reduceToNat, Int.reduceNeg, reduceIte, reduceCtorEq, reduceBEq])
    refine callE_pure hN (by rfl) (by rfl) (by rfl) (by decide) (by rfl) (fun _ => by rfl) (by first | rfl | simp [gdOk, newToks]) ?_
    simp -implicitDefEqProofs only [push_cast, Int.reduceBEq, Int.reduceBNe, Int.reduceEq, Int.reduceNe, Int.reducePow, Nat.reduceAdd, Nat.reduceMul, Nat.reduceSub, Nat.reduceLT, Nat.reduceLeDiff, Nat.reduceEqDiff, Nat.reduceBEq, Int.reduceLT, Int.reduceLE, Int.reduceAdd, Int.reduceSub, Int.reduceMul, Int.reduceToNat, Int.reduceNeg, reduceIte, reduceCtorEq, reduceBEq]
    refine callE_pure hf (by rfl) (by rfl) (by rfl) (by decide) (by rfl) (fun _ => by rfl) (by first | rfl | simp [gdOk, newToks]) ?_
    simp -implicitDefEqProofs only [push_cast, a1, a2, a3, a4, a5, a6, a7, Int.reduceBEq, Int.reduceBNe, Int.reduceEq, Int.reduceNe, Int.reducePow, Nat.reduceAdd, Nat.reduceMul, Nat.reduceSub, Nat.reduceLT, Nat.reduceLeDiff, Nat.reduceEqDiff, Nat.reduceBEq, Int.reduceLT, Int.reduceLE, Int.reduceAdd, Int.reduceSub, Int.reduceMul, Int.reduceToNat, Int.reduceNeg, reduceIte, reduceCtorEq, reduceBEq]
    skip
    refine loopC_of (α := FhS m p) (FhS.st X) (fun a => p - a.i) ⟨{ sb0 with o := 1, c := (m : Int) + 1, out := beg1 }, 0, by omega, rfl, rfl, by simp [sb0], by simp [sb0], by simp [sb0], by simp [sb0, beg1]⟩ ?_ ?_
    · (simp only [FhS.st, Sb.cs, Sb.mpv, sb0]; exact Wk.by _ _ _ [(0, 44)] [] [] (by simp) (by simp [wkV, PV.el, PV.weak, PS.get, PS.obj, PS.lv, lkp_hit, lkp_miss, lkp_nil, lko, wkL, wkC, res1, ints, sb0, Sb.mpv]) (by simp [PS.get, PS.obj, PS.lv, lkp_hit, lkp_miss, lkp_nil, lko, wkL, wkC, PV.weak, wkL, wkC, res1, ints, sb0, Sb.mpv]) (by simp [PS.get, PS.obj, PS.lv, lkp_hit, lkp_miss, lkp_nil, lko]) (by rfl) (by rfl) (by simp [lko]) (by simp) (by simp) (by simp) (fun i hi => absurd hi (Nat.not_lt_zero i)))
    · rintro ⟨s, i, hi, hc, ht, hq, hn1, hn2, ho⟩
      simp -implicitDefEqProofs only [push_cast, FhS.st, Sb.cs, Int.reduceBEq, Int.reduceBNe, Int.reduceEq, Int.reduceNe, Int.reducePow, Nat.reduceAdd, Nat.reduceMul, Nat.reduceSub, Nat.reduceLT, Nat.reduceLeDiff, Nat.reduceEqDiff, Nat.reduceBEq, Int.reduceLT, Int.reduceLE, Int.reduceAdd, Int.reduceSub, Int.reduceMul, Int.reduceToNat, Int.reduceNeg, reduceIte, reduceCtorEq, reduceBEq]
      refine condC_split (fun g1 => ?_) (fun g1 => ?_)
      · have hlt : i < p := by simp at g1; omega
        have hwi : IntKind.i64.wrap ((i : Int) + 1) = ((i + 1 : Nat) : Int) := by (rw [wrap_i64_id (by omega) (by omega)]; rfl)
        have hfr := fresh_fs s (by omega)
        have hfS : freshS s = ({ s with t := s.t + 1 }, s.c * 1048576 + (s.t + 1), 0) := by rw [freshS, if_pos ⟨by rw [hc]; exact hcl, by omega⟩]
        rw [freshR, hfS] at hfr
        have hak := ask_fs { s with t := s.t + 1 } X ⟨by simp only; omega, ho, hn1, by simp only; omega⟩ hX hF
        have hkp := askS_keep { s with t := s.t + 1 } X ho hq hn1 hn2
        rw [askR] at hak
        generalize (askS { s with t := s.t + 1 } X).1 = s' at *
        generalize (askS { s with t := s.t + 1 } X).2 = e' at *
        obtain ⟨k1, k3, k4, k5, k6, k7⟩ := hkp
        simp only at k1 k3 k4 k5 k6 k7
        obtain ⟨so, sc, sd, sn, sl, st, sout, scame, q, mm⟩ := s
        simp only at hc ht hq hn1 hn2 ho k1 k3 k4 k5 k6
        subst hc
        subst ht
        obtain ⟨so', sc', sd', sn', sl', st', sout', scame', q', mm'⟩ := s'
        simp only at k1 k3 k4 k5 k6 k7
        subst k1
        subst k3
        obtain ⟨b1, b2, b3, b4⟩ := shl_b (m : Int) (i : Int) (by omega) (by omega) (by omega) (by omega)
        cases mm with
        | none =>
          simp only [Sb.pv, Sb.cs, Sb.mpv] at hfr hak
          simp -implicitDefEqProofs only [push_cast, Sb.mpv, Int.reduceBEq, Int.reduceBNe, Int.reduceEq, Int.reduceNe, Int.reducePow, Nat.reduceAdd, Nat.reduceMul, Nat.reduceSub, Nat.reduceLT, Nat.reduceLeDiff, Nat.reduceEqDiff, Nat.reduceBEq, Int.reduceLT, Int.reduceLE, Int.reduceAdd, Int.reduceSub, Int.reduceMul, Int.reduceToNat, Int.reduceNeg, reduceIte, reduceCtorEq, reduceBEq]
          refine callE_pure hfr (by rfl) (by rfl) (by rfl) (by decide) (by rfl) (fun _ => by rfl) (by first | rfl | simp [gdOk, newToks]) ?_
          simp -implicitDefEqProofs only [push_cast, b1, b2, b3, b4, bne_self_eq_false, Int.reduceBEq, Int.reduceBNe, Int.reduceEq, Int.reduceNe, Int.reducePow, Nat.reduceAdd, Nat.reduceMul, Nat.reduceSub, Nat.reduceLT, Nat.reduceLeDiff, Nat.reduceEqDiff, Nat.reduceBEq, Int.reduceLT, Int.reduceLE, Int.reduceAdd, Int.reduceSub, Int.reduceMul, Int.reduceToNat, Int.reduceNeg, reduceIte, reduceCtorEq, reduceBEq]
          skip
          cases mm' with
          | none =>
            refine callE_pure hak (by rfl) (by rfl) (by rfl) (by decide) (by rfl) (fun _ => by rfl) (by first | rfl | simp [gdOk, newToks]) ?_
            simp -implicitDefEqProofs only [push_cast, Int.reduceBEq, Int.reduceBNe, Int.reduceEq, Int.reduceNe, Int.reducePow, Nat.reduceAdd, Nat.reduceMul, Nat.reduceSub, Nat.reduceLT, Nat.reduceLeDiff, Nat.reduceEqDiff, Nat.reduceBEq, Int.reduceLT, Int.reduceLE, Int.reduceAdd, Int.reduceSub, Int.reduceMul, Int.reduceToNat, Int.reduceNeg, reduceIte, reduceCtorEq, reduceBEq]
            rw [hwi]
            refine ⟨⟨⟨so', (m : Int) + 1, sd', sn', sl', (i : Int) + 1, sout', scame', q', none⟩, i + 1, hlt, rfl, rfl, k4, k5, k6, k7⟩, Nat.sub_lt_sub_left hlt (Nat.lt_succ_self _), ?_⟩
            skip
            (simp only [FhS.st, Sb.cs, Sb.mpv]; exact Wk.by _ _ _ [(0, 0)] [] [] (by simp) (by simp [wkV, PV.el, PV.weak, PS.get, PS.obj, PS.lv, lkp_hit, lkp_miss, lkp_nil, lko, wkL, wkC, res1]) (by simp [PS.get, PS.obj, PS.lv, lkp_hit, lkp_miss, lkp_nil, lko, wkL, wkC, PV.weak, wkL, wkC, res1]) (by simp [PS.get, PS.obj, PS.lv, lkp_hit, lkp_miss, lkp_nil, lko]) (by rfl) (by rfl) (by simp [lko]) (by simp) (by simp) (by simp) (fun i hi => absurd hi (Nat.not_lt_zero i)))
          | some mo' =>
            refine callE_pure hak (by rfl) (by rfl) (by rfl) (by decide) (by rfl) (fun _ => by rfl) (by first | rfl | simp [gdOk, newToks]) ?_
            simp -implicitDefEqProofs only [push_cast, Int.reduceBEq, Int.reduceBNe, Int.reduceEq, Int.reduceNe, Int.reducePow, Nat.reduceAdd, Nat.reduceMul, Nat.reduceSub, Nat.reduceLT, Nat.reduceLeDiff, Nat.reduceEqDiff, Nat.reduceBEq, Int.reduceLT, Int.reduceLE, Int.reduceAdd, Int.reduceSub, Int.reduceMul, Int.reduceToNat, Int.reduceNeg, reduceIte, reduceCtorEq, reduceBEq]
            rw [hwi]
            refine ⟨⟨⟨so', (m : Int) + 1, sd', sn', sl', (i : Int) + 1, sout', scame', q', some mo'⟩, i + 1, hlt, rfl, rfl, k4, k5, k6, k7⟩, Nat.sub_lt_sub_left hlt (Nat.lt_succ_self _), ?_⟩
            (simp only [FhS.st, Sb.cs, Sb.mpv]; exact Wk.by _ _ _ [(0, 0)] [] [] (by simp) (by simp [wkV, PV.el, PV.weak, PS.get, PS.obj, PS.lv, lkp_hit, lkp_miss, lkp_nil, lko, wkL, wkC, res1]) (by simp [PS.get, PS.obj, PS.lv, lkp_hit, lkp_miss, lkp_nil, lko, wkL, wkC, PV.weak, wkL, wkC, res1]) (by simp [PS.get, PS.obj, PS.lv, lkp_hit, lkp_miss, lkp_nil, lko]) (by rfl) (by rfl) (by simp [lko]) (by simp) (by simp) (by simp) (fun i hi => absurd hi (Nat.not_lt_zero i)))
        | some mo =>
          simp only [Sb.pv, Sb.cs, Sb.mpv] at hfr hak
          simp -implicitDefEqProofs only [push_cast, Sb.mpv, Int.reduceBEq, Int.reduceBNe, Int.reduceEq, Int.reduceNe, Int.reducePow, Nat.reduceAdd, Nat.reduceMul, Nat.reduceSub, Nat.reduceLT, Nat.reduceLeDiff, Nat.reduceEqDiff, Nat.reduceBEq, Int.reduceLT, Int.reduceLE, Int.reduceAdd, Int.reduceSub, Int.reduceMul, Int.reduceToNat, Int.reduceNeg, reduceIte, reduceCtorEq, reduceBEq]
          refine callE_pure hfr (by rfl) (by rfl) (by rfl) (by decide) (by rfl) (fun _ => by rfl) (by first | rfl | simp [gdOk, newToks]) ?_
          simp -implicitDefEqProofs only [push_cast, b1, b2, b3, b4, bne_self_eq_false, Int.reduceBEq, Int.reduceBNe, Int.reduceEq, Int.reduceNe, Int.reducePow, Nat.reduceAdd, Nat.reduceMul, Nat.reduceSub, Nat.reduceLT, Nat.reduceLeDiff, Nat.reduceEqDiff, Nat.reduceBEq, Int.reduceLT, Int.reduceLE, Int.reduceAdd, Int.reduceSub, Int.reduceMul, Int.reduceToNat, Int.reduceNeg, reduceIte, reduceCtorEq, reduceBEq]
          skip
          cases mm' with
          | none =>
            refine callE_pure hak (by rfl) (by rfl) (by rfl) (by decide) (by rfl) (fun _ => by rfl) (by first | rfl | simp [gdOk, newToks]) ?_
            simp -implicitDefEqProofs only [push_cast, Int.reduceBEq, Int.reduceBNe, Int.reduceEq, Int.reduceNe, Int.reducePow, Nat.reduceAdd, Nat.reduceMul, Nat.reduceSub, Nat.reduceLT, Nat.reduceLeDiff, Nat.reduceEqDiff, Nat.reduceBEq, Int.reduceLT, Int.reduceLE, Int.reduceAdd, Int.reduceSub, Int.reduceMul, Int.reduceToNat, Int.reduceNeg, reduceIte, reduceCtorEq, reduceBEq]
            rw [hwi]
            refine ⟨⟨⟨so', (m : Int) + 1, sd', sn', sl', (i : Int) + 1, sout', scame', q', none⟩, i + 1, hlt, rfl, rfl, k4, k5, k6, k7⟩, Nat.sub_lt_sub_left hlt (Nat.lt_succ_self _), ?_⟩
            skip
            (simp only [FhS.st, Sb.cs, Sb.mpv]; exact Wk.by _ _ _ [(0, 0)] [] [] (by simp) (by simp [wkV, PV.el, PV.weak, PS.get, PS.obj, PS.lv, lkp_hit, lkp_miss, lkp_nil, lko, wkL, wkC, res1]) (by simp [PS.get, PS.obj, PS.lv, lkp_hit, lkp_miss, lkp_nil, lko, wkL, wkC, PV.weak, wkL, wkC, res1]) (by simp [PS.get, PS.obj, PS.lv, lkp_hit, lkp_miss, lkp_nil, lko]) (by rfl) (by rfl) (by simp [lko]) (by simp) (by simp) (by simp) (fun i hi => absurd hi (Nat.not_lt_zero i)))
          | some mo' =>
            refine callE_pure hak (by rfl) (by rfl) (by rfl) (by decide) (by rfl) (fun _ => by rfl) (by first | rfl | simp [gdOk, newToks]) ?_
            simp -implicitDefEqProofs only [push_cast, Int.reduceBEq, Int.reduceBNe, Int.reduceEq, Int.reduceNe, Int.reducePow, Nat.reduceAdd, Nat.reduceMul, Nat.reduceSub, Nat.reduceLT, Nat.reduceLeDiff, Nat.reduceEqDiff, Nat.reduceBEq, Int.reduceLT, Int.reduceLE, Int.reduceAdd, Int.reduceSub, Int.reduceMul, Int.reduceToNat, Int.reduceNeg, reduceIte, reduceCtorEq, reduceBEq]
            rw [hwi]
            refine ⟨⟨⟨so', (m : Int) + 1, sd', sn', sl', (i : Int) + 1, sout', scame', q', some mo'⟩, i + 1, hlt, rfl, rfl, k4, k5, k6, k7⟩, Nat.sub_lt_sub_left hlt (Nat.lt_succ_self _), ?_⟩
            (simp only [FhS.st, Sb.cs, Sb.mpv]; exact Wk.by _ _ _ [(0, 0)] [] [] (by simp) (by simp [wkV, PV.el, PV.weak, PS.get, PS.obj, PS.lv, lkp_hit, lkp_miss, lkp_nil, lko, wkL, wkC, res1]) (by simp [PS.get, PS.obj, PS.lv, lkp_hit, lkp_miss, lkp_nil, lko, wkL, wkC, PV.weak, wkL, wkC, res1]) (by simp [PS.get, PS.obj, PS.lv, lkp_hit, lkp_miss, lkp_nil, lko]) (by rfl) (by rfl) (by simp [lko]) (by simp) (by simp) (by simp) (fun i hi => absurd hi (Nat.not_lt_zero i)))
      · simp -implicitDefEqProofs only [push_cast, Int.reduceBEq, Int.reduceBNe, Int.reduceEq, Int.reduceNe, Int.reducePow, Nat.reduceAdd, Nat.reduceMul, Nat.reduceSub, Nat.reduceLT, Nat.reduceLeDiff, Nat.reduceEqDiff, Nat.reduceBEq, Int.reduceLT, Int.reduceLE, Int.reduceAdd, Int.reduceSub, Int.reduceMul, Int.reduceToNat, Int.reduceNeg, reduceIte, reduceCtorEq, reduceBEq]
        refine callE_pure awake_fs (by rfl) (by rfl) (by rfl) (by decide) (by rfl) (fun _ => by rfl) (by first | rfl | simp [gdOk, newToks]) ?_
        simp -implicitDefEqProofs only [push_cast, Int.reduceBEq, Int.reduceBNe, Int.reduceEq, Int.reduceNe, Int.reducePow, Nat.reduceAdd, Nat.reduceMul, Nat.reduceSub, Nat.reduceLT, Nat.reduceLeDiff, Nat.reduceEqDiff, Nat.reduceBEq, Int.reduceLT, Int.reduceLE, Int.reduceAdd, Int.reduceSub, Int.reduceMul, Int.reduceToNat, Int.reduceNeg, reduceIte, reduceCtorEq, reduceBEq]

end Go.Proofs.Sh
