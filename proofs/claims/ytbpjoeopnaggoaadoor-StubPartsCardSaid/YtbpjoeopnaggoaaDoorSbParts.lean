/- StubFresh. -/
import Derived.Test.YtbpjoeopnaggoaaDoorSbWide
import Derived.Test.YtbpjoeopnaggoaaDoorSbGoW
set_option maxRecDepth 100000
set_option linter.unusedSimpArgs false
set_option linter.unusedVariables false
namespace Go.Proofs.Sh
open Go.Pv

theorem askS_keep (s : Sb) (X : List Rq) (ho : s.out.length ≤ 65536) (hq : 4 * s.q.length ≤ s.out.length) (h0 : 0 ≤ s.n) (hn : 4 * s.n ≤ s.out.length) :
    (askS s X).1.c = s.c ∧ (askS s X).1.t = s.t ∧ 4 * (askS s X).1.q.length ≤ (askS s X).1.out.length ∧ 0 ≤ (askS s X).1.n ∧ 4 * (askS s X).1.n ≤ (askS s X).1.out.length ∧ (askS s X).1.out.length ≤ 65536 := by
  unfold askS
  split
  · rename_i he
    have h1 := addAll_q (s.n, s.q, s.mm) X
    have h2 := addAll_n (s.n, s.q, s.mm) X
    have h3 := putAll_len s.o s.out ho X
    have h4 : (putAll s.o s.out X).2 = 0 := by
      unfold askE at he
      split at he
      · cases he
      · exact he
    have h5 := putAll_cnt s.o s.out X h4
    simp only at h1 h2
    refine ⟨rfl, rfl, ?_, ?_, ?_, h3⟩
    · show 4 * (addAll (s.n, s.q, s.mm) X).2.1.length ≤ (putAll s.o s.out X).1.length
      omega
    · show 0 ≤ (addAll (s.n, s.q, s.mm) X).1
      rw [h2]; omega
    · show 4 * (addAll (s.n, s.q, s.mm) X).1 ≤ ((putAll s.o s.out X).1.length : Int)
      rw [h2]; omega
  · exact ⟨rfl, rfl, hq, h0, hn, ho⟩
theorem shl_b (m i : Int) (h0 : 0 ≤ m) (h1 : m < 8) (h2 : 0 ≤ i) (h3 : i < 40) : IntKind.i64.wrap ((m + 1) * 1048576 + (i + 1)) = (m + 1) * 1048576 + (i + 1) ∧ IntKind.i64.wrap ((m + 1) * 1048576) = (m + 1) * 1048576 ∧
    IntKind.i64.wrap ((m + 1) * 1048576 + i) = (m + 1) * 1048576 + i ∧ IntKind.i64.wrap ((m + 1) * 1048576 + i + 1) = (m + 1) * 1048576 + (i + 1) := by
  have hz : 0 ≤ (m + 1) * 1048576 ∧ (m + 1) * 1048576 ≤ 8388608 := ⟨by omega, by omega⟩
  generalize (m + 1) * 1048576 = z at *
  refine ⟨wrap_i64_id (by omega) (by omega), wrap_i64_id (by omega) (by omega), wrap_i64_id (by omega) (by omega), ?_⟩
  rw [wrap_i64_id (by omega) (by omega)]; omega
structure FhS (m p : Nat) where
  s : Sb
  i : Nat
  h : i ≤ p
  hc : s.c = (m : Int) + 1
  ht : s.t = i
  hq : 4 * s.q.length ≤ s.out.length
  hn : 0 ≤ s.n
  hm : 4 * s.n ≤ s.out.length
  ho : s.out.length ≤ 65536
def FhS.st (X : List Rq) {m p : Nat} (a : FhS m p) : PS := { n := 69, env := [(2, .sl 4 (rqL X)), (7, .int .i64 ((m : Int) + 1)), (8, .box 0 0), (39, .int .i64 p), (40, .int .i64 a.i)], objs := [(0, some (a.s.cs (.sl 1 (ints a.s.q)) a.s.mpv))], live := [], nxt := 60 }
set_option maxHeartbeats 8000000 in
theorem stubFresh_fs (k n : Nat) (hk : k < 256) (hn : n < 256) (X : List Rq) (hX : X.length ≤ 1000000000000000) (hW : ∀ x ∈ X, x.Wide) : Fsp Tryd.prog 5 [] 0 [.int .u8 k, .int .u8 n, .sl 4 (rqL X)] [] 0 (.bool true) := by
  obtain ⟨m, hm⟩ : ∃ m, m = k % 8 := ⟨_, rfl⟩
  obtain ⟨p, hp⟩ : ∃ p, p = n % 40 := ⟨_, rfl⟩
  have a1 : Int.tmod (k : Int) 8 = (m : Int) := by rw [Int.tmod_eq_emod_of_nonneg (by omega)]; omega
  have a2 : Int.tmod (n : Int) 40 = (p : Int) := by rw [Int.tmod_eq_emod_of_nonneg (by omega)]; omega
  have a3 : IntKind.u8.wrap (m : Int) = (m : Int) := wrap_u8_id (by omega) (by omega)
  have a4 : IntKind.u8.wrap (p : Int) = (p : Int) := wrap_u8_id (by omega) (by omega)
  have a5 : IntKind.i64.wrap (m : Int) = (m : Int) := wrap_i64_id (by omega) (by omega)
  have a6 : IntKind.i64.wrap (p : Int) = (p : Int) := wrap_i64_id (by omega) (by omega)
  have a7 : IntKind.i64.wrap ((m : Int) + 1) = (m : Int) + 1 := wrap_i64_id (by omega) (by omega)
  have hN := new_fs 1 ((m : Int) + 1)
  have hcl : isCl ((m : Int) + 1) = true := by simp [isCl]; omega
  have hS : newS 1 ((m : Int) + 1) = ({ sb0 with o := 1, c := (m : Int) + 1, out := beg1 }, 0) := by
    rw [newS, if_neg (by decide), if_pos hcl]; rfl
  rw [newR, hS] at hN
  simp only [Sb.pv, Sb.cs, Sb.mpv, sb0, ints, List.map] at hN
  have hF : ∀ x ∈ X, x.Few := fun x hx => ⟨(hW x hx).n, (hW x hx).b, (hW x hx).l⟩
  have hf := fewW_fs [⟨X, []⟩] (fun a ha => by
    obtain rfl := List.mem_singleton.1 ha
    exact ⟨hX, by simp, hW, fun x hx => by cases hx⟩) (by simp)
  simp only [acL, List.map, Ac.pv, oL] at hf
  have hf := hf.takes (qs := [.sl 2 [.agg [.sl 4 (rqL X), .nilsl]]]) rfl (fun i q p h1 h2 g v r => by
      rcases i with _ | i
      · simp at h1 h2; subst h1; subst h2
        refine Rel.nlRow ?_ ?_ ?_ r
        · rfl
        · simp [nlCs, nlC, PV.cells]
        · simp [PV.cells]
      · simp at h1)
  cases k2 : decide (IntKind.i64.wrap ((fewN [⟨X, []⟩] : Nat) : Int) ≤ 2000)
  · rw [k2] at hf
    (refine Fsp.of (nx := 0) mixed Tryd.func5 rfl (by decide) (by first | exact Nat.le_refl _ | simp) (by simp [Tryd.f5]) ⟨by decide, by decide⟩ ?_; simp -implicitDefEqProofs only [push_cast, Tryd.f5, a1, a2, a3, a4, a5, a6, a7, seval])
    refine callE_pure hN (by rfl) (by rfl) (by rfl) (by decide) (by rfl) (fun _ => by rfl) (by first | rfl | simp [gdOk, newToks]) ?_
    simp -implicitDefEqProofs only [push_cast, seval]
    refine callE_pure hf (by rfl) (by rfl) (by rfl) (by decide) (by rfl) (fun _ => by rfl) (by first | rfl | simp [gdOk, newToks]) ?_
    simp -implicitDefEqProofs only [push_cast, seval]
    refine callE_pure awake_fs (by rfl) (by rfl) (by rfl) (by decide) (by rfl) (fun _ => by rfl) (by first | rfl | simp [gdOk, newToks]) ?_
    simp -implicitDefEqProofs only [push_cast, seval]
  · rw [k2] at hf
    (refine Fsp.of (nx := 0) mixed Tryd.func5 rfl (by decide) (by first | exact Nat.le_refl _ | simp) (by simp [Tryd.f5]) ⟨by decide, by decide⟩ ?_; simp -implicitDefEqProofs only [push_cast, Tryd.f5, a1, a2, a3, a4, a5, a6, a7, seval])
    refine callE_pure hN (by rfl) (by rfl) (by rfl) (by decide) (by rfl) (fun _ => by rfl) (by first | rfl | simp [gdOk, newToks]) ?_
    simp -implicitDefEqProofs only [push_cast, seval]
    refine callE_pure hf (by rfl) (by rfl) (by rfl) (by decide) (by rfl) (fun _ => by rfl) (by first | rfl | simp [gdOk, newToks]) ?_
    simp -implicitDefEqProofs only [push_cast, a1, a2, a3, a4, a5, a6, a7, seval]
    skip
    refine loopC_of (α := FhS m p) (FhS.st X) (fun a => p - a.i) ⟨{ sb0 with o := 1, c := (m : Int) + 1, out := beg1 }, 0, by omega, rfl, rfl, by simp [sb0], by simp [sb0], by simp [sb0], by simp [sb0, beg1]⟩ ?_ ?_
    · (simp only [FhS.st, Sb.cs, Sb.mpv, sb0]; exact Wk.by _ _ _ [(0, 44)] [] [] (by simp) (by simp [wkV, PV.el, PV.weak, PS.get, PS.obj, PS.lv, lkp_hit, lkp_miss, lkp_nil, lko, wkL, wkC, res1, ints, sb0, Sb.mpv]) (by simp [PS.get, PS.obj, PS.lv, lkp_hit, lkp_miss, lkp_nil, lko, wkL, wkC, PV.weak, wkL, wkC, res1, ints, sb0, Sb.mpv]) (by simp [PS.get, PS.obj, PS.lv, lkp_hit, lkp_miss, lkp_nil, lko]) (by rfl) (by rfl) (by simp [lko]) (by simp) (by simp) (by simp) (fun i hi => absurd hi (Nat.not_lt_zero i)))
    · rintro ⟨s, i, hi, hc, ht, hq, hn1, hn2, ho⟩
      simp -implicitDefEqProofs only [push_cast, FhS.st, Sb.cs, seval]
      refine condC_split (fun g1 => ?_) (fun g1 => ?_)
      · have hlt : i < p := by simp at g1; omega
        have hwi : IntKind.i64.wrap ((i : Int) + 1) = ((i + 1 : Nat) : Int) := by (rw [wrap_i64_id (by omega) (by omega)]; rfl)
        have hfr := fresh_fs s (by omega)
        have hfS : freshS s = ({ s with t := s.t + 1 }, s.c * 1048576 + (s.t + 1), 0) := by rw [freshS, if_pos ⟨by rw [hc]; exact hcl, by omega⟩]
        rw [freshR, hfS] at hfr
        have hak := ask_fs { s with t := s.t + 1 } X ⟨by simp only; omega, ho, hn1, by simp only; omega⟩ hX hF
        have hkp := askS_keep { s with t := s.t + 1 } X ho hq hn1 hn2
        rw [askR] at hak
        generalize (askS { s with t := s.t + 1 } X).1 = s' at *
        generalize (askS { s with t := s.t + 1 } X).2 = e' at *
        obtain ⟨k1, k3, k4, k5, k6, k7⟩ := hkp
        simp only at k1 k3 k4 k5 k6 k7
        obtain ⟨so, sc, sd, sn, sl, st, sout, scame, q, mm⟩ := s
        simp only at hc ht hq hn1 hn2 ho k1 k3 k4 k5 k6
        subst hc
        subst ht
        obtain ⟨so', sc', sd', sn', sl', st', sout', scame', q', mm'⟩ := s'
        simp only at k1 k3 k4 k5 k6 k7
        subst k1
        subst k3
        obtain ⟨b1, b2, b3, b4⟩ := shl_b (m : Int) (i : Int) (by omega) (by omega) (by omega) (by omega)
        cases mm with
        | none =>
          simp only [Sb.pv, Sb.cs, Sb.mpv] at hfr hak
          simp -implicitDefEqProofs only [push_cast, Sb.mpv, seval]
          refine callE_pure hfr (by rfl) (by rfl) (by rfl) (by decide) (by rfl) (fun _ => by rfl) (by first | rfl | simp [gdOk, newToks]) ?_
          simp -implicitDefEqProofs only [push_cast, b1, b2, b3, b4, bne_self_eq_false, seval]
          skip
          cases mm' with
          | none =>
            refine callE_pure hak (by rfl) (by rfl) (by rfl) (by decide) (by rfl) (fun _ => by rfl) (by first | rfl | simp [gdOk, newToks]) ?_
            simp -implicitDefEqProofs only [push_cast, seval]
            rw [hwi]
            refine ⟨⟨⟨so', (m : Int) + 1, sd', sn', sl', (i : Int) + 1, sout', scame', q', none⟩, i + 1, hlt, rfl, rfl, k4, k5, k6, k7⟩, Nat.sub_lt_sub_left hlt (Nat.lt_succ_self _), ?_⟩
            skip
            (simp only [FhS.st, Sb.cs, Sb.mpv]; exact Wk.by _ _ _ [(0, 0)] [] [] (by simp) (by simp [wkV, PV.el, PV.weak, PS.get, PS.obj, PS.lv, lkp_hit, lkp_miss, lkp_nil, lko, wkL, wkC, res1]) (by simp [PS.get, PS.obj, PS.lv, lkp_hit, lkp_miss, lkp_nil, lko, wkL, wkC, PV.weak, wkL, wkC, res1]) (by simp [PS.get, PS.obj, PS.lv, lkp_hit, lkp_miss, lkp_nil, lko]) (by rfl) (by rfl) (by simp [lko]) (by simp) (by simp) (by simp) (fun i hi => absurd hi (Nat.not_lt_zero i)))
          | some mo' =>
            refine callE_pure hak (by rfl) (by rfl) (by rfl) (by decide) (by rfl) (fun _ => by rfl) (by first | rfl | simp [gdOk, newToks]) ?_
            simp -implicitDefEqProofs only [push_cast, seval]
            rw [hwi]
            refine ⟨⟨⟨so', (m : Int) + 1, sd', sn', sl', (i : Int) + 1, sout', scame', q', some mo'⟩, i + 1, hlt, rfl, rfl, k4, k5, k6, k7⟩, Nat.sub_lt_sub_left hlt (Nat.lt_succ_self _), ?_⟩
            (simp only [FhS.st, Sb.cs, Sb.mpv]; exact Wk.by _ _ _ [(0, 0)] [] [] (by simp) (by simp [wkV, PV.el, PV.weak, PS.get, PS.obj, PS.lv, lkp_hit, lkp_miss, lkp_nil, lko, wkL, wkC, res1]) (by simp [PS.get, PS.obj, PS.lv, lkp_hit, lkp_miss, lkp_nil, lko, wkL, wkC, PV.weak, wkL, wkC, res1]) (by simp [PS.get, PS.obj, PS.lv, lkp_hit, lkp_miss, lkp_nil, lko]) (by rfl) (by rfl) (by simp [lko]) (by simp) (by simp) (by simp) (fun i hi => absurd hi (Nat.not_lt_zero i)))
        | some mo =>
          simp only [Sb.pv, Sb.cs, Sb.mpv] at hfr hak
          simp -implicitDefEqProofs only [push_cast, Sb.mpv, seval]
          refine callE_pure hfr (by rfl) (by rfl) (by rfl) (by decide) (by rfl) (fun _ => by rfl) (by first | rfl | simp [gdOk, newToks]) ?_
          simp -implicitDefEqProofs only [push_cast, b1, b2, b3, b4, bne_self_eq_false, seval]
          skip
          cases mm' with
          | none =>
            refine callE_pure hak (by rfl) (by rfl) (by rfl) (by decide) (by rfl) (fun _ => by rfl) (by first | rfl | simp [gdOk, newToks]) ?_
            simp -implicitDefEqProofs only [push_cast, seval]
            rw [hwi]
            refine ⟨⟨⟨so', (m : Int) + 1, sd', sn', sl', (i : Int) + 1, sout', scame', q', none⟩, i + 1, hlt, rfl, rfl, k4, k5, k6, k7⟩, Nat.sub_lt_sub_left hlt (Nat.lt_succ_self _), ?_⟩
            skip
            (simp only [FhS.st, Sb.cs, Sb.mpv]; exact Wk.by _ _ _ [(0, 0)] [] [] (by simp) (by simp [wkV, PV.el, PV.weak, PS.get, PS.obj, PS.lv, lkp_hit, lkp_miss, lkp_nil, lko, wkL, wkC, res1]) (by simp [PS.get, PS.obj, PS.lv, lkp_hit, lkp_miss, lkp_nil, lko, wkL, wkC, PV.weak, wkL, wkC, res1]) (by simp [PS.get, PS.obj, PS.lv, lkp_hit, lkp_miss, lkp_nil, lko]) (by rfl) (by rfl) (by simp [lko]) (by simp) (by simp) (by simp) (fun i hi => absurd hi (Nat.not_lt_zero i)))
          | some mo' =>
            refine callE_pure hak (by rfl) (by rfl) (by rfl) (by decide) (by rfl) (fun _ => by rfl) (by first | rfl | simp [gdOk, newToks]) ?_
            simp -implicitDefEqProofs only [push_cast, seval]
            rw [hwi]
            refine ⟨⟨⟨so', (m : Int) + 1, sd', sn', sl', (i : Int) + 1, sout', scame', q', some mo'⟩, i + 1, hlt, rfl, rfl, k4, k5, k6, k7⟩, Nat.sub_lt_sub_left hlt (Nat.lt_succ_self _), ?_⟩
            (simp only [FhS.st, Sb.cs, Sb.mpv]; exact Wk.by _ _ _ [(0, 0)] [] [] (by simp) (by simp [wkV, PV.el, PV.weak, PS.get, PS.obj, PS.lv, lkp_hit, lkp_miss, lkp_nil, lko, wkL, wkC, res1]) (by simp [PS.get, PS.obj, PS.lv, lkp_hit, lkp_miss, lkp_nil, lko, wkL, wkC, PV.weak, wkL, wkC, res1]) (by simp [PS.get, PS.obj, PS.lv, lkp_hit, lkp_miss, lkp_nil, lko]) (by rfl) (by rfl) (by simp [lko]) (by simp) (by simp) (by simp) (fun i hi => absurd hi (Nat.not_lt_zero i)))
      · simp -implicitDefEqProofs only [push_cast, seval]
        refine callE_pure awake_fs (by rfl) (by rfl) (by rfl) (by decide) (by rfl) (fun _ => by rfl) (by first | rfl | simp [gdOk, newToks]) ?_
        simp -implicitDefEqProofs only [push_cast, seval]

end Go.Proofs.Sh

/- StubParts. -/
set_option maxRecDepth 100000
set_option linter.unusedSimpArgs false
set_option linter.unusedVariables false
namespace Go.Proofs.Sh
open Go.Pv

theorem oLnil : oL [] = [] := rfl
theorem oL_app (a b : List Ot) : oL a ++ oL b = oL (a ++ b) := by simp [oL]
def u8L (l : List Nat) : List PV := l.map fun (n : Nat) => .int .u8 (n : Int)
theorem u8L_length (l : List Nat) : (u8L l).length = l.length := List.length_map _
theorem u8L_at {l : List Nat} {i : Nat} (h : i < l.length) : (u8L l).getD i PV.any = .int .u8 ((l.getD i 0 : Nat) : Int) := by
  rw [u8L, List.getD_eq_getElem?_getD, List.getElem?_map, List.getElem?_eq_getElem h, List.getD_eq_getElem?_getD, List.getElem?_eq_getElem h]; rfl
theorem u8L_sn (l : List Nat) (n : Nat) : u8L l ++ [.int .u8 (n : Int)] = u8L (l ++ [n]) := by simp [u8L]
/-- What has come of the first bytes. -/
structure Pt (s0 : Sb) (b : List UInt8) (n : Nat) where
  i : Nat
  p : Nat
  s : Sb
  L : List Ot
  hi : i ≤ n
  hp : p ≤ b.length
  lv : s.Live
  hw : wholeS s.o s.came = false
  hq : s.q.length ≤ 1000000
  hc : s.came.length + 8 * L.length ≤ p
  e : ∀ t, (feedS s0 (b.take p ++ t)).2.2 = (feedS s t).2.2 ∧ ((feedS s t).2.2 = 0 → feedS s0 (b.take p ++ t) = ((feedS s t).1, L ++ (feedS s t).2.1, 0))
theorem take_take {α : Type} (b : List α) (p m : Nat) : b.take p ++ (b.drop p).take m = b.take (p + m) := by
  rw [List.take_add]
theorem Pt.step {s0 : Sb} {b : List UInt8} {n : Nat} (a : Pt s0 b n) (m j : Nat) (hj : j ≤ n) (hm : m ≤ b.length - a.p) (h0 : (feedS a.s ((b.drop a.p).take m)).2.2 = 0) :
    ∃ a' : Pt s0 b n, a'.i = j ∧ a'.p = a.p + m ∧ a'.s = (feedS a.s ((b.drop a.p).take m)).1 ∧ a'.L = a.L ++ (feedS a.s ((b.drop a.p).take m)).2.1 := by
  obtain ⟨i, p, s, L, hi', hp, lv, hw, hq, hc, e⟩ := a
  simp only at hm h0 ⊢
  have hml : ((b.drop p).take m).length = m := by rw [List.length_take, List.length_drop]; omega
  obtain ⟨r1, r2, r3, r4⟩ := feedS_ok lv h0
  obtain ⟨hl1, -⟩ := (feedS_app lv ((b.drop p).take m) []).1 h0
  refine ⟨⟨j, p + m, _, _, hj, by omega, hl1, r1, by omega, by rw [List.length_append]; omega, fun t => ?_⟩, rfl, rfl, rfl, rfl⟩
  obtain ⟨e1, e2⟩ := e ((b.drop p).take m ++ t)
  obtain ⟨-, a1, a2⟩ := (feedS_app lv ((b.drop p).take m) t).1 h0
  rw [← take_take, List.append_assoc, e1, a1]
  refine ⟨rfl, fun h => ?_⟩
  rw [← a1] at h
  rw [e2 h, a2 h, List.append_assoc]
theorem Pt.bad {s0 : Sb} (h0 : s0.Live) {b : List UInt8} {n : Nat} (a : Pt s0 b n) (m : Nat) (h : ¬ (feedS a.s ((b.drop a.p).take m)).2.2 = 0) :
    (feedS s0 b).2.2 = (feedS a.s ((b.drop a.p).take m)).2.2 ∧ (feedS s0 b).2.1 = [] ∧ (feedS a.s ((b.drop a.p).take m)).2.1 = [] := by
  obtain ⟨e1, -⟩ := a.e ((b.drop a.p).take m ++ (b.drop a.p).drop m)
  rw [List.take_append_drop, List.take_append_drop] at e1
  have e2 := (feedS_app a.lv ((b.drop a.p).take m) ((b.drop a.p).drop m)).2 h
  rw [List.take_append_drop] at e2
  have e3 : ¬ (feedS s0 b).2.2 = 0 := by rw [e1, e2]; exact h
  refine ⟨by rw [e1, e2], by rw [feedS_err h0 e3]; rfl, by rw [feedS_err a.lv h]; rfl⟩
theorem Pt.all {s0 : Sb} {b : List UInt8} {n : Nat} (a : Pt s0 b n) (h : a.p = b.length) : feedS s0 b = (a.s.own, a.L, 0) := by
  have e := (a.e []).2 (by rw [feedS_nil a.lv a.hw])
  rw [h, List.take_length, List.append_nil, feedS_nil a.lv a.hw, List.append_nil] at e
  exact e
def Pt.st (b : List UInt8) (Cl : List Nat) (f : Int) (one : Sb) (all : List Ot) {s0 : Sb} {n : Nat} (a : Pt s0 b n) : PS := { n := 185, env := [(65, .int .i64 a.i), (64, .int .i64 n), (63, .sl 1 (u8L (Cl ++ [255]))), (15, .int .i64 a.p), (14, .slt 6 (oL a.L) 50), (13, .int .i64 f), (12, .sl 6 (oL all)), (11, .box 1 0), (9, .box 0 0), (3, .sl 1 (u8L Cl)), (2, .str b)], objs := [(0, some (a.s.cs (.sl 1 (ints a.s.q)) a.s.mpv)), (1, some (one.cs (.sl 1 (ints one.q)) one.mpv))], live := [(50, true)], nxt := 60 }
structure Cm (A : List Ot) where
  i : Nat
  h : i ≤ A.length
def Cm.st {A : List Ot} (a : Cm A) : PS := { n := 185, env := [(170, .int .i64 a.i), (169, .int .i64 A.length), (14, .sl 6 (oL A)), (12, .sl 6 (oL A))], objs := [], live := [], nxt := 60 }
set_option maxHeartbeats 8000000 in
theorem stubParts_fs (k : Nat) (hk : k < 256) (X : List Rq) (hX : X.length ≤ 1000000000000000) (hW : ∀ x ∈ X, x.Wide) (b : List UInt8) (hb : b.length ≤ 1000000000000000) (Cl : List Nat) (hC : ∀ c ∈ Cl, c < 256) (hCl : Cl.length ≤ 140737488351232) : Fsp Tryd.prog 7 [] 0 [.int .u8 k, .sl 4 (rqL X), .str b, .sl 1 (u8L Cl)] [] 0 (.bool true) := by
  obtain ⟨m, hm⟩ : ∃ m, m = k % 2 := ⟨_, rfl⟩
  have a1 : Int.tmod (k : Int) 2 = (m : Int) := by rw [Int.tmod_eq_emod_of_nonneg (by omega)]; omega
  have a3 : IntKind.u8.wrap (m : Int) = (m : Int) := wrap_u8_id (by omega) (by omega)
  have a5 : IntKind.i64.wrap (m : Int) = (m : Int) := wrap_i64_id (by omega) (by omega)
  have hN := new_fs (m : Int) 2
  have hbg : bgn (m : Int) ≠ [] ∧ (bgn (m : Int)).length ≤ 4 := by
    have : m = 0 ∨ m = 1 := by omega
    rcases this with rfl | rfl <;> exact ⟨by decide, by decide⟩
  have hS : newS (m : Int) 2 = ({ sb0 with o := (m : Int), c := 2, out := bgn (m : Int) }, 0) := by
    rw [newS, if_neg hbg.1, if_pos (by decide)]
  rw [newR, hS] at hN
  have hF : ∀ x ∈ X, x.Few := fun x hx => ⟨(hW x hx).n, (hW x hx).b, (hW x hx).l⟩
  have hf := fewW_fs [⟨X, []⟩] (fun a ha => by
    obtain rfl := List.mem_singleton.1 ha
    exact ⟨hX, by simp, hW, fun x hx => by cases hx⟩) (by simp)
  simp only [acL, List.map, Ac.pv, oL] at hf
  have hf := hf.takes (qs := [.sl 2 [.agg [.sl 4 (rqL X), .nilsl]]]) rfl (fun i q p h1 h2 g v r => by
      rcases i with _ | i
      · simp at h1 h2; subst h1; subst h2
        refine Rel.nlRow ?_ ?_ ?_ r
        · rfl
        · simp [nlCs, nlC, PV.cells]
        · simp [PV.cells]
      · simp at h1)
  cases k2 : decide (IntKind.i64.wrap ((fewN [⟨X, []⟩] : Nat) : Int) ≤ 2000)
  · rw [k2] at hf
    (refine Fsp.of (nx := 0) mixed Tryd.func7 rfl (by decide) (by first | exact Nat.le_refl _ | simp) (by simp [Tryd.f7]) ⟨by decide, by decide⟩ ?_; simp -implicitDefEqProofs only [push_cast, Tryd.f7, a1, a3, a5, seval])
    refine callE_pure hf (by rfl) (by rfl) (by rfl) (by decide) (by rfl) (fun _ => by rfl) (by first | rfl | simp [gdOk, newToks]) ?_
    simp -implicitDefEqProofs only [push_cast, seval]
    refine callE_pure awake_fs (by rfl) (by rfl) (by rfl) (by decide) (by rfl) (fun _ => by rfl) (by first | rfl | simp [gdOk, newToks]) ?_
    simp -implicitDefEqProofs only [push_cast, seval]
  · rw [k2] at hf
    cases k1 : decide ((3000 : Int) < (b.length : Int))
    · have hb3 : b.length ≤ 3000 := by simp at k1; omega
      have hak := ask_fs { sb0 with o := (m : Int), c := 2, out := bgn (m : Int) } X ⟨by simp [sb0], by simp only; omega, by simp [sb0], by simp [sb0]⟩ hX hF
      have hkp := askS_keep { sb0 with o := (m : Int), c := 2, out := bgn (m : Int) } X (by simp only; omega) (by simp [sb0]) (by simp [sb0]) (by simp [sb0])
      have hkd : (askS { sb0 with o := (m : Int), c := 2, out := bgn (m : Int) } X).1.d = false ∧ (askS { sb0 with o := (m : Int), c := 2, out := bgn (m : Int) } X).1.came = [] := by
        unfold askS; split <;> exact ⟨rfl, rfl⟩
      rw [askR] at hak
      simp only [Sb.pv, Sb.cs, show ({ sb0 with o := (m : Int), c := 2, out := bgn (m : Int) } : Sb).mpv = .nilm from rfl, sb0, ints, List.map] at hN
      simp only [show Sb.pv { sb0 with o := (m : Int), c := 2, out := bgn (m : Int) } = .agg [.int .i64 m, .int .i64 2, .bool false, .int .i64 0, .int .i64 0, .int .i64 0, .str (bgn m), .str [], .sl 1 [], .nilm] from rfl] at hak
      generalize (askS { sb0 with o := (m : Int), c := 2, out := bgn (m : Int) } X).1 = s0 at *
      generalize (askS { sb0 with o := (m : Int), c := 2, out := bgn (m : Int) } X).2 = e0 at *
      obtain ⟨y1, -, y3, y4, y5, y6⟩ := hkp
      obtain ⟨y7, y8⟩ := hkd
      have lv0 : s0.Live := by
        unfold Sb.Live
        rw [y1, y7]; rfl
      have hq0 : s0.q.length ≤ 1000000 := by omega
      have hfe := feedM_fs s0 b hq0 (by rw [y8]; simp only [List.nil_append]; omega)
      rw [feedR] at hfe
      simp only [Sb.pv, Sb.cs] at hak hfe
      (refine Fsp.of (nx := 0) mixed Tryd.func7 rfl (by decide) (by first | exact Nat.le_refl _ | simp) (by simp [Tryd.f7]) ⟨by decide, by decide⟩ ?_; simp -implicitDefEqProofs only [push_cast, Tryd.f7, a1, a3, a5, k1, seval])
      refine callE_pure hf (by rfl) (by rfl) (by rfl) (by decide) (by rfl) (fun _ => by rfl) (by first | rfl | simp [gdOk, newToks]) ?_
      simp -implicitDefEqProofs only [push_cast, k1, a1, a5, seval]
      refine callE_pure hN (by rfl) (by rfl) (by rfl) (by decide) (by rfl) (fun _ => by rfl) (by first | rfl | simp [gdOk, newToks]) ?_
      simp -implicitDefEqProofs only [push_cast, seval]
      refine callE_pure hak (by rfl) (by rfl) (by first | rfl | (simp only [List.map_cons, List.map_nil, List.toList_toArray, PS.ev, PS.get, lkp_hit, lkp_miss, lkp_nil, PV.un, PV.el, mpv_weak]; rfl)) (by decide) (by first | rfl | (simp only [tokLt, tokLt2, List.all_cons, List.all_nil, mpv_tok1]; rfl)) (fun _ => by rfl) (by first | rfl | simp [gdOk, newToks]) ?_
      simp -implicitDefEqProofs only [push_cast, mpv_weak, mpv_back1, mpv_tok1, mpv_cells, mpv_one, mpv_un, mpv_cnd, seval]
      refine callE_pure hfe (by rfl) (by rfl) (by first | rfl | (simp only [List.map_cons, List.map_nil, List.toList_toArray, PS.ev, PS.get, lkp_hit, lkp_miss, lkp_nil, PV.un, PV.el, mpv_weak]; rfl)) (by decide) (by first | rfl | (simp only [tokLt, tokLt2, List.all_cons, List.all_nil, mpv_tok1]; rfl)) (fun _ => by rfl) (by first | rfl | simp [gdOk, newToks]) ?_
      simp -implicitDefEqProofs only [push_cast, mpv_weak, mpv_back1, mpv_tok1, mpv_cells, mpv_one, mpv_un, mpv_cnd, seval]
      refine callE_bs ?_
      simp -implicitDefEqProofs only [push_cast, seval]
      refine ⟨by rw [u8L_length]; omega, by rw [u8L_length]; omega, by rw [u8L_length]; omega, by rw [u8L_length]; omega, ?_⟩
      skip
      refine loopC_of (α := Pt s0 b (Cl.length + 1)) (Pt.st b Cl (feedS s0 b).2.2 (feedS s0 b).1 (feedS s0 b).2.1) (fun a => Cl.length + 1 - a.i) ⟨0, 0, s0, [], by omega, by omega, lv0, by rw [y8]; rfl, hq0, by rw [y8]; simp, fun t => by simp only [List.take_zero, List.nil_append]; exact ⟨trivial, fun h => by rw [← h]⟩⟩ ?_ ?_
      · (simp only [Pt.st, Sb.cs]; exact Wk.by _ _ _ [(0, 72), (1, 148)] [] [50] (by simp) (by simp [wkV, PV.el, PV.weak, PS.get, PS.obj, PS.lv, lkp_hit, lkp_miss, lkp_nil, lko, wkL, res1, oL, u8L]) (by simp [PS.get, PS.obj, PS.lv, lkp_hit, lkp_miss, lkp_nil, lko, wkL, mpv_wkC, wkC_int, wkC_str, wkC_bool, wkC_sl, wkC_mpure, wkC_any, PV.weak, wkL, res1, oL, u8L]) (by simp [PS.get, PS.obj, PS.lv, lkp_hit, lkp_miss, lkp_nil, lko]) (by rfl) (by rfl) (by simp [lko]) (by simp) (by simp) (by simp) (fun i hi => absurd hi (Nat.not_lt_zero i)))
      · rintro ⟨i, p, s, L, hi, hp, lv, hw, hq, hcL, e⟩
        have hsl : (Cl ++ [255]).length = Cl.length + 1 := by simp
        simp -implicitDefEqProofs only [push_cast, Pt.st, Sb.cs, u8L_length, hsl, seval]
        refine condC_split (fun g1 => ?_) (fun g1 => ?_)
        · have hlt : i < Cl.length + 1 := by simp at g1; omega
          have hg := u8L_at (l := Cl ++ [255]) (i := i) (by rw [hsl]; exact hlt)
          have hc8 : (Cl ++ [255]).getD i 0 < 256 := by
            have : (Cl ++ [255]).getD i 0 ∈ Cl ++ [255] := by
              rw [List.getD_eq_getElem?_getD, List.getElem?_eq_getElem (by rw [hsl]; exact hlt)]; exact List.getElem_mem _
            rcases List.mem_append.1 this with h | h
            · exact hC _ h
            · rw [List.mem_singleton.1 h]; decide
          generalize (Cl ++ [255]).getD i 0 = c at *
          have b1 : IntKind.i64.wrap (c : Int) = (c : Int) := wrap_i64_id (by omega) (by omega)
          have b2 : IntKind.i64.wrap ((b.length : Int) - (p : Int)) = ((b.length - p : Nat) : Int) := by (rw [wrap_i64_id (by omega) (by omega)]; omega)
          obtain ⟨zm, hzm⟩ : ∃ zm : Nat, zm = min c (b.length - p) := ⟨_, rfl⟩
          have hmin : (if ((b.length - p : Nat) : Int) < (c : Int) then ((b.length - p : Nat) : Int) else (c : Int)) = (zm : Int) := by split <;> omega
          simp -implicitDefEqProofs only [push_cast, hg, u8L_length, hsl, b1, b2, hmin, seval]
          (repeat (first | refine ⟨by omega, ?_⟩ | refine ⟨by (unfold drawOk; kernel_rfl), ?_⟩))
          refine condC_split (fun g2 => ?_) (fun g2 => ?_)
          · have hz : b.length - p ≤ b.length - p := Nat.le_refl _
            generalize hzz : b.length - p = z at *
            replace hz : z ≤ b.length - p := by omega
            simp -implicitDefEqProofs only [push_cast, b2, seval]
            have w1 : IntKind.i64.wrap ((p : Int) + (z : Int)) = (p : Int) + (z : Int) := wrap_i64_id (by omega) (by omega)
            have w3 : ((p : Int) + (z : Int)).toNat = p + z := by omega
            have wi : IntKind.i64.wrap ((i : Int) + 1) = (i : Int) + 1 := wrap_i64_id (by omega) (by omega)
            have hpz : p + z ≤ b.length := by omega
            have h0pz : 0 ≤ (p : Int) + (z : Int) := by omega
            have w2 : p + z - p = z := Nat.add_sub_cancel_left ..
            have hzl : (List.take z (List.drop p b)).length = z := by rw [List.length_take, List.length_drop]; omega
            have hfr := feedM_fs s (List.take z (List.drop p b)) hq (by rw [List.length_append, hzl]; omega)
            rw [feedR] at hfr
            have hst := Pt.step ⟨i, p, s, L, hi, hp, lv, hw, hq, hcL, e⟩ z (i + 1) hlt hz
            have hbd := Pt.bad lv0 ⟨i, p, s, L, hi, hp, lv, hw, hq, hcL, e⟩ z
            simp only at hst hbd
            have hok := fun h => feedS_ok lv (b := List.take z (List.drop p b)) h
            generalize feedS s (List.take z (List.drop p b)) = R at *
            obtain ⟨s', M, er⟩ := R
            simp only [Sb.pv, Sb.cs] at hfr hst hbd hok
            simp -implicitDefEqProofs only [push_cast, w1, w2, w3, seval]
            refine ⟨h0pz, Nat.le_add_right _ _, hpz, ?_⟩
            refine callE_pure hfr (by rfl) (by rfl) (by first | rfl | (simp only [List.map_cons, List.map_nil, List.toList_toArray, PS.ev, PS.get, lkp_hit, lkp_miss, lkp_nil, PV.un, PV.el, mpv_weak]; rfl)) (by decide) (by first | rfl | (simp only [tokLt, tokLt2, List.all_cons, List.all_nil, mpv_tok1]; rfl)) (fun _ => by rfl) (by first | rfl | simp [gdOk, newToks]) ?_
            simp -implicitDefEqProofs only [push_cast, mpv_weak, mpv_back1, mpv_tok1, mpv_cells, mpv_one, mpv_un, mpv_cnd, seval]
            (repeat refine ⟨by (unfold drawOk; kernel_rfl), ?_⟩)
            refine condC_split (fun g3 => ?_) (fun g3 => ?_)
            · have he : ¬ er = 0 := by simpa using g3
              obtain ⟨q1, q2, q3⟩ := hbd he
              simp -implicitDefEqProofs only [push_cast, seval]
              refine callE_pure awake_fs (by rfl) (by rfl) (by rfl) (by decide) (by rfl) (fun _ => by rfl) (by first | rfl | simp [gdOk, newToks]) ?_
              simp -implicitDefEqProofs only [push_cast, q1, q2, q3, oLnil, beq_self_eq_true, seval]
              skip
            · have he : er = 0 := by simpa using g3
              subst he
              obtain ⟨a', j1, j2, j3, j4⟩ := hst rfl
              obtain ⟨o1, o2, o3, -⟩ := hok rfl
              clear hst hbd hok
              have hML : L.length + M.length ≤ 1000000 := by omega
              simp -implicitDefEqProofs only [push_cast, w1, wi, oL_length, oL_app, mpv_weak, mpv_back1, mpv_tok1, mpv_cells, mpv_one, mpv_un, mpv_cnd, seval]
              refine ⟨by omega, by omega, ?_⟩
              (repeat refine ⟨by (unfold drawOk; kernel_rfl), ?_⟩)
              refine ⟨a', by rw [j1]; omega, ?_⟩
              skip
              (simp only [Pt.st, Sb.cs, j1, j2, j3, j4]; exact Wk.by _ _ _ [(0, 0), (1, 1)] [(50, 240)] [] (by simp) (by simp [wkV, PV.el, PV.weak, PS.get, PS.obj, PS.lv, lkp_hit, lkp_miss, lkp_nil, lko, wkL, res1]) (by simp [PS.get, PS.obj, PS.lv, lkp_hit, lkp_miss, lkp_nil, lko, wkL, mpv_wkC, wkC_int, wkC_str, wkC_bool, wkC_sl, wkC_mpure, wkC_any, PV.weak, wkL, res1]) (by simp [PS.get, PS.obj, PS.lv, lkp_hit, lkp_miss, lkp_nil, lko]) (by rfl) (by rfl) (by simp [lko]) (by simp) (by simp) (by simp) (fun i hi => absurd hi (Nat.not_lt_zero i)))
          · have hz : zm ≤ b.length - p := by omega
            generalize zm = z at *
            have w1 : IntKind.i64.wrap ((p : Int) + (z : Int)) = (p : Int) + (z : Int) := wrap_i64_id (by omega) (by omega)
            have w3 : ((p : Int) + (z : Int)).toNat = p + z := by omega
            have wi : IntKind.i64.wrap ((i : Int) + 1) = (i : Int) + 1 := wrap_i64_id (by omega) (by omega)
            have hpz : p + z ≤ b.length := by omega
            have h0pz : 0 ≤ (p : Int) + (z : Int) := by omega
            have w2 : p + z - p = z := Nat.add_sub_cancel_left ..
            have hzl : (List.take z (List.drop p b)).length = z := by rw [List.length_take, List.length_drop]; omega
            have hfr := feedM_fs s (List.take z (List.drop p b)) hq (by rw [List.length_append, hzl]; omega)
            rw [feedR] at hfr
            have hst := Pt.step ⟨i, p, s, L, hi, hp, lv, hw, hq, hcL, e⟩ z (i + 1) hlt hz
            have hbd := Pt.bad lv0 ⟨i, p, s, L, hi, hp, lv, hw, hq, hcL, e⟩ z
            simp only at hst hbd
            have hok := fun h => feedS_ok lv (b := List.take z (List.drop p b)) h
            generalize feedS s (List.take z (List.drop p b)) = R at *
            obtain ⟨s', M, er⟩ := R
            simp only [Sb.pv, Sb.cs] at hfr hst hbd hok
            simp -implicitDefEqProofs only [push_cast, w1, w2, w3, seval]
            refine ⟨h0pz, Nat.le_add_right _ _, hpz, ?_⟩
            refine callE_pure hfr (by rfl) (by rfl) (by first | rfl | (simp only [List.map_cons, List.map_nil, List.toList_toArray, PS.ev, PS.get, lkp_hit, lkp_miss, lkp_nil, PV.un, PV.el, mpv_weak]; rfl)) (by decide) (by first | rfl | (simp only [tokLt, tokLt2, List.all_cons, List.all_nil, mpv_tok1]; rfl)) (fun _ => by rfl) (by first | rfl | simp [gdOk, newToks]) ?_
            simp -implicitDefEqProofs only [push_cast, mpv_weak, mpv_back1, mpv_tok1, mpv_cells, mpv_one, mpv_un, mpv_cnd, seval]
            (repeat refine ⟨by (unfold drawOk; kernel_rfl), ?_⟩)
            refine condC_split (fun g3 => ?_) (fun g3 => ?_)
            · have he : ¬ er = 0 := by simpa using g3
              obtain ⟨q1, q2, q3⟩ := hbd he
              simp -implicitDefEqProofs only [push_cast, seval]
              refine callE_pure awake_fs (by rfl) (by rfl) (by rfl) (by decide) (by rfl) (fun _ => by rfl) (by first | rfl | simp [gdOk, newToks]) ?_
              simp -implicitDefEqProofs only [push_cast, q1, q2, q3, oLnil, beq_self_eq_true, seval]
              skip
            · have he : er = 0 := by simpa using g3
              subst he
              obtain ⟨a', j1, j2, j3, j4⟩ := hst rfl
              obtain ⟨o1, o2, o3, -⟩ := hok rfl
              clear hst hbd hok
              have hML : L.length + M.length ≤ 1000000 := by omega
              simp -implicitDefEqProofs only [push_cast, w1, wi, oL_length, oL_app, mpv_weak, mpv_back1, mpv_tok1, mpv_cells, mpv_one, mpv_un, mpv_cnd, seval]
              refine ⟨by omega, by omega, ?_⟩
              (repeat refine ⟨by (unfold drawOk; kernel_rfl), ?_⟩)
              refine ⟨a', by rw [j1]; omega, ?_⟩
              skip
              (simp only [Pt.st, Sb.cs, j1, j2, j3, j4]; exact Wk.by _ _ _ [(0, 0), (1, 1)] [(50, 220)] [] (by simp) (by simp [wkV, PV.el, PV.weak, PS.get, PS.obj, PS.lv, lkp_hit, lkp_miss, lkp_nil, lko, wkL, res1]) (by simp [PS.get, PS.obj, PS.lv, lkp_hit, lkp_miss, lkp_nil, lko, wkL, mpv_wkC, wkC_int, wkC_str, wkC_bool, wkC_sl, wkC_mpure, wkC_any, PV.weak, wkL, res1]) (by simp [PS.get, PS.obj, PS.lv, lkp_hit, lkp_miss, lkp_nil, lko]) (by rfl) (by rfl) (by simp [lko]) (by simp) (by simp) (by simp) (fun i hi => absurd hi (Nat.not_lt_zero i)))
        · have hie : i = Cl.length + 1 := by simp at g1; omega
          subst hie
          have b2 : IntKind.i64.wrap ((b.length : Int) - (p : Int)) = ((b.length - p : Nat) : Int) := by (rw [wrap_i64_id (by omega) (by omega)]; omega)
          simp -implicitDefEqProofs only [push_cast, seval]
          refine condC_split (fun g2 => ?_) (fun g2 => ?_)
          · have hfr := feedM_fs s (List.take (b.length - p) (List.drop p b)) hq (by rw [List.length_append, List.length_take, List.length_drop]; omega)
            rw [feedR] at hfr
            have hst := Pt.step ⟨Cl.length + 1, p, s, L, hi, hp, lv, hw, hq, hcL, e⟩ (b.length - p) (Cl.length + 1) hi (Nat.le_refl _)
            have hbd := Pt.bad lv0 ⟨Cl.length + 1, p, s, L, hi, hp, lv, hw, hq, hcL, e⟩ (b.length - p)
            simp only at hst hbd
            have hok := fun h => feedS_ok lv (b := List.take (b.length - p) (List.drop p b)) h
            have hzl : (List.take (b.length - p) (List.drop p b)).length = b.length - p := by rw [List.length_take, List.length_drop]; omega
            generalize feedS s (List.take (b.length - p) (List.drop p b)) = R at *
            obtain ⟨s', M, er⟩ := R
            simp only [Sb.pv, Sb.cs] at hfr hst hbd hok
            simp -implicitDefEqProofs only [push_cast, seval]
            (repeat (first | refine ⟨by omega, ?_⟩ | refine ⟨by (unfold drawOk; kernel_rfl), ?_⟩))
            refine callE_pure hfr (by rfl) (by rfl) (by first | rfl | (simp only [List.map_cons, List.map_nil, List.toList_toArray, PS.ev, PS.get, lkp_hit, lkp_miss, lkp_nil, PV.un, PV.el, mpv_weak]; rfl)) (by decide) (by first | rfl | (simp only [tokLt, tokLt2, List.all_cons, List.all_nil, mpv_tok1]; rfl)) (fun _ => by rfl) (by first | rfl | simp [gdOk, newToks]) ?_
            simp -implicitDefEqProofs only [push_cast, mpv_weak, mpv_back1, mpv_tok1, mpv_cells, mpv_one, mpv_un, mpv_cnd, seval]
            (repeat refine ⟨by (unfold drawOk; kernel_rfl), ?_⟩)
            refine condC_split (fun g3 => ?_) (fun g3 => ?_)
            · have he : ¬ er = 0 := by simpa using g3
              obtain ⟨q1, q2, q3⟩ := hbd he
              simp -implicitDefEqProofs only [push_cast, seval]
              refine callE_pure awake_fs (by rfl) (by rfl) (by rfl) (by decide) (by rfl) (fun _ => by rfl) (by first | rfl | simp [gdOk, newToks]) ?_
              simp -implicitDefEqProofs only [push_cast, q1, q2, q3, oLnil, beq_self_eq_true, seval]
            · have he : er = 0 := by simpa using g3
              subst he
              obtain ⟨a', j1, j2, j3, j4⟩ := hst rfl
              obtain ⟨o1, o2, o3, -⟩ := hok rfl
              clear hst hbd hok
              have hML : L.length + M.length ≤ 1000000 := by omega
              have hal := a'.all (by rw [j2]; omega)
              rw [j3, j4] at hal
              have hws := waitingM_fs s' (by omega)
              have hqq : s'.own.q = s'.q := rfl
              have hwo := waitingM_fs s'.own (by rw [hqq]; omega)
              have hgd := feedS_good lv0 (b := b) (by rw [List.length_append, y8]; simp only [List.length_nil]; omega)
              rw [hal] at hgd
              simp only at hgd
              rw [hqq] at hwo
              generalize hW : s'.own = W at *
              simp -implicitDefEqProofs only [push_cast, oL_length, oL_app, hal, hqq, beq_self_eq_true, bne_self_eq_false, mpv_weak, mpv_back1, mpv_tok1, mpv_cells, mpv_one, mpv_un, mpv_cnd, seval]
              (repeat (first | refine ⟨by omega, ?_⟩ | refine ⟨by (unfold drawOk; kernel_rfl), ?_⟩))
              simp only [Sb.cs] at hws hwo
              skip
              refine callE_pure hws (by rfl) (by rfl) (by first | rfl | (simp only [List.map_cons, List.map_nil, List.toList_toArray, PS.ev, PS.get, lkp_hit, lkp_miss, lkp_nil, PV.un, PV.el, mpv_weak]; rfl)) (by decide) (by first | rfl | (simp only [tokLt, tokLt2, List.all_cons, List.all_nil, mpv_tok1]; rfl)) (fun _ => by rfl) (by first | rfl | simp [gdOk, newToks]) ?_
              simp -implicitDefEqProofs only [push_cast, mpv_weak, mpv_back1, mpv_tok1, mpv_cells, mpv_one, mpv_un, mpv_cnd, seval]
              refine callE_pure hwo (by rfl) (by rfl) (by first | rfl | (simp only [List.map_cons, List.map_nil, List.toList_toArray, PS.ev, PS.get, lkp_hit, lkp_miss, lkp_nil, PV.un, PV.el, mpv_weak]; rfl)) (by decide) (by first | rfl | (simp only [tokLt, tokLt2, List.all_cons, List.all_nil, mpv_tok1]; rfl)) (fun _ => by rfl) (by first | rfl | simp [gdOk, newToks]) ?_
              simp -implicitDefEqProofs only [push_cast, ints_length, bne_self_eq_false, hqq, oL_length, mpv_weak, mpv_back1, mpv_tok1, mpv_cells, mpv_one, mpv_un, mpv_cnd, seval]
              (repeat refine ⟨by (unfold drawOk; kernel_rfl), ?_⟩)
              refine loopC_of (α := Cm (L ++ M)) Cm.st (fun a => (L ++ M).length - a.i) ⟨0, Nat.zero_le _⟩ ?_ ?_
              · (simp only [Cm.st]; exact Wk.by _ _ _ [] [] [] (by simp) (by simp [wkV, PV.el, PV.weak, PS.get, PS.obj, PS.lv, lkp_hit, lkp_miss, lkp_nil, lko, wkL, wkC, res1, oL_length]) (by simp [PS.get, PS.obj, PS.lv, lkp_hit, lkp_miss, lkp_nil, lko, wkL, wkC, PV.weak, wkL, wkC, res1, oL_length]) (by simp [PS.get, PS.obj, PS.lv, lkp_hit, lkp_miss, lkp_nil, lko]) (by rfl) (by rfl) (by simp [lko]) (by simp) (by simp) (by simp) (fun i hi => absurd hi (Nat.not_lt_zero i)))
              · clear hal e hws hwo hW
                have hAL : (L ++ M).length ≤ 1000000 := by first | (rw [List.length_append]; exact hML) | omega
                generalize L ++ M = A9 at *
                rintro ⟨i2, hi2⟩
                simp -implicitDefEqProofs only [push_cast, Cm.st, oL_length, seval]
                refine condC_split (fun g5 => ?_) (fun g5 => ?_)
                · have hlt2 : i2 < A9.length := by simp at g5; omega
                  have hg5 := ot_at hlt2
                  have hgm := hgd _ (getD_mem ot0' hlt2)
                  have hsa := tellSame_fs _ _ hgm.few hgm.few hgm.wf hgm.wf
                  rw [sameO_refl] at hsa
                  have wi2 : IntKind.i64.wrap ((i2 : Int) + 1) = (i2 : Int) + 1 := wrap_i64_id (by omega) (by omega)
                  generalize A9.getD i2 ot0' = y at *
                  obtain ⟨yK, yC, yQ, yN, yB, yL⟩ := y
                  simp only [Ot.pv] at hsa hg5
                  simp -implicitDefEqProofs only [push_cast, hg5, oL_length, seval]
                  (repeat (first | refine ⟨by omega, ?_⟩ | refine ⟨by (unfold drawOk; kernel_rfl), ?_⟩))
                  refine callE_pure hsa (by rfl) (by rfl) (by rfl) (by decide) (by rfl) (fun _ => by rfl) (by first | rfl | simp [gdOk, newToks]) ?_
                  simp -implicitDefEqProofs only [push_cast, wi2, seval]
                  (repeat refine ⟨by (unfold drawOk; kernel_rfl), ?_⟩)
                  refine ⟨⟨i2 + 1, hlt2⟩, Nat.sub_lt_sub_left hlt2 (Nat.lt_succ_self _), ?_⟩
                  (simp only [Cm.st]; exact Wk.by _ _ _ [] [] [] (by simp) (by simp [wkV, PV.el, PV.weak, PS.get, PS.obj, PS.lv, lkp_hit, lkp_miss, lkp_nil, lko, wkL, wkC, res1, oL_length]) (by simp [PS.get, PS.obj, PS.lv, lkp_hit, lkp_miss, lkp_nil, lko, wkL, wkC, PV.weak, wkL, wkC, res1, oL_length]) (by simp [PS.get, PS.obj, PS.lv, lkp_hit, lkp_miss, lkp_nil, lko]) (by rfl) (by rfl) (by simp [lko]) (by simp) (by simp) (by simp) (fun i hi => absurd hi (Nat.not_lt_zero i)))
                · simp -implicitDefEqProofs only [push_cast, seval]
                  refine callE_pure awake_fs (by rfl) (by rfl) (by rfl) (by decide) (by rfl) (fun _ => by rfl) (by first | rfl | simp [gdOk, newToks]) ?_
                  simp -implicitDefEqProofs only [push_cast, seval]
          · have hpe : p = b.length := by simp at g2; omega
            have hal := Pt.all ⟨Cl.length + 1, p, s, L, hi, hp, lv, hw, hq, hcL, e⟩ hpe
            simp only at hal
            have hws := waitingM_fs s hq
            have hqq : s.own.q = s.q := rfl
            have hwo := waitingM_fs s.own (by rw [hqq]; exact hq)
            have hgd := feedS_good lv0 (b := b) (by rw [List.length_append, y8]; simp only [List.length_nil]; omega)
            rw [hal] at hgd
            simp only at hgd
            rw [hqq] at hwo
            generalize hW : s.own = W at *
            simp -implicitDefEqProofs only [push_cast, oL_length, hal, hqq, beq_self_eq_true, bne_self_eq_false, mpv_weak, mpv_back1, mpv_tok1, mpv_cells, mpv_one, mpv_un, mpv_cnd, seval]
            (repeat (first | refine ⟨by omega, ?_⟩ | refine ⟨by (unfold drawOk; kernel_rfl), ?_⟩))
            simp only [Sb.cs] at hws hwo
            skip
            refine callE_pure hws (by rfl) (by rfl) (by first | rfl | (simp only [List.map_cons, List.map_nil, List.toList_toArray, PS.ev, PS.get, lkp_hit, lkp_miss, lkp_nil, PV.un, PV.el, mpv_weak]; rfl)) (by decide) (by first | rfl | (simp only [tokLt, tokLt2, List.all_cons, List.all_nil, mpv_tok1]; rfl)) (fun _ => by rfl) (by first | rfl | simp [gdOk, newToks]) ?_
            simp -implicitDefEqProofs only [push_cast, mpv_weak, mpv_back1, mpv_tok1, mpv_cells, mpv_one, mpv_un, mpv_cnd, seval]
            refine callE_pure hwo (by rfl) (by rfl) (by first | rfl | (simp only [List.map_cons, List.map_nil, List.toList_toArray, PS.ev, PS.get, lkp_hit, lkp_miss, lkp_nil, PV.un, PV.el, mpv_weak]; rfl)) (by decide) (by first | rfl | (simp only [tokLt, tokLt2, List.all_cons, List.all_nil, mpv_tok1]; rfl)) (fun _ => by rfl) (by first | rfl | simp [gdOk, newToks]) ?_
            simp -implicitDefEqProofs only [push_cast, ints_length, bne_self_eq_false, hqq, oL_length, mpv_weak, mpv_back1, mpv_tok1, mpv_cells, mpv_one, mpv_un, mpv_cnd, seval]
            (repeat refine ⟨by (unfold drawOk; kernel_rfl), ?_⟩)
            refine loopC_of (α := Cm (L)) Cm.st (fun a => (L).length - a.i) ⟨0, Nat.zero_le _⟩ ?_ ?_
            · (simp only [Cm.st]; exact Wk.by _ _ _ [] [] [] (by simp) (by simp [wkV, PV.el, PV.weak, PS.get, PS.obj, PS.lv, lkp_hit, lkp_miss, lkp_nil, lko, wkL, wkC, res1, oL_length]) (by simp [PS.get, PS.obj, PS.lv, lkp_hit, lkp_miss, lkp_nil, lko, wkL, wkC, PV.weak, wkL, wkC, res1, oL_length]) (by simp [PS.get, PS.obj, PS.lv, lkp_hit, lkp_miss, lkp_nil, lko]) (by rfl) (by rfl) (by simp [lko]) (by simp) (by simp) (by simp) (fun i hi => absurd hi (Nat.not_lt_zero i)))
            · clear hal e hws hwo hW
              have hAL : (L).length ≤ 1000000 := by first | (rw [List.length_append]; exact hML) | omega
              generalize L = A9 at *
              rintro ⟨i2, hi2⟩
              simp -implicitDefEqProofs only [push_cast, Cm.st, oL_length, seval]
              refine condC_split (fun g5 => ?_) (fun g5 => ?_)
              · have hlt2 : i2 < A9.length := by simp at g5; omega
                have hg5 := ot_at hlt2
                have hgm := hgd _ (getD_mem ot0' hlt2)
                have hsa := tellSame_fs _ _ hgm.few hgm.few hgm.wf hgm.wf
                rw [sameO_refl] at hsa
                have wi2 : IntKind.i64.wrap ((i2 : Int) + 1) = (i2 : Int) + 1 := wrap_i64_id (by omega) (by omega)
                generalize A9.getD i2 ot0' = y at *
                obtain ⟨yK, yC, yQ, yN, yB, yL⟩ := y
                simp only [Ot.pv] at hsa hg5
                simp -implicitDefEqProofs only [push_cast, hg5, oL_length, seval]
                (repeat (first | refine ⟨by omega, ?_⟩ | refine ⟨by (unfold drawOk; kernel_rfl), ?_⟩))
                refine callE_pure hsa (by rfl) (by rfl) (by rfl) (by decide) (by rfl) (fun _ => by rfl) (by first | rfl | simp [gdOk, newToks]) ?_
                simp -implicitDefEqProofs only [push_cast, wi2, seval]
                (repeat refine ⟨by (unfold drawOk; kernel_rfl), ?_⟩)
                refine ⟨⟨i2 + 1, hlt2⟩, Nat.sub_lt_sub_left hlt2 (Nat.lt_succ_self _), ?_⟩
                (simp only [Cm.st]; exact Wk.by _ _ _ [] [] [] (by simp) (by simp [wkV, PV.el, PV.weak, PS.get, PS.obj, PS.lv, lkp_hit, lkp_miss, lkp_nil, lko, wkL, wkC, res1, oL_length]) (by simp [PS.get, PS.obj, PS.lv, lkp_hit, lkp_miss, lkp_nil, lko, wkL, wkC, PV.weak, wkL, wkC, res1, oL_length]) (by simp [PS.get, PS.obj, PS.lv, lkp_hit, lkp_miss, lkp_nil, lko]) (by rfl) (by rfl) (by simp [lko]) (by simp) (by simp) (by simp) (fun i hi => absurd hi (Nat.not_lt_zero i)))
              · simp -implicitDefEqProofs only [push_cast, seval]
                refine callE_pure awake_fs (by rfl) (by rfl) (by rfl) (by decide) (by rfl) (fun _ => by rfl) (by first | rfl | simp [gdOk, newToks]) ?_
                simp -implicitDefEqProofs only [push_cast, seval]
    · (refine Fsp.of (nx := 0) mixed Tryd.func7 rfl (by decide) (by first | exact Nat.le_refl _ | simp) (by simp [Tryd.f7]) ⟨by decide, by decide⟩ ?_; simp -implicitDefEqProofs only [push_cast, Tryd.f7, a1, a3, a5, k1, seval])
      refine callE_pure hf (by rfl) (by rfl) (by rfl) (by decide) (by rfl) (fun _ => by rfl) (by first | rfl | simp [gdOk, newToks]) ?_
      simp -implicitDefEqProofs only [push_cast, k1, seval]
      refine callE_pure awake_fs (by rfl) (by rfl) (by rfl) (by decide) (by rfl) (fun _ => by rfl) (by first | rfl | simp [gdOk, newToks]) ?_
      simp -implicitDefEqProofs only [push_cast, seval]

end Go.Proofs.Sh
