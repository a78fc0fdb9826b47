/- Packages rect, band: the box around (walk). -/
import Derived.Test.YtbjeagcnakdmnaaPvYa
import Derived.Test.YtbjeagcnakdmnaaGsE
set_option maxRecDepth 100000
set_option linter.unusedSimpArgs false
set_option linter.unusedVariables false
namespace Go.Proofs.Sh
open Go.Pv
open Rg
def bxS (c r : Rt) : Rt := if c = z4 then r else btw (min c.x r.x) (min c.y r.y) (max (c.x + c.w) (r.x + r.w)) (max (c.y + c.h) (r.y + r.h))
def boxL (L : List Rt) : Rt := L.foldl bxS z4
theorem bxS_cnt {c r : Rt} (hc : c = z4 ∨ cntB c = true) (hr : cntB r = true) : cntB (bxS c r) = true := by
  unfold bxS
  split
  · exact hr
  · rename_i h
    have p := cnt_pos (hc.resolve_left h)
    have q := cnt_pos hr
    rw [show btw (min c.x r.x) (min c.y r.y) (max (c.x + c.w) (r.x + r.w)) (max (c.y + c.h) (r.y + r.h)) = ⟨min c.x r.x, min c.y r.y, max (c.x + c.w) (r.x + r.w) - min c.x r.x, max (c.y + c.h) (r.y + r.h) - min c.y r.y⟩ from if_neg (by omega)]
    unfold cntB
    rw [Bool.and_eq_true, fit_iff, fit_iff]
    simp only
    omega
structure BxA (L : List Rt) where
  k : Nat
  c : Rt
  hk : k ≤ L.length
  e : c = (L.take k).foldl bxS z4
  hc : c = z4 ∨ cntB c = true
def BxA.st {L : List Rt} (a : BxA L) : PS := { n := 55, env := [(8, .int .i64 a.k), (7, .int .i64 L.length), (6, .sl 4 (rts L)), (3, .box 1 0), (2, .box 0 0)], objs := [(0, some (rc z4)), (1, some (rc a.c))], live := [], nxt := 60 }
set_option maxHeartbeats 2000000 in
theorem rbox_fs (L : List Rt) (bL : Bnd L) (hl : L.length ≤ 1000000000) : Fsp Try.prog 21 [] 0 [.sl 4 (rts L)] [] 0 (rpv (boxL L)) := by
  have hkt : Try.prog.keyTypeAt 12 41 = true := by kernel_rfl
  (refine Fsp.ofs (nx := 0) mixed Try.func21 rfl (by simp [Try.f21]) ?_; simp -implicitDefEqProofs only [push_cast, Try.f21, rts_length, seval])
  refine loopC_of (α := BxA L) BxA.st (fun a => L.length - a.k) ⟨0, z4, Nat.zero_le _, rfl, .inl rfl⟩ ?_ ?_
  · (simp only [BxA.st]; exact Wk.by _ _ _ [(0,0),(1,4)] [] [] (by simp) (by simp [wkV, PV.el, PV.weak, PS.get, PS.obj, PS.lv, lkp_hit, lkp_miss, lkp_nil, lko, wkL, wkC, res1, rcs_wk, ics_wk, rc, z4]) (by simp [PS.get, PS.obj, PS.lv, lkp_hit, lkp_miss, lkp_nil, lko, wkL, wkC, PV.weak, wkL, wkC, res1, rcs_wk, ics_wk, rc, z4]) (by simp [PS.get, PS.obj, PS.lv, lkp_hit, lkp_miss, lkp_nil, lko]) (by rfl) (by rfl) (by simp [lko]) (by simp) (by simp) (by simp) (fun i hi => by rcases i with _ | _ | _ | _ | _ | _ | i <;> first | rfl | (exfalso; omega)))
  rintro ⟨k, c, hk, e, hc⟩
  simp only [BxA.st]
  simp -implicitDefEqProofs only [push_cast, seval]
  refine condC_split (fun g1 => ?_) (fun g1 => ?_)
  · have hlt : k < L.length := by simp at g1; omega
    have hu := wr_up (k := k) (by omega)
    have hat := rt_at hlt
    have hr := bL _ (List.getElem_mem hlt)
    have he : (L.take (k + 1)).foldl bxS z4 = bxS c L[k] := by rw [List.take_succ_eq_append_getElem hlt, List.foldl_append, ← e]; rfl
    generalize L[k] = r at *
    have hbc := bxS_cnt hc hr
    have f1 := rempty_fs r hr
    have hci : RtIn c := by rcases hc with rfl | h; exact z4_in; exact cnt_in h
    have hq := rect_eq c z4 hci z4_in
    simp only [rc] at hq
    by_cases hz : c = z4
    · rw [decide_eq_true hz] at hq
      have hb : bxS c r = r := if_pos hz
      rw [hb] at he
      have hz1 : c.x = 0 := by rw [hz]; rfl
      have hz2 : c.y = 0 := by rw [hz]; rfl
      have hz3 : c.w = 0 := by rw [hz]; rfl
      have hz4 : c.h = 0 := by rw [hz]; rfl
      simp only [z4] at hq
      simp -implicitDefEqProofs only [push_cast, hat, rts_length, rpv, rc, seval]
      (repeat (first | refine ⟨(by omega : _ ≤ _), ?_⟩ | refine ⟨(by omega : _ < _), ?_⟩ | refine ⟨(by simp; omega), ?_⟩ | refine ⟨(by simp; done), ?_⟩ | refine ⟨(by (unfold drawOk; kernel_rfl)), ?_⟩))
      refine callE_p f1 ?_
      simp -implicitDefEqProofs only [push_cast, rpv, rc, hq, hkt, hu, seval]
      (repeat (first | refine ⟨(by omega : _ ≤ _), ?_⟩ | refine ⟨(by omega : _ < _), ?_⟩ | refine ⟨(by simp; omega), ?_⟩ | refine ⟨(by simp; done), ?_⟩ | refine ⟨(by (unfold drawOk; kernel_rfl)), ?_⟩))
      refine ⟨⟨k + 1, r, hlt, he.symm, .inr hr⟩, by simp only; omega, ?_⟩
      (simp only [BxA.st]; exact Wk.by _ _ _ [(0,0),(1,1)] [] [] (by simp) (by simp [wkV, PV.el, PV.weak, PS.get, PS.obj, PS.lv, lkp_hit, lkp_miss, lkp_nil, lko, wkL, wkC, res1, rcs_wk, ics_wk, rc, hu]) (by simp [PS.get, PS.obj, PS.lv, lkp_hit, lkp_miss, lkp_nil, lko, wkL, wkC, PV.weak, wkL, wkC, res1, rcs_wk, ics_wk, rc, hu]) (by simp [PS.get, PS.obj, PS.lv, lkp_hit, lkp_miss, lkp_nil, lko]) (by rfl) (by rfl) (by simp [lko]) (by simp) (by simp) (by simp) (fun i hi => by rcases i with _ | _ | _ | _ | _ | _ | i <;> first | rfl | (exfalso; omega)))
    · rw [decide_eq_false hz] at hq
      have p := cnt_pos (hc.resolve_left hz)
      have q := cnt_pos hr
      have w1 : IntKind.i64.wrap (c.x + c.w) = c.x + c.w := wrap_i64_id (by omega) (by omega)
      have w2 : IntKind.i64.wrap (r.x + r.w) = r.x + r.w := wrap_i64_id (by omega) (by omega)
      have w3 : IntKind.i64.wrap (c.y + c.h) = c.y + c.h := wrap_i64_id (by omega) (by omega)
      have w4 : IntKind.i64.wrap (r.y + r.h) = r.y + r.h := wrap_i64_id (by omega) (by omega)
      have f2 := between_fs (min c.x r.x) (min c.y r.y) (max (c.x + c.w) (r.x + r.w)) (max (c.y + c.h) (r.y + r.h)) (by omega) (by omega) (by omega) (by omega)
      rw [show btw (min c.x r.x) (min c.y r.y) (max (c.x + c.w) (r.x + r.w)) (max (c.y + c.h) (r.y + r.h)) = bxS c r from (if_neg hz).symm] at f2
      generalize bxS c r = d at *
      simp only [z4] at hq
      simp -implicitDefEqProofs only [push_cast, hat, rts_length, rpv, rc, seval]
      (repeat (first | refine ⟨(by omega : _ ≤ _), ?_⟩ | refine ⟨(by omega : _ < _), ?_⟩ | refine ⟨(by simp; omega), ?_⟩ | refine ⟨(by simp; done), ?_⟩ | refine ⟨(by (unfold drawOk; kernel_rfl)), ?_⟩))
      refine callE_p f1 ?_
      simp -implicitDefEqProofs only [push_cast, rpv, rc, hq, hkt, hu, w1, w2, w3, w4, mx_if, mi_if, seval]
      (repeat (first | refine ⟨(by omega : _ ≤ _), ?_⟩ | refine ⟨(by omega : _ < _), ?_⟩ | refine ⟨(by simp; omega), ?_⟩ | refine ⟨(by simp; done), ?_⟩ | refine ⟨(by (unfold drawOk; kernel_rfl)), ?_⟩))
      refine callE_p f2 ?_
      simp -implicitDefEqProofs only [push_cast, rpv, rc, hu, seval]
      (repeat (first | refine ⟨(by omega : _ ≤ _), ?_⟩ | refine ⟨(by omega : _ < _), ?_⟩ | refine ⟨(by simp; omega), ?_⟩ | refine ⟨(by simp; done), ?_⟩ | refine ⟨(by (unfold drawOk; kernel_rfl)), ?_⟩))
      refine ⟨⟨k + 1, d, hlt, he.symm, .inr hbc⟩, by simp only; omega, ?_⟩
      (simp only [BxA.st]; exact Wk.by _ _ _ [(0,0),(1,1)] [] [] (by simp) (by simp [wkV, PV.el, PV.weak, PS.get, PS.obj, PS.lv, lkp_hit, lkp_miss, lkp_nil, lko, wkL, wkC, res1, rcs_wk, ics_wk, rc, hu]) (by simp [PS.get, PS.obj, PS.lv, lkp_hit, lkp_miss, lkp_nil, lko, wkL, wkC, PV.weak, wkL, wkC, res1, rcs_wk, ics_wk, rc, hu]) (by simp [PS.get, PS.obj, PS.lv, lkp_hit, lkp_miss, lkp_nil, lko]) (by rfl) (by rfl) (by simp [lko]) (by simp) (by simp) (by simp) (fun i hi => by rcases i with _ | _ | _ | _ | _ | _ | i <;> first | rfl | (exfalso; omega)))
  · have hke : k = L.length := by simp at g1; omega
    subst hke
    rw [List.take_length] at e
    rw [show boxL L = c from e.symm]
    simp -implicitDefEqProofs only [push_cast, rc, rpv, seval]
    (repeat (first | refine ⟨(by omega : _ ≤ _), ?_⟩ | refine ⟨(by omega : _ < _), ?_⟩ | refine ⟨(by simp; omega), ?_⟩ | refine ⟨(by simp; done), ?_⟩ | refine ⟨(by (unfold drawOk; kernel_rfl)), ?_⟩))
    all_goals (first | done | rfl | exact ⟨_, rfl, by simp [wkL, res2, res1, PV.weak, PV.el]⟩ | (simp [wkL, res2, res1, PV.weak, PV.el]; done))
end Go.Proofs.Sh

/- Package band: the box around a region (walk). -/
set_option maxRecDepth 100000
set_option linter.unusedSimpArgs false
set_option linter.unusedVariables false
namespace Go.Proofs.Sh
open Go.Pv
open Rg
theorem gbox0_fs : Fsp Try.prog 22 [] 0 [rgn []] [] 0 (rpv z4) := by
  (refine Fsp.ofs (nx := 0) mixed Try.func22 rfl (by simp [Try.f22]) ?_; simp -implicitDefEqProofs only [push_cast, Try.f22, rgn, rts, List.map_nil, rpv, rc, z4, seval])
  (repeat (first | refine ⟨(by omega : _ ≤ _), ?_⟩ | refine ⟨(by omega : _ < _), ?_⟩ | refine ⟨by (unfold drawOk; kernel_rfl), ?_⟩ | refine ⟨(by simp; done), ?_⟩ | refine ⟨(by simp; omega), ?_⟩))
  all_goals (first | done | rfl | exact ⟨_, rfl, by simp [wkL, res2, res1, PV.weak, PV.el]⟩ | (simp [wkL, res2, res1, PV.weak, PV.el]; done))
structure GbA (L : List Rt) (f : Rt) where
  k : Nat
  l : Int
  r : Int
  hk : k ≤ L.length
  el : l = (L.take k).foldl (fun a s => min a s.x) f.x
  er : r = (L.take k).foldl (fun a s => max a (s.x + s.w)) (f.x + f.w)
  bl : -1048576 ≤ l ∧ l ≤ 1048576
  br : -1048576 ≤ r ∧ r ≤ 1048576
def GbA.st {L : List Rt} {f : Rt} (g : Rt) (a : GbA L f) : PS := { n := 67, env := [(36, .int .i64 a.k), (35, .int .i64 L.length), (34, .sl 4 (rts L)), (6, .int .i64 a.r), (5, .int .i64 a.l), (4, .box 4 0), (3, .box 3 0), (2, .box 2 0)], objs := [(2, some (rc z4)), (3, some (rc f)), (4, some (rc g))], live := [], nxt := 60 }
set_option maxHeartbeats 2000000 in
theorem gbox_fs (L : List Rt) (bL : Bnd L) (hl : L.length ≤ 1000000000) (m : Nat) (hm : L.length = m + 1) : Fsp Try.prog 22 [] 0 [rgn L] [] 0 (rpv ⟨L.foldl (fun a s => min a s.x) (L[0]'(by omega)).x, (L[0]'(by omega)).y, L.foldl (fun a s => max a (s.x + s.w)) ((L[0]'(by omega)).x + (L[0]'(by omega)).w) - L.foldl (fun a s => min a s.x) (L[0]'(by omega)).x, (L[m]'(by omega)).y + (L[m]'(by omega)).h - (L[0]'(by omega)).y⟩) := by
  have h0 : 0 < L.length := by omega
  have hml : m < L.length := by omega
  have a1 := rt_at h0
  have a2 := rt_at hml
  have p := cnt_pos (bL _ (List.getElem_mem h0))
  have q := cnt_pos (bL _ (List.getElem_mem hml))
  generalize L[0] = f at *
  generalize L[m] = g at *
  have c0 : ((L.length : Int) == 0) = false := beq_eq_false_iff_ne.2 (by omega)
  have wl : IntKind.i64.wrap ((L.length : Int) - 1) = m := by rw [show (L.length : Int) - 1 = ((m : Nat) : Int) by omega]; exact wrap_i64_id (by omega) (by omega)
  have w1 : IntKind.i64.wrap (f.x + f.w) = f.x + f.w := wrap_i64_id (by omega) (by omega)
  (refine Fsp.ofs (nx := 0) mixed Try.func22 rfl (by simp [Try.f22]) ?_; simp -implicitDefEqProofs only [push_cast, Try.f22, rgn, rts_length, c0, wl, a1, a2, rpv, rc, w1, seval])
  (repeat (first | refine ⟨(by omega : _ ≤ _), ?_⟩ | refine ⟨(by omega : _ < _), ?_⟩ | refine ⟨(by simp; omega), ?_⟩ | refine ⟨(by simp; done), ?_⟩ | refine ⟨(by (unfold drawOk; kernel_rfl)), ?_⟩))
  refine loopC_of (α := GbA L f) (GbA.st g) (fun a => L.length - a.k) ⟨0, f.x, f.x + f.w, Nat.zero_le _, rfl, rfl, by omega, by omega⟩ ?_ ?_
  · (simp only [GbA.st]; exact Wk.by _ _ _ [(2,4),(3,72),(4,76)] [] [] (by simp) (by simp [wkV, PV.el, PV.weak, PS.get, PS.obj, PS.lv, lkp_hit, lkp_miss, lkp_nil, lko, wkL, wkC, res1, rcs_wk, ics_wk, rc, z4]) (by simp [PS.get, PS.obj, PS.lv, lkp_hit, lkp_miss, lkp_nil, lko, wkL, wkC, PV.weak, wkL, wkC, res1, rcs_wk, ics_wk, rc, z4]) (by simp [PS.get, PS.obj, PS.lv, lkp_hit, lkp_miss, lkp_nil, lko]) (by rfl) (by rfl) (by simp [lko]) (by simp) (by simp) (by simp) (fun i hi => by rcases i with _ | _ | _ | _ | _ | _ | i <;> first | rfl | (exfalso; omega)))
  rintro ⟨k, l, r, hk, el, er, bl, br⟩
  simp only [GbA.st]
  simp -implicitDefEqProofs only [push_cast, seval]
  refine condC_split (fun g1 => ?_) (fun g1 => ?_)
  · have hlt : k < L.length := by simp at g1; omega
    have hu := wr_up (k := k) (by omega)
    have hat := rt_at hlt
    have hr := cnt_pos (bL _ (List.getElem_mem hlt))
    have e1 : (L.take (k + 1)).foldl (fun a s => min a s.x) f.x = min l L[k].x := by rw [List.take_succ_eq_append_getElem hlt, List.foldl_append, ← el]; rfl
    have e2 : (L.take (k + 1)).foldl (fun a s => max a (s.x + s.w)) (f.x + f.w) = max r (L[k].x + L[k].w) := by rw [List.take_succ_eq_append_getElem hlt, List.foldl_append, ← er]; rfl
    generalize L[k] = s at *
    have w2 : IntKind.i64.wrap (s.x + s.w) = s.x + s.w := wrap_i64_id (by omega) (by omega)
    simp -implicitDefEqProofs only [push_cast, hat, rts_length, rpv, rc, w2, hu, mx_if, mi_if, seval]
    (repeat (first | refine ⟨(by omega : _ ≤ _), ?_⟩ | refine ⟨(by omega : _ < _), ?_⟩ | refine ⟨(by simp; omega), ?_⟩ | refine ⟨(by simp; done), ?_⟩ | refine ⟨(by (unfold drawOk; kernel_rfl)), ?_⟩))
    refine ⟨⟨k + 1, min l s.x, max r (s.x + s.w), hlt, e1.symm, e2.symm, by omega, by omega⟩, by simp only; omega, ?_⟩
    (simp only [GbA.st]; exact Wk.by _ _ _ [(2,2),(3,3),(4,4)] [] [] (by simp) (by simp [wkV, PV.el, PV.weak, PS.get, PS.obj, PS.lv, lkp_hit, lkp_miss, lkp_nil, lko, wkL, wkC, res1, rcs_wk, ics_wk, rc, hu, z4]) (by simp [PS.get, PS.obj, PS.lv, lkp_hit, lkp_miss, lkp_nil, lko, wkL, wkC, PV.weak, wkL, wkC, res1, rcs_wk, ics_wk, rc, hu, z4]) (by simp [PS.get, PS.obj, PS.lv, lkp_hit, lkp_miss, lkp_nil, lko]) (by rfl) (by rfl) (by simp [lko]) (by simp) (by simp) (by simp) (fun i hi => by rcases i with _ | _ | _ | _ | _ | _ | i <;> first | rfl | (exfalso; omega)))
  · have hke : k = L.length := by simp at g1; omega
    subst hke
    rw [List.take_length] at el er
    rw [← el, ← er]
    have w3 : IntKind.i64.wrap (r - l) = r - l := wrap_i64_id (by omega) (by omega)
    have w4 : IntKind.i64.wrap (g.y + g.h) = g.y + g.h := wrap_i64_id (by omega) (by omega)
    have w5 : IntKind.i64.wrap (g.y + g.h - f.y) = g.y + g.h - f.y := wrap_i64_id (by omega) (by omega)
    simp -implicitDefEqProofs only [push_cast, rc, rpv, w3, w4, w5, z4, seval]
    (repeat (first | refine ⟨(by omega : _ ≤ _), ?_⟩ | refine ⟨(by omega : _ < _), ?_⟩ | refine ⟨(by simp; omega), ?_⟩ | refine ⟨(by simp; done), ?_⟩ | refine ⟨(by (unfold drawOk; kernel_rfl)), ?_⟩))
    all_goals (first | done | rfl | exact ⟨_, rfl, by simp [wkL, res2, res1, PV.weak, PV.el]⟩ | (simp [wkL, res2, res1, PV.weak, PV.el]; done))
end Go.Proofs.Sh

/- TopSets: the example at its beginning (setsAwake). -/
set_option maxRecDepth 100000
set_option linter.unusedSimpArgs false
set_option linter.unusedVariables false
namespace Go.Proofs.Sh
open Go.Pv
open Rg
theorem bits12 : bitsL (lB [⟨0, 0, 1, 2⟩]) 1 2 = [1, 1] := by decide +kernel
theorem sawake_fs : Fsp Try.prog 4 [] 0 [] [] 0 (.bool true) := by
  have k1 : cntB ⟨0, 0, 1, 2⟩ = true := by decide
  have k2 : cntB ⟨0, 0, 2, 2⟩ = true := by decide
  have t1 := of_on ⟨0, 0, 1, 2⟩ (cnt_in k1)
  rw [on_one k1] at t1
  have t2 := bits_fs [⟨0, 0, 1, 2⟩] 2 2 (by decide) (by decide) (one_reg k1) (one_bnd k1) (by simp)
  have e : mt [⟨0, 0, 1, 2⟩] (on ⟨0, 0, 2, 2⟩) = [⟨0, 0, 1, 2⟩] := by
    rw [on_one k2]
    refine (mt_reg (one_reg k1) (one_reg k2) (one_bnd k1) (one_bnd k2)).ext (one_reg k1) fun p q => ?_
    rw [mt_has (one_reg k1) (one_reg k2) (one_bnd k1) (one_bnd k2)]
    refine ⟨fun h => h.1, fun h => ⟨h, ?_⟩⟩
    obtain ⟨r, hr, a1, a2, a3, a4⟩ := h
    rw [List.mem_singleton] at hr
    subst hr
    simp only at a1 a2 a3 a4
    exact ⟨_, List.mem_singleton.2 rfl, by simp only; omega, by simp only; omega, by simp only; omega, by simp only; omega⟩
  have e2 : bitsL (lB (mt [⟨0, 0, 1, 2⟩] (on ⟨0, 0, ((2 : Nat) : Int), ((2 : Nat) : Int)⟩))) ((2 + 7) / 8) ((2 + 7) / 8 * 2) = [1, 1] := by
    rw [show (⟨0, 0, ((2 : Nat) : Int), ((2 : Nat) : Int)⟩ : Rt) = ⟨0, 0, 2, 2⟩ from rfl, e]
    exact bits12
  rw [e2] at t2
  have t2 : Fsp Try.prog 7 [] 0 [rgn [⟨0, 0, 1, 2⟩], .int .i64 2, .int .i64 2] [] 0 (.tup [.str [1, 1], .int .i64 0]) := t2
  (refine Fsp.ofs (nx := 0) mixed Try.func4 rfl (by simp [Try.f4]) ?_; simp -implicitDefEqProofs only [push_cast, Try.f4, seval])
  refine callE_p t1 ?_
  simp -implicitDefEqProofs only [push_cast, rgn, rts, List.map_cons, List.map_nil, rpv, rc, seval]
  refine callE_p t2 ?_
  simp -implicitDefEqProofs only [push_cast, seval]
  all_goals (first | done | rfl | exact ⟨_, rfl, by simp [wkL, res2, res1, PV.weak, PV.el]⟩ | (simp [wkL, res2, res1, PV.weak, PV.el]; done))
end Go.Proofs.Sh

/- Regions: a rectangle's places are counted; the box around. Plain. -/
set_option maxRecDepth 100000
set_option linter.unusedSimpArgs false
set_option linter.unusedVariables false
namespace Go.Proofs.Sh
open Go.Pv
open Rg
def Srt (L : List Rt) : Prop := L.Pairwise fun r s => r.y ≤ s.y ∧ DisR r s
theorem nw_pw : ∀ {s : List (Int × Int)} {y z : Int}, SpOk s → Srt (nw s y z)
  | [], _, _, _ => List.Pairwise.nil
  | t :: s, y, z, h => by
    refine List.Pairwise.cons (fun r hr => ?_) (nw_pw h.2.2)
    obtain ⟨u, hu, rfl⟩ := List.mem_map.1 hr
    have := h.2.1 u hu
    exact ⟨Int.le_refl _, fun p q ⟨_, a, _, _⟩ ⟨c, _, _, _⟩ => by simp only at a c; omega⟩
theorem flat_pw : ∀ {B : List Bd}, BdOk B → Srt (flat B)
  | [], _ => List.Pairwise.nil
  | b :: B, h => by
    rw [flat_cons]
    refine List.pairwise_append.2 ⟨nw_pw h.2.2.1, flat_pw h.2.2.2.2.2, fun r hr s hs => ?_⟩
    have h1 := flat_y h.2.2.2.1 s hs
    obtain ⟨t, ht, rfl⟩ := List.mem_map.1 hr
    have := h.1
    exact ⟨by simp only; omega, fun p q ⟨_, _, _, a⟩ ⟨_, _, c, _⟩ => by simp only at a; omega⟩
theorem Reg.srt {L : List Rt} (h : Reg L) : Srt L := by obtain ⟨B, hB, rfl⟩ := h; exact flat_pw hB
/-- The ends below go down. -/
theorem nw_pz : ∀ {s : List (Int × Int)} {y z : Int}, (nw s y z).Pairwise fun r t => r.y + r.h ≤ t.y + t.h
  | [], _, _ => List.Pairwise.nil
  | t :: s, y, z => List.Pairwise.cons (fun r hr => by
      obtain ⟨u, hu, rfl⟩ := List.mem_map.1 hr
      exact Int.le_refl _) nw_pz
theorem flat_pz : ∀ {B : List Bd}, BdOk B → (flat B).Pairwise fun r t => r.y + r.h ≤ t.y + t.h
  | [], _ => List.Pairwise.nil
  | b :: B, h => by
    rw [flat_cons]
    refine List.pairwise_append.2 ⟨nw_pz, flat_pz h.2.2.2.2.2, fun r hr s hs => ?_⟩
    have h1 := flat_y h.2.2.2.1 s hs
    have h2 := flat_pos h.2.2.2.2.2 s hs
    obtain ⟨t, ht, rfl⟩ := List.mem_map.1 hr
    simp only
    omega
theorem bx_fold : ∀ (L : List Rt) (c : Rt), cntB c = true → Bnd L → L.foldl bxS c = ⟨L.foldl (fun a s => min a s.x) c.x, L.foldl (fun a s => min a s.y) c.y, L.foldl (fun a s => max a (s.x + s.w)) (c.x + c.w) - L.foldl (fun a s => min a s.x) c.x, L.foldl (fun a s => max a (s.y + s.h)) (c.y + c.h) - L.foldl (fun a s => min a s.y) c.y⟩
  | [], c, _, _ => by
    obtain ⟨x, y, w, h⟩ := c
    simp only [List.foldl_nil]
    rw [show x + w - x = w by omega, show y + h - y = h by omega]
  | r :: L, c, hc, hL => by
    have p := cnt_pos hc
    have q := cnt_pos (hL r List.mem_cons_self)
    have hne : c ≠ z4 := fun e => by rw [e] at p; exact absurd p.1 (by decide)
    have e : bxS c r = ⟨min c.x r.x, min c.y r.y, max (c.x + c.w) (r.x + r.w) - min c.x r.x, max (c.y + c.h) (r.y + r.h) - min c.y r.y⟩ := by
      unfold bxS
      rw [if_neg hne]
      exact if_neg (by omega)
    have ih := bx_fold L (bxS c r) (bxS_cnt (.inr hc) (hL r List.mem_cons_self)) fun s hs => hL s (List.mem_cons_of_mem _ hs)
    rw [List.foldl_cons, ih, e]
    simp only [List.foldl_cons]
    rw [show min c.x r.x + (max (c.x + c.w) (r.x + r.w) - min c.x r.x) = max (c.x + c.w) (r.x + r.w) by omega, show min c.y r.y + (max (c.y + c.h) (r.y + r.h) - min c.y r.y) = max (c.y + c.h) (r.y + r.h) by omega]
theorem fold_min {f : Rt → Int} : ∀ {L : List Rt} {a : Int}, (∀ r ∈ L, a ≤ f r) → L.foldl (fun a s => min a (f s)) a = a
  | [], _, _ => rfl
  | r :: L, a, h => by
    rw [List.foldl_cons, show min a (f r) = a by have := h r List.mem_cons_self; omega]
    exact fold_min fun s hs => h s (List.mem_cons_of_mem _ hs)
theorem fold_max {f : Rt → Int} : ∀ {L : List Rt} {a : Int}, L.foldl (fun a s => max a (f s)) a = a ∨ ∃ r ∈ L, L.foldl (fun a s => max a (f s)) a = f r
  | [], _ => .inl rfl
  | r :: L, a => by
    rw [List.foldl_cons]
    rcases fold_max (f := f) (L := L) (a := max a (f r)) with h | ⟨s, hs, h⟩
    · rw [h]
      rcases (by omega : max a (f r) = a ∨ max a (f r) = f r) with e | e
      · exact .inl e
      · exact .inr ⟨r, List.mem_cons_self, e⟩
    · exact .inr ⟨s, List.mem_cons_of_mem _ hs, h⟩
end Go.Proofs.Sh

/- Regions: both boxes are one. Plain. -/
set_option maxRecDepth 100000
set_option linter.unusedSimpArgs false
set_option linter.unusedVariables false
namespace Go.Proofs.Sh
open Go.Pv
open Rg
theorem fold_ge {f : Rt → Int} : ∀ {L : List Rt} {a : Int}, a ≤ L.foldl (fun a s => max a (f s)) a ∧ ∀ r ∈ L, f r ≤ L.foldl (fun a s => max a (f s)) a
  | [], a => ⟨Int.le_refl _, fun r h => by cases h⟩
  | r :: L, a => by
    obtain ⟨h1, h2⟩ := fold_ge (f := f) (L := L) (a := max a (f r))
    rw [List.foldl_cons]
    refine ⟨by omega, fun s hs => ?_⟩
    rcases List.mem_cons.1 hs with rfl | hs
    · omega
    · exact h2 s hs
theorem Reg.pz {L : List Rt} (h : Reg L) : L.Pairwise fun r t => r.y + r.h ≤ t.y + t.h := by obtain ⟨B, hB, rfl⟩ := h; exact flat_pz hB
theorem box_same {L : List Rt} (hL : Reg L) (bL : Bnd L) (m : Nat) (hm : L.length = m + 1) : boxL L = ⟨L.foldl (fun a s => min a s.x) (L[0]'(by omega)).x, (L[0]'(by omega)).y, L.foldl (fun a s => max a (s.x + s.w)) ((L[0]'(by omega)).x + (L[0]'(by omega)).w) - L.foldl (fun a s => min a s.x) (L[0]'(by omega)).x, (L[m]'(by omega)).y + (L[m]'(by omega)).h - (L[0]'(by omega)).y⟩ := by
  have hs := hL.srt
  have hz := hL.pz
  cases L with
  | nil => simp at hm
  | cons f K =>
    have hf := bL f List.mem_cons_self
    have p := cnt_pos hf
    have e0 : boxL (f :: K) = K.foldl bxS f := by unfold boxL; rw [List.foldl_cons, show bxS z4 f = f from if_pos rfl]
    rw [e0, bx_fold K f hf fun s h => bL s (List.mem_cons_of_mem _ h)]
    simp only [List.foldl_cons, List.getElem_cons_zero]
    rw [show min f.x f.x = f.x by omega, show max (f.x + f.w) (f.x + f.w) = f.x + f.w by omega]
    have e1 : K.foldl (fun a s => min a s.y) f.y = f.y := fold_min (f := fun s => s.y) fun r hr => ((List.pairwise_cons.1 hs).1 r hr).1
    have e2 : K.foldl (fun a s => max a (s.y + s.h)) (f.y + f.h) = ((f :: K)[m]'(by omega)).y + ((f :: K)[m]'(by omega)).h := by
      have hle : ∀ r ∈ f :: K, r.y + r.h ≤ ((f :: K)[m]'(by omega)).y + ((f :: K)[m]'(by omega)).h := fun r hr => by
        obtain ⟨i, hi, rfl⟩ := List.mem_iff_getElem.1 hr
        rcases (by omega : i < m ∨ i = m) with h | h
        · exact (List.pairwise_iff_getElem.1 hz) i m hi (by omega) h
        · subst h; exact Int.le_refl _
      obtain ⟨g1, g2⟩ := fold_ge (f := fun s : Rt => s.y + s.h) (L := K) (a := f.y + f.h)
      have hin : ∃ r ∈ f :: K, K.foldl (fun a s => max a (s.y + s.h)) (f.y + f.h) = r.y + r.h := by
        rcases fold_max (f := fun s : Rt => s.y + s.h) (L := K) (a := f.y + f.h) with h | ⟨r, hr, h⟩
        · exact ⟨f, List.mem_cons_self, h⟩
        · exact ⟨r, List.mem_cons_of_mem _ hr, h⟩
      obtain ⟨r, hr, h⟩ := hin
      have h1 := hle r hr
      have h2 : ((f :: K)[m]'(by omega)).y + ((f :: K)[m]'(by omega)).h ≤ K.foldl (fun a s => max a (s.y + s.h)) (f.y + f.h) := by
        rcases List.mem_cons.1 (List.getElem_mem (by omega : m < (f :: K).length)) with e | e
        · rw [e]; exact g1
        · exact g2 _ e
      omega
    rw [e1, e2]
end Go.Proofs.Sh

/- TopSets: bits together are the bits of what is together. Plain. -/
set_option maxRecDepth 100000
set_option linter.unusedSimpArgs false
set_option linter.unusedVariables false
namespace Go.Proofs.Sh
open Go.Pv
open Rg
def kfS (k : Nat) (a b : Bool) : Bool := match k with
  | 0 => a || b
  | 1 => a && b
  | 2 => a && !b
  | _ => a != b
theorem opS_bit (k : Nat) (a b : UInt8) {j : Nat} (h : j < 8) : bitB (opS k a b) j = kfS k (bitB a j) (bitB b j) := by
  rcases k with _ | _ | _ | k
  · exact bitB_or a b j
  · exact bitB_and a b j
  · show bitB (a &&& ~~~b) j = _
    rw [bitB_and, bitB_not b j h]
    rfl
  · exact bitB_xor a b j
theorem bits_zip (k : Nat) (S T : Int → Int → Bool) (st n : Nat) : List.zipWith (opS k) (bitsL S st n) (bitsL T st n) = bitsL (fun p q => kfS k (S p q) (T p q)) st n := by
  have h1 := bitsL_bts S st n
  have h2 := bitsL_bts T st n
  refine Bts.eq ⟨by rw [List.length_zipWith, h1.1, h2.1, Nat.min_self], fun i hi j hj => ?_⟩
  rw [List.length_zipWith, h1.1, h2.1, Nat.min_self] at hi
  rw [List.getElem_zipWith, opS_bit k _ _ hj, h1.2 i (by rw [h1.1]; exact hi) j hj, h2.2 i (by rw [h2.1]; exact hi) j hj]
end Go.Proofs.Sh

/- TopSets: the four regions, as sets of places; what they hold is told by their bits. Plain. -/
set_option maxRecDepth 100000
set_option linter.unusedSimpArgs false
set_option linter.unusedVariables false
namespace Go.Proofs.Sh
open Go.Pv
open Rg
noncomputable def four (k : Nat) (A B : List Rt) : List Rt := match k with
  | 0 => un A B
  | 1 => mt A B
  | 2 => mn A B
  | _ => xr A B
/-- All places lie in a window of 28 by 28. -/
def In28 (L : List Rt) : Prop := ∀ p q, hasL L p q → 0 ≤ p ∧ p < 28 ∧ 0 ≤ q ∧ q < 28
/-- A region in that window. -/
structure R28 (L : List Rt) : Prop where
  r : Reg L
  b : Bnd L
  i : In28 L
theorem R28.len {L : List Rt} (h : R28 L) : L.length ≤ 784 := by
  have := h.r.len h.i (by decide) (by decide)
  have e : ((28 : Int) - 0) * (28 - 0) = 784 := by decide
  omega
/-- The region of small rectangles. -/
noncomputable def smR (X : List Sm) : List Rt := Rg.cn (hasL (cntL (X.map Sm.rt)))
theorem smR_28 (X : List Sm) : R28 (smR X) := ⟨of_reg _, of_bnd _, fun p q h => by
  obtain ⟨r, hr, h1, h2, h3, h4⟩ := (of_has _ p q).1 h
  obtain ⟨s, _, rfl⟩ := List.mem_map.1 (List.mem_filter.1 hr).1
  simp only [Sm.rt] at h1 h2 h3 h4
  omega⟩
theorem sm_in (s : Sm) : RtIn s.rt := by
  have b1 := s.x.toNat_lt
  have b2 := s.y.toNat_lt
  have b3 := s.w.toNat_lt
  have b4 := s.h.toNat_lt
  unfold RtIn In64 Sm.rt
  simp only
  omega
section
variable {A B : List Rt} (hA : R28 A) (hB : R28 B)
include hA hB
theorem four_has (k : Nat) (p q : Int) : hasL (four k A B) p q ↔ kfS k (lB A p q) (lB B p q) = true := by
  have a := lB_iff A p q
  have b := lB_iff B p q
  rcases k with _ | _ | _ | k
  · show hasL (un A B) p q ↔ _
    rw [un_has hA.b hB.b, ← a, ← b]
    show _ ↔ (lB A p q || lB B p q) = true
    rw [Bool.or_eq_true]
  · show hasL (mt A B) p q ↔ _
    rw [mt_has hA.r hB.r hA.b hB.b, ← a, ← b]
    show _ ↔ (lB A p q && lB B p q) = true
    rw [Bool.and_eq_true]
  · show hasL (mn A B) p q ↔ _
    rw [mn_has hA.r hB.r hA.b hB.b, ← a, ← b]
    show _ ↔ (lB A p q && !lB B p q) = true
    cases lB A p q <;> cases lB B p q <;> simp
  · show hasL (xr A B) p q ↔ _
    rw [xr_has hA.r hB.r hA.b hB.b, ← a, ← b]
    show _ ↔ (lB A p q != lB B p q) = true
    cases lB A p q <;> cases lB B p q <;> simp
theorem four_28 (k : Nat) : R28 (four k A B) := by
  refine ⟨?_, ?_, fun p q h => ?_⟩
  · rcases k with _ | _ | _ | k
    · exact of_reg _
    · exact mt_reg hA.r hB.r hA.b hB.b
    · exact mn_reg hA.r hB.r hA.b hB.b
    · exact jn_reg hA.r hB.r hA.b hB.b rfl
  · rcases k with _ | _ | _ | k
    · exact of_bnd _
    · exact mt_bnd hA.r hB.r hA.b hB.b
    · exact mn_bnd hA.r hB.r hA.b hB.b
    · exact jn_bnd hA.r hB.r hA.b hB.b rfl
  · have h := (four_has hA hB k p q).1 h
    have a := lB_iff A p q
    have b := lB_iff B p q
    cases ca : lB A p q with
    | true => exact hA.i p q (a.1 ca)
    | false =>
      cases cb : lB B p q with
      | true => exact hB.i p q (b.1 cb)
      | false =>
        rw [ca, cb] at h
        rcases k with _ | _ | _ | k <;> cases h
theorem four_bits (k : Nat) : List.zipWith (opS k) (bitsL (lB A) 4 112) (bitsL (lB B) 4 112) = bitsL (lB (four k A B)) 4 112 := by
  rw [bits_zip]
  congr 1
  funext p q
  rw [Bool.eq_iff_iff, lB_iff, four_has hA hB]
end
theorem R28.win {L : List Rt} (h : R28 L) : mt L (on ⟨0, 0, ((28 : Nat) : Int), ((28 : Nat) : Int)⟩) = L :=
  (mt_reg h.r (of_reg _) h.b (of_bnd _)).ext h.r fun p q => by
    have e : hasL (Rg.cn (hasL (cntL [(⟨0, 0, ((28 : Nat) : Int), ((28 : Nat) : Int)⟩ : Rt)]))) p q ↔ _ := on_has ⟨0, 0, ((28 : Nat) : Int), ((28 : Nat) : Int)⟩ p q
    rw [mt_has h.r (of_reg _) h.b (of_bnd _), e]
    refine ⟨fun h => h.1, fun hh => ⟨hh, by decide, ?_⟩⟩
    have := h.i p q hh
    unfold Rt.has
    simp only
    omega
/-- The box around has all places. -/
theorem bxS_has {c r : Rt} (hc : c = z4 ∨ cntB c = true) (hr : cntB r = true) (p q : Int) (h : c.has p q ∨ r.has p q) : (bxS c r).has p q := by
  unfold bxS
  split
  · rename_i e
    subst e
    rcases h with h | h
    · exfalso
      obtain ⟨a, b, _, _⟩ := h
      simp only [z4] at a b
      omega
    · exact h
  · rename_i e
    have p1 := cnt_pos (hc.resolve_left e)
    have p2 := cnt_pos hr
    rw [show btw (min c.x r.x) (min c.y r.y) (max (c.x + c.w) (r.x + r.w)) (max (c.y + c.h) (r.y + r.h)) = ⟨min c.x r.x, min c.y r.y, max (c.x + c.w) (r.x + r.w) - min c.x r.x, max (c.y + c.h) (r.y + r.h) - min c.y r.y⟩ from if_neg (by omega)]
    unfold Rt.has at *
    simp only
    omega
theorem fold_has (p q : Int) : ∀ (L : List Rt) (c : Rt), (c = z4 ∨ cntB c = true) → Bnd L → (c.has p q ∨ hasL L p q) → (L.foldl bxS c).has p q
  | [], c, _, _, h => h.resolve_right (hasL_nil p q)
  | r :: L, c, hc, hb, h => by
    have hr := hb r List.mem_cons_self
    rw [List.foldl_cons]
    refine fold_has p q L _ (.inr (bxS_cnt hc hr)) (fun s hs => hb s (List.mem_cons_of_mem _ hs)) ?_
    rcases h with h | ⟨s, hs, h⟩
    · exact .inl (bxS_has hc hr p q (.inl h))
    · rcases List.mem_cons.1 hs with rfl | hs
      · exact .inl (bxS_has hc hr p q (.inr h))
      · exact .inr ⟨s, hs, h⟩
theorem box_has {L : List Rt} (hb : Bnd L) (p q : Int) (h : hasL L p q) : (boxL L).has p q := fold_has p q L z4 (.inl rfl) hb (.inr h)
theorem fold_cnt : ∀ (L : List Rt) (c : Rt), cntB c = true → Bnd L → cntB (L.foldl bxS c) = true
  | [], _, hc, _ => hc
  | r :: L, c, hc, hb => by
    rw [List.foldl_cons]
    exact fold_cnt L _ (bxS_cnt (.inr hc) (hb r List.mem_cons_self)) fun s hs => hb s (List.mem_cons_of_mem _ hs)
theorem box_cnt {L : List Rt} (hb : Bnd L) : boxL L = z4 ∧ L = [] ∨ cntB (boxL L) = true := by
  cases L with
  | nil => exact .inl ⟨rfl, rfl⟩
  | cons r L =>
    refine .inr ?_
    show cntB (L.foldl bxS (bxS z4 r)) = true
    exact fold_cnt L _ (bxS_cnt (.inl rfl) (hb r List.mem_cons_self)) fun s hs => hb s (List.mem_cons_of_mem _ hs)
theorem box_in {L : List Rt} (hb : Bnd L) : RtIn (boxL L) := by
  rcases box_cnt hb with h | h
  · rw [h.1]; exact z4_in
  · exact cnt_in h
theorem box_out {L : List Rt} (hL : Reg L) (hb : Bnd L) : mn L (on (boxL L)) = [] :=
  (mn_reg hL (of_reg _) hb (of_bnd _)).ext Reg.nil fun p q => by
    have e : hasL (Rg.cn (hasL (cntL [boxL L]))) p q ↔ _ := on_has (boxL L) p q
    rw [mn_has hL (of_reg _) hb (of_bnd _), e]
    refine ⟨fun ⟨h1, h2⟩ => ?_, fun h => absurd h (hasL_nil p q)⟩
    exfalso
    refine h2 ⟨?_, box_has hb p q h1⟩
    rcases box_cnt hb with h | h
    · rw [h.2] at h1
      exact absurd h1 (hasL_nil p q)
    · exact h
theorem area_snoc (L : List Rt) (r : Rt) : areaL (L ++ [r]) = areaL L + r.w * r.h := by
  induction L with
  | nil => simp [areaL]
  | cons s L ih => rw [List.cons_append, areaL, areaL, ih]; omega
theorem Srt.dis {L : List Rt} (h : Srt L) {i j : Nat} (hj : j < L.length) (hij : i < j) : DisR (L[i]'(by omega)) L[j] := ((List.pairwise_iff_getElem.1 h) i j (by omega) hj hij).2
end Go.Proofs.Sh

/- Package shape: a bitmap's rectangles, place by place. Plain. -/
set_option maxRecDepth 100000
set_option linter.unusedSimpArgs false
set_option linter.unusedVariables false
namespace Go.Proofs.Sh
open Go.Pv
open Rg
/-- Behind m places of a window of 32 by 28: the rectangles have just the places told. -/
structure OfI (S : Int → Int → Bool) (m : Nat) (l : List Rt) : Prop where
  has : ∀ p q, hasL l p q ↔ S p q = true ∧ q * 32 + p < m
  one : ∀ r ∈ l, r.h = 1 ∧ 1 ≤ r.w ∧ 0 ≤ r.x ∧ r.x + r.w ≤ 32 ∧ 0 ≤ r.y ∧ r.y ≤ 27
  len : l.length ≤ m
/-- A set of places that lies in a window of 28 by 28. -/
def S28 (S : Int → Int → Bool) : Prop := ∀ p q, S p q = true → 0 ≤ p ∧ p < 28 ∧ 0 ≤ q ∧ q < 28
theorem OfI.zero {S : Int → Int → Bool} (hS : S28 S) : OfI S 0 [] := ⟨fun p q => ⟨fun h => absurd h (hasL_nil p q), fun ⟨h, h2⟩ => by have := hS p q h; omega⟩, fun r h => (by cases h), Nat.le_refl _⟩
theorem OfI.skip {S : Int → Int → Bool} (hS : S28 S) {m : Nat} {l : List Rt} (h : OfI S m l) {x y : Int} (hx : 0 ≤ x ∧ x < 32) (hm : (m : Int) = y * 32 + x) (hb : S x y = false) : OfI S (m + 1) l := by
  refine ⟨fun p q => ?_, h.one, Nat.le_succ_of_le h.len⟩
  rw [h.has]
  refine ⟨fun ⟨h1, h2⟩ => ⟨h1, by omega⟩, fun ⟨h1, h2⟩ => ⟨h1, ?_⟩⟩
  have := hS p q h1
  false_or_by_contra
  have e1 : p = x := by omega
  have e2 : q = y := by omega
  rw [e1, e2, hb] at h1
  cases h1
theorem OfI.add {S : Int → Int → Bool} (hS : S28 S) {m : Nat} {l : List Rt} (h : OfI S m l) {x y : Int} (hx : 0 ≤ x ∧ x < 32) (hy : 0 ≤ y ∧ y ≤ 27) (hm : (m : Int) = y * 32 + x) (hb : S x y = true) : OfI S (m + 1) (l ++ [⟨x, y, 1, 1⟩]) := by
  refine ⟨fun p q => ?_, fun r hr => ?_, by rw [List.length_append]; have := h.len; simp; omega⟩
  · have e : hasL (l ++ [⟨x, y, 1, 1⟩]) p q ↔ hasL l p q ∨ (p = x ∧ q = y) := by
      unfold hasL Rt.has
      simp only [List.mem_append, List.mem_singleton, or_and_right, exists_or, exists_eq_left]
      constructor
      · rintro (h | h)
        · exact .inl h
        · exact .inr (by omega)
      · rintro (h | h)
        · exact .inl h
        · exact .inr (by omega)
    rw [e, h.has]
    constructor
    · rintro (⟨h1, h2⟩ | ⟨rfl, rfl⟩)
      · exact ⟨h1, by omega⟩
      · exact ⟨hb, by omega⟩
    · rintro ⟨h1, h2⟩
      have := hS p q h1
      by_cases c : q * 32 + p < m
      · exact .inl ⟨h1, c⟩
      · exact .inr (by omega)
  · rcases List.mem_append.1 hr with hr | hr
    · exact h.one r hr
    · rw [List.mem_singleton] at hr
      subst hr
      exact ⟨rfl, Int.le_refl _, hx.1, by show x + 1 ≤ 32; omega, hy.1, hy.2⟩
theorem OfI.wide {S : Int → Int → Bool} (hS : S28 S) {m : Nat} {k : List Rt} {r : Rt} (h : OfI S m (k ++ [r])) {x y : Int} (hx : 0 ≤ x ∧ x < 32) (hm : (m : Int) = y * 32 + x) (hb : S x y = true) (hy : r.y = y) (hw : r.x + r.w = x) : OfI S (m + 1) (k ++ [⟨r.x, r.y, r.w + 1, r.h⟩]) := by
  have h1 := h.one r (by simp)
  refine ⟨fun p q => ?_, fun s hs => ?_, by have := h.len; rw [List.length_append] at *; simp at *; omega⟩
  · have e : hasL (k ++ [⟨r.x, r.y, r.w + 1, r.h⟩]) p q ↔ hasL (k ++ [r]) p q ∨ (p = x ∧ q = y) := by
      unfold hasL Rt.has
      simp only [List.mem_append, List.mem_singleton, or_and_right, exists_or, exists_eq_left]
      rw [or_assoc]
      refine or_congr Iff.rfl ?_
      omega
    rw [e, h.has]
    constructor
    · rintro (⟨h1, h2⟩ | ⟨rfl, rfl⟩)
      · exact ⟨h1, by omega⟩
      · exact ⟨hb, by omega⟩
    · rintro ⟨h1, h2⟩
      have := hS p q h1
      by_cases c : q * 32 + p < m
      · exact .inl ⟨h1, c⟩
      · exact .inr (by omega)
  · rcases List.mem_append.1 hs with hs | hs
    · exact h.one s (by simp [hs])
    · rw [List.mem_singleton] at hs
      subst hs
      simp only
      omega
theorem OfI.bnd {S : Int → Int → Bool} {m : Nat} {l : List Rt} (h : OfI S m l) : Bnd l := fun r hr => by
  have := h.one r hr
  unfold cntB
  rw [Bool.and_eq_true, fit_iff, fit_iff]
  omega
/-- What is told of all places is the region. -/
theorem OfI.all {L l : List Rt} (hL : R28 L) (h : OfI (lB L) 896 l) : Rg.cn (hasL (cntL l)) = L := by
  rw [show cntL l = l from List.filter_eq_self.2 fun r hr => h.bnd r hr]
  refine (Reg.of (Pos.of h.bnd)).ext hL.r fun p q => ?_
  rw [cn_has (Rep.of (Pos.of h.bnd)), h.has, lB_iff]
  refine ⟨fun h => h.1, fun h => ⟨h, ?_⟩⟩
  have := hL.i p q h
  omega
theorem R28.s {L : List Rt} (h : R28 L) : S28 (lB L) := fun p q e => h.i p q ((lB_iff L p q).1 e)
/-- A row whose last rectangle is one wider. -/
theorem rcs_wide (k : List Rt) (r : Rt) (w : Int) : (rcs (k ++ [r])).take (k.length * 4 + 2) ++ (.int .i64 w :: (rcs (k ++ [r])).drop (k.length * 4 + 2 + 1)) = rcs (k ++ [⟨r.x, r.y, w, r.h⟩]) := by
  have hl := rcs_length k
  rw [rcs_app, rcs_app, List.take_append, List.drop_append, hl, List.take_of_length_le (by omega), List.drop_of_length_le (by omega), show k.length * 4 + 2 - k.length * 4 = 2 by omega, show k.length * 4 + 2 + 1 - k.length * 4 = 3 by omega, List.append_assoc]
  rfl
end Go.Proofs.Sh
