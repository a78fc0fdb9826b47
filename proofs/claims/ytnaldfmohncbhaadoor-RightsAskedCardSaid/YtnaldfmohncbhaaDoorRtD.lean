/- Layers ident, rights: small functions. -/
import Derived.Test.YtnaldfmohncbhaaDoorShTypes
import Derived.Test.YtnaldfmohncbhaaDoorPvMr
import Derived.Test.YtnaldfmohncbhaaDoorPvNl
set_option maxRecDepth 100000
set_option linter.unusedSimpArgs false
set_option linter.unusedVariables false
namespace Go.Proofs.Sh
open Go.Pv
def isCl (c : Int) : Bool := decide (1 ≤ c) && decide (c ≤ 8)
theorem isClient_fs (c : Int) : Fsp Tryd.prog 56 [] 0 [.int .i64 c] [] 0 (.bool (isCl c)) := by
  unfold isCl
  cases k1 : decide (1 ≤ c) <;> cases k2 : decide (c ≤ 8)
  all_goals
    (refine Fsp.ofs (nx := 0) mixed Tryd.func56 rfl (by simp [Tryd.f56]) ?_; simp -implicitDefEqProofs only [push_cast, Tryd.f56, k1, k2, seval])
    all_goals (first | done | rfl | exact ⟨_, rfl, by simp [wkL, res2, res1, PV.weak, PV.el]⟩ | (simp [wkL, res2, res1, PV.weak, PV.el]; done))
/-- Whose an id is. -/
def clS (i : Int) : Int × Bool := if i = 1 then (0, true) else if i % 1048576 = 0 ∨ isCl (i / 1048576) = false then (0, false) else (i / 1048576, true)
theorem client_fs (i : Int) (h0 : 0 ≤ i) (h1 : i < 4294967296) : Fsp Tryd.prog 45 [] 0 [.int .u32 i] [] 0 (.tup [.int .i64 (clS i).1, .bool (clS i).2]) := by
  have hc := isClient_fs (i / 1048576)
  have r1 : Int.tmod i 1048576 = i % 1048576 := Int.tmod_eq_emod_of_nonneg h0
  have r2 : Int.tdiv i 1048576 = i / 1048576 := Int.tdiv_eq_ediv_of_nonneg h0
  have w1 : IntKind.u32.wrap (i / 1048576) = i / 1048576 := wrap_u32_id (by omega) (by omega)
  have w2 : IntKind.u32.wrap (i % 1048576) = i % 1048576 := wrap_u32_id (by omega) (by omega)
  have w3 : IntKind.i64.wrap (i / 1048576) = i / 1048576 := wrap_i64_id (by omega) (by omega)
  unfold clS
  (refine Fsp.ofs (nx := 0) mixed Tryd.func45 rfl (by simp [Tryd.f45]) ?_; simp -implicitDefEqProofs only [push_cast, Tryd.f45, seval])
  refine condC_split (fun g1 => ?_) (fun g1 => ?_)
  · have g2 : i = 1 := by simpa using g1
    rw [if_pos g2]
    simp -implicitDefEqProofs only [push_cast, seval]
    all_goals (first | done | rfl | exact ⟨_, rfl, by simp [wkL, res2, res1, PV.weak, PV.el]⟩ | (simp [wkL, res2, res1, PV.weak, PV.el]; done))
  · have g2 : ¬ i = 1 := by simpa using g1
    rw [if_neg g2]
    simp -implicitDefEqProofs only [push_cast, r1, r2, w1, w2, w3, seval]
    cases k1 : (i % 1048576 == 0)
    · have k2 : ¬ i % 1048576 = 0 := by simpa using k1
      simp -implicitDefEqProofs only [push_cast, seval]
      refine callE_p hc ?_
      cases k3 : isCl (i / 1048576)
      · rw [if_pos (.inr rfl)]
        simp -implicitDefEqProofs only [push_cast, seval]
        all_goals (first | done | rfl | exact ⟨_, rfl, by simp [wkL, res2, res1, PV.weak, PV.el]⟩ | (simp [wkL, res2, res1, PV.weak, PV.el]; done))
      · rw [if_neg (by rintro (h | h); exact k2 h; cases h)]
        simp -implicitDefEqProofs only [push_cast, seval]
        all_goals (first | done | rfl | exact ⟨_, rfl, by simp [wkL, res2, res1, PV.weak, PV.el]⟩ | (simp [wkL, res2, res1, PV.weak, PV.el]; done))
    · have k2 : i % 1048576 = 0 := by simpa using k1
      rw [if_pos (.inl k2)]
      simp -implicitDefEqProofs only [push_cast, seval]
      refine callE_nop' (.bool false) ?_
      simp -implicitDefEqProofs only [push_cast, seval]
      all_goals (first | done | rfl | exact ⟨_, rfl, by simp [wkL, res2, res1, PV.weak, PV.el]⟩ | (simp [wkL, res2, res1, PV.weak, PV.el]; done))
def mineB (c i : Int) : Bool := (clS i).2 && (!((clS i).1 == 0)) && ((clS i).1 == c)
theorem mine_fs (c i : Int) (h0 : 0 ≤ i) (h1 : i < 4294967296) : Fsp Tryd.prog 28 [] 0 [.int .i64 c, .int .u32 i] [] 0 (.bool (mineB c i)) := by
  have hc := client_fs i h0 h1
  unfold mineB
  generalize clS i = q at *
  obtain ⟨a, b⟩ := q
  (refine Fsp.ofs (nx := 0) mixed Tryd.func28 rfl (by simp [Tryd.f28]) ?_; simp -implicitDefEqProofs only [push_cast, Tryd.f28, seval])
  refine callE_p hc ?_
  cases b
  · simp -implicitDefEqProofs only [push_cast, seval]
    all_goals (first | done | rfl | exact ⟨_, rfl, by simp [wkL, res2, res1, PV.weak, PV.el]⟩ | (simp [wkL, res2, res1, PV.weak, PV.el]; done))
  · simp -implicitDefEqProofs only [push_cast, seval]

    rfl
theorem check_fs (i : Int) (h0 : 0 < i) (h1 : i < 4294967296) (hc : (clS i).2 = true) : Fsp Tryd.prog 34 [] 0 [.int .u32 i] [] 0 (.int .i64 0) := by
  have hf := client_fs i (by omega) h1
  have hz : (i == 0) = false := by simp; omega
  rw [hc] at hf
  (refine Fsp.ofs (nx := 0) mixed Tryd.func34 rfl (by simp [Tryd.f34]) ?_; simp -implicitDefEqProofs only [push_cast, Tryd.f34, hz, seval])
  refine callE_p hf ?_
  simp -implicitDefEqProofs only [push_cast, seval]
  all_goals (first | done | rfl | exact ⟨_, rfl, by simp [wkL, res2, res1, PV.weak, PV.el]⟩ | (simp [wkL, res2, res1, PV.weak, PV.el]; done))
end Go.Proofs.Sh

/- Maps that are copied (maps.Copy), whatever the order of the range. -/
set_option maxRecDepth 100000
set_option linter.unusedSimpArgs false
set_option linter.unusedVariables false
namespace Go.Proofs.Sh
open Go.Pv
open Go in
theorem kOkS_key (a b : Int) (ha : (Lit.int .i64 a).wf = true) (hb : (Lit.int .u32 b).wf = true) : kOkS Tryd.prog 87 [.int .i64 a, .int .u32 b] = true := by
  have h1 : (Tryd.prog).keyType 87 = true := by kernel_rfl
  have h2 : (Tryd.prog).cellsOf 87 = 2 := by kernel_rfl
  have h3 : (Tryd.prog).cellsOf 3 = 1 := by kernel_rfl
  have h4 : (Tryd.prog).cellsOf 25 = 1 := by kernel_rfl
  have u1 := Tryd.underlying87
  have u2 := Tryd.underlying3
  have u3 := Tryd.underlying25
  have h5 : ∃ n, (Tryd.prog).types.size = n + 1 := ⟨_, rfl⟩
  obtain ⟨n, h5⟩ := h5
  simp [kOkS, scals, scal, toVk, toV, keyOf, u1, h1, Value.formed, h2, h5, Program.keyLits, Value.cells, h3, h4, u2, u3, ha, hb]

/-- What is left of a range, and the copy. -/
def Cp.st (n i : Nat) (es : List (PV × PV)) (a : Cp es) : PS := { n := n, env := [(7, .iref i), (0, .mref 0)], objs := [(0, some [.mobj (fin es a.d a.r)]), (i, some [.any, .mobj a.r])], live := [], nxt := 60 }
/-- Entries of a kind. -/
def IsE (Q : PV × PV → Prop) (es : List (PV × PV)) : Prop := ∀ q ∈ es, Q q
theorem IsE.kAll {Q : PV × PV → Prop} {t : Nat} (ht : ∀ q, Q q → kOk Tryd.prog t q.1 = true) : ∀ {es : List (PV × PV)}, IsE Q es → kAll Tryd.prog t es = true
  | [], _ => rfl
  | x :: es, h => by
    show (kOk Tryd.prog t x.1 && Go.Pv.kAll Tryd.prog t es) = true
    rw [IsE.kAll ht (fun q hq => h q (List.mem_cons_of_mem _ hq)), ht x (h x (by simp))]; rfl
theorem IsE.fin {Q : PV × PV → Prop} {es d r : List (PV × PV)} (h : IsE Q es) (hp : (d ++ r).Perm es) : IsE Q (Go.Pv.fin es d r) := by
  cases r with
  | nil => exact h
  | cons x r => exact fun q hq => h q (hp.mem_iff.1 (List.mem_append_left _ hq))
theorem fin_cons {es d r rest : List (PV × PV)} {x : PV × PV} (hp : r.Perm (x :: rest)) : Go.Pv.fin es d r = d := by
  cases r with
  | nil => cases hp.length_eq
  | cons x r => rfl
/-- Windows and their parents. -/
def QU (q : PV × PV) : Prop := ∃ a b, q = (.int .u32 a, .int .u32 b)
theorem QU.ok {t : Nat} (ht : tk Tryd.prog t = .int .u32) (q : PV × PV) (h : QU q) : kOk Tryd.prog t q.1 = true := by
  obtain ⟨a, b, rfl⟩ := h
  simp [kOk, ht]
/-- What is selected, by whom, where. -/
def QC (q : PV × PV) : Prop := ∃ a b m, (Go.Lit.int .i64 a).wf = true ∧ (Go.Lit.int .u32 b).wf = true ∧ q = (.agg [.int .i64 a, .int .u32 b], .int .i64 m)
theorem QC.ok (q : PV × PV) (h : QC q) : kOk Tryd.prog 87 q.1 = true := by
  obtain ⟨a, b, m, ha, hb, rfl⟩ := h
  simp [kOk, tk_87, kOkS_key a b ha hb]
theorem kTyS_key : kTyS Tryd.prog 87 = true := by kernel_rfl
/-- What stops, where. -/
def QS (q : PV × PV) : Prop := ∃ a b, q = (.int .u32 a, .int .i64 b)
theorem QS.ok {t : Nat} (ht : tk Tryd.prog t = .int .u32) (q : PV × PV) (h : QS q) : kOk Tryd.prog t q.1 = true := by
  obtain ⟨a, b, rfl⟩ := h
  simp [kOk, ht]
/-- Selections. -/
def QA (q : PV × PV) : Prop := ∃ a c w t h s, q = (.int .u32 a, .agg [.int .i64 c, .int .u32 w, .int .u32 t, .bool h, .int .u32 s])
theorem QA.ok {t : Nat} (ht : tk Tryd.prog t = .int .u32) (q : PV × PV) (h : QA q) : kOk Tryd.prog t q.1 = true := by
  obtain ⟨a, c, w, tt, h, s, rfl⟩ := h
  simp [kOk, ht]
set_option maxHeartbeats 2000000 in
theorem copyU_fs (es : List (PV × PV)) (hn : (es.map Prod.fst).Nodup) (hu : IsE QU es) : Fsp Tryd.prog 47 [[.mobj []]] 0 [.mref 0, .mpure es] [[.mobj es]] 0 (.tup []) := by
  (refine Fsp.of (nx := 1) mixed Tryd.func47 rfl (by decide) (by first | exact Nat.le_refl _ | simp) (by simp [Tryd.f47]) ⟨by simp, by simp⟩ ?_; simp -implicitDefEqProofs only [push_cast, Tryd.f47, seval])
  refine loopC_of (α := Cp es) (Cp.st 16 40 es) (fun a => a.r.length) ⟨[], es, by simp⟩ ?_ ?_
  · refine Wk.trans (Wk.perm 0 (fin es [] es) (by rfl) (fin_perm (by simp))) ?_
    (simp only [Cp.st]; exact Wk.by _ _ _ [(0, 0), (40, 5)] [] [] (by simp) (by simp [wkV, PV.el, PV.weak, PS.get, PS.obj, PS.lv, lkp_hit, lkp_miss, lkp_nil, lko, wkL, wkC, res1]) (by simp [PS.get, PS.obj, PS.lv, lkp_hit, lkp_miss, lkp_nil, lko, wkL, wkC, PV.weak, wkL, wkC, res1]) (by simp [PS.get, PS.obj, PS.lv, lkp_hit, lkp_miss, lkp_nil, lko]) (by rfl) (by rfl) (by simp [lko]) (by simp) (by simp) (by simp) (fun i hi => by cases Nat.lt_one_iff.1 hi; rfl))
  · rintro ⟨d, r, h⟩
    have hk0 := (hu.fin h).kAll (QU.ok tk_25)
    simp only [Cp.st]
    simp -implicitDefEqProofs only [push_cast, seval]
    refine ⟨?_, ?_⟩
    · intro e
      subst e
      simp -implicitDefEqProofs only [push_cast, seval]
      exact endK_box [] [0] rfl rfl (by simp [PS.lv, lkp_hit, lkp_miss, lkp_nil]) rfl rfl (by rfl) (fun i j ps h1 h2 => by (rcases i with _ | i <;> simp at h1 h2 <;> (subst h1; subst h2; exact ⟨_, rfl, (by (repeat' (first | exact wkL_nil | refine wkL_cons ?_ ?_)); all_goals (first | rfl | exact ⟨rfl, rfl⟩ | exact ⟨rfl, rfl, rfl⟩ | exact .inl rfl))⟩))) ⟨by simp [resOk, PS.get, lkp_hit, lkp_miss, PS.ev], by simp [resPV, PS.get, lkp_hit, lkp_miss, PS.ev], by simp [resOf, resPV, one', res3, res2, res1, PS.get, lkp_hit, lkp_miss, PS.ev, PV.weak, PV.el, wkL, fin]⟩
    · intro k v rest hp
      obtain ⟨a, b, hab⟩ := hu _ (cp_mem h hp)
      cases hab
      have hs := cp_set (.int .u32 b) rfl hn h hp
      rw [fin_cons hp] at hk0 ⊢
      simp -implicitDefEqProofs only [push_cast, hk0, hs, seval]
      (repeat (first | refine ⟨(by omega : _ ≤ _), ?_⟩ | refine ⟨(by omega : _ < _), ?_⟩ | refine ⟨by (unfold drawOk; kernel_rfl), ?_⟩ | refine ⟨(by simp; done), ?_⟩ | refine ⟨(by simp; omega), ?_⟩))
      refine ⟨⟨(.int .u32 a, .int .u32 b) :: d, rest, cp_next h hp⟩, by (rw [hp.length_eq]; simp), ?_⟩
      refine Wk.trans (Wk.perm 0 (fin es ((.int .u32 a, .int .u32 b) :: d) rest) (by rfl) (fin_perm (cp_next h hp))) ?_
      (simp only [Cp.st]; exact Wk.by _ _ _ [(0, 0), (40, 40)] [] [] (by simp) (by simp [wkV, PV.el, PV.weak, PS.get, PS.obj, PS.lv, lkp_hit, lkp_miss, lkp_nil, lko, wkL, wkC, res1]) (by simp [PS.get, PS.obj, PS.lv, lkp_hit, lkp_miss, lkp_nil, lko, wkL, wkC, PV.weak, wkL, wkC, res1]) (by simp [PS.get, PS.obj, PS.lv, lkp_hit, lkp_miss, lkp_nil, lko]) (by rfl) (by rfl) (by simp [lko]) (by simp) (by simp) (by simp) (fun i hi => by cases Nat.lt_one_iff.1 hi; rfl))
theorem copyU_nil : Fsp Tryd.prog 47 [[.mobj []]] 0 [.mref 0, .nilm] [[.mobj []]] 0 (.tup []) := by
  (refine Fsp.of (nx := 1) mixed Tryd.func47 rfl (by decide) (by first | exact Nat.le_refl _ | simp) (by simp [Tryd.f47]) ⟨by simp, by simp⟩ ?_; simp -implicitDefEqProofs only [push_cast, Tryd.f47, seval])
  refine loopC_of (α := Cp []) (Cp.st 16 40 []) (fun a => a.r.length) ⟨[], [], by simp⟩ ?_ ?_
  · (simp only [Cp.st]; exact Wk.by _ _ _ [(0, 0), (40, 5)] [] [] (by simp) (by simp [wkV, PV.el, PV.weak, PS.get, PS.obj, PS.lv, lkp_hit, lkp_miss, lkp_nil, lko, wkL, wkC, res1, fin]) (by simp [PS.get, PS.obj, PS.lv, lkp_hit, lkp_miss, lkp_nil, lko, wkL, wkC, PV.weak, wkL, wkC, res1, fin]) (by simp [PS.get, PS.obj, PS.lv, lkp_hit, lkp_miss, lkp_nil, lko]) (by rfl) (by rfl) (by simp [lko]) (by simp) (by simp) (by simp) (fun i hi => by cases Nat.lt_one_iff.1 hi; rfl))
  · rintro ⟨d, r, h⟩
    simp only [Cp.st]
    simp -implicitDefEqProofs only [push_cast, seval]
    refine ⟨?_, ?_⟩
    · intro e
      subst e
      simp -implicitDefEqProofs only [push_cast, seval]
      exact endK_box [] [0] rfl rfl (by simp [PS.lv, lkp_hit, lkp_miss, lkp_nil]) rfl rfl (by rfl) (fun i j ps h1 h2 => by (rcases i with _ | i <;> simp at h1 h2 <;> (subst h1; subst h2; exact ⟨_, rfl, (by (repeat' (first | exact wkL_nil | refine wkL_cons ?_ ?_)); all_goals (first | rfl | exact ⟨rfl, rfl⟩ | exact ⟨rfl, rfl, rfl⟩ | exact .inl rfl))⟩))) ⟨by simp [resOk, PS.get, lkp_hit, lkp_miss, PS.ev], by simp [resPV, PS.get, lkp_hit, lkp_miss, PS.ev], by simp [resOf, resPV, one', res3, res2, res1, PS.get, lkp_hit, lkp_miss, PS.ev, PV.weak, PV.el, wkL, fin]⟩
    · intro k v rest hp
      exact absurd (cp_mem h hp) (by simp)
set_option maxHeartbeats 2000000 in
theorem copyC_fs (es : List (PV × PV)) (hn : (es.map Prod.fst).Nodup) (hu : IsE QC es) : Fsp Tryd.prog 54 [[.mobj []]] 0 [.mref 0, .mpure es] [[.mobj es]] 0 (.tup []) := by
  (refine Fsp.of (nx := 1) mixed Tryd.func54 rfl (by decide) (by first | exact Nat.le_refl _ | simp) (by simp [Tryd.f54]) ⟨by simp, by simp⟩ ?_; simp -implicitDefEqProofs only [push_cast, Tryd.f54, seval])
  refine loopC_of (α := Cp es) (Cp.st 16 40 es) (fun a => a.r.length) ⟨[], es, by simp⟩ ?_ ?_
  · refine Wk.trans (Wk.perm 0 (fin es [] es) (by rfl) (fin_perm (by simp))) ?_
    (simp only [Cp.st]; exact Wk.by _ _ _ [(0, 0), (40, 5)] [] [] (by simp) (by simp [wkV, PV.el, PV.weak, PS.get, PS.obj, PS.lv, lkp_hit, lkp_miss, lkp_nil, lko, wkL, wkC, res1]) (by simp [PS.get, PS.obj, PS.lv, lkp_hit, lkp_miss, lkp_nil, lko, wkL, wkC, PV.weak, wkL, wkC, res1]) (by simp [PS.get, PS.obj, PS.lv, lkp_hit, lkp_miss, lkp_nil, lko]) (by rfl) (by rfl) (by simp [lko]) (by simp) (by simp) (by simp) (fun i hi => by cases Nat.lt_one_iff.1 hi; rfl))
  · rintro ⟨d, r, h⟩
    have hk0 := (hu.fin h).kAll QC.ok
    simp only [Cp.st]
    simp -implicitDefEqProofs only [push_cast, seval]
    refine ⟨?_, ?_⟩
    · intro e
      subst e
      simp -implicitDefEqProofs only [push_cast, seval]
      exact endK_box [] [0] rfl rfl (by simp [PS.lv, lkp_hit, lkp_miss, lkp_nil]) rfl rfl (by rfl) (fun i j ps h1 h2 => by (rcases i with _ | i <;> simp at h1 h2 <;> (subst h1; subst h2; exact ⟨_, rfl, (by (repeat' (first | exact wkL_nil | refine wkL_cons ?_ ?_)); all_goals (first | rfl | exact ⟨rfl, rfl⟩ | exact ⟨rfl, rfl, rfl⟩ | exact .inl rfl))⟩))) ⟨by simp [resOk, PS.get, lkp_hit, lkp_miss, PS.ev], by simp [resPV, PS.get, lkp_hit, lkp_miss, PS.ev], by simp [resOf, resPV, one', res3, res2, res1, PS.get, lkp_hit, lkp_miss, PS.ev, PV.weak, PV.el, wkL, fin]⟩
    · intro k v rest hp
      obtain ⟨a, b, m, ha, hb, hab⟩ := hu _ (cp_mem h hp)
      cases hab
      have hs := cp_set (.int .i64 m) rfl hn h hp
      rw [fin_cons hp] at hk0 ⊢
      simp -implicitDefEqProofs only [push_cast, hk0, hs, kTyS_key, kOkS_key a b ha hb, seval]
      (repeat (first | refine ⟨(by omega : _ ≤ _), ?_⟩ | refine ⟨(by omega : _ < _), ?_⟩ | refine ⟨by (unfold drawOk; kernel_rfl), ?_⟩ | refine ⟨(by simp; done), ?_⟩ | refine ⟨(by simp; omega), ?_⟩))
      refine ⟨⟨(.agg [.int .i64 a, .int .u32 b], .int .i64 m) :: d, rest, cp_next h hp⟩, by (rw [hp.length_eq]; simp), ?_⟩
      refine Wk.trans (Wk.perm 0 (fin es ((.agg [.int .i64 a, .int .u32 b], .int .i64 m) :: d) rest) (by rfl) (fin_perm (cp_next h hp))) ?_
      (simp only [Cp.st]; exact Wk.by _ _ _ [(0, 0), (40, 40)] [] [] (by simp) (by simp [wkV, PV.el, PV.weak, PS.get, PS.obj, PS.lv, lkp_hit, lkp_miss, lkp_nil, lko, wkL, wkC, res1]) (by simp [PS.get, PS.obj, PS.lv, lkp_hit, lkp_miss, lkp_nil, lko, wkL, wkC, PV.weak, wkL, wkC, res1]) (by simp [PS.get, PS.obj, PS.lv, lkp_hit, lkp_miss, lkp_nil, lko]) (by rfl) (by rfl) (by simp [lko]) (by simp) (by simp) (by simp) (fun i hi => by cases Nat.lt_one_iff.1 hi; rfl))
theorem copyC_nil : Fsp Tryd.prog 54 [[.mobj []]] 0 [.mref 0, .nilm] [[.mobj []]] 0 (.tup []) := by
  (refine Fsp.of (nx := 1) mixed Tryd.func54 rfl (by decide) (by first | exact Nat.le_refl _ | simp) (by simp [Tryd.f54]) ⟨by simp, by simp⟩ ?_; simp -implicitDefEqProofs only [push_cast, Tryd.f54, seval])
  refine loopC_of (α := Cp []) (Cp.st 16 40 []) (fun a => a.r.length) ⟨[], [], by simp⟩ ?_ ?_
  · (simp only [Cp.st]; exact Wk.by _ _ _ [(0, 0), (40, 5)] [] [] (by simp) (by simp [wkV, PV.el, PV.weak, PS.get, PS.obj, PS.lv, lkp_hit, lkp_miss, lkp_nil, lko, wkL, wkC, res1, fin]) (by simp [PS.get, PS.obj, PS.lv, lkp_hit, lkp_miss, lkp_nil, lko, wkL, wkC, PV.weak, wkL, wkC, res1, fin]) (by simp [PS.get, PS.obj, PS.lv, lkp_hit, lkp_miss, lkp_nil, lko]) (by rfl) (by rfl) (by simp [lko]) (by simp) (by simp) (by simp) (fun i hi => by cases Nat.lt_one_iff.1 hi; rfl))
  · rintro ⟨d, r, h⟩
    simp only [Cp.st]
    simp -implicitDefEqProofs only [push_cast, seval]
    refine ⟨?_, ?_⟩
    · intro e
      subst e
      simp -implicitDefEqProofs only [push_cast, seval]
      exact endK_box [] [0] rfl rfl (by simp [PS.lv, lkp_hit, lkp_miss, lkp_nil]) rfl rfl (by rfl) (fun i j ps h1 h2 => by (rcases i with _ | i <;> simp at h1 h2 <;> (subst h1; subst h2; exact ⟨_, rfl, (by (repeat' (first | exact wkL_nil | refine wkL_cons ?_ ?_)); all_goals (first | rfl | exact ⟨rfl, rfl⟩ | exact ⟨rfl, rfl, rfl⟩ | exact .inl rfl))⟩))) ⟨by simp [resOk, PS.get, lkp_hit, lkp_miss, PS.ev], by simp [resPV, PS.get, lkp_hit, lkp_miss, PS.ev], by simp [resOf, resPV, one', res3, res2, res1, PS.get, lkp_hit, lkp_miss, PS.ev, PV.weak, PV.el, wkL, fin]⟩
    · intro k v rest hp
      exact absurd (cp_mem h hp) (by simp)
set_option maxHeartbeats 2000000 in
theorem copyS_fs (es : List (PV × PV)) (hn : (es.map Prod.fst).Nodup) (hu : IsE QS es) : Fsp Tryd.prog 55 [[.mobj []]] 0 [.mref 0, .mpure es] [[.mobj es]] 0 (.tup []) := by
  (refine Fsp.of (nx := 1) mixed Tryd.func55 rfl (by decide) (by first | exact Nat.le_refl _ | simp) (by simp [Tryd.f55]) ⟨by simp, by simp⟩ ?_; simp -implicitDefEqProofs only [push_cast, Tryd.f55, seval])
  refine loopC_of (α := Cp es) (Cp.st 16 40 es) (fun a => a.r.length) ⟨[], es, by simp⟩ ?_ ?_
  · refine Wk.trans (Wk.perm 0 (fin es [] es) (by rfl) (fin_perm (by simp))) ?_
    (simp only [Cp.st]; exact Wk.by _ _ _ [(0, 0), (40, 5)] [] [] (by simp) (by simp [wkV, PV.el, PV.weak, PS.get, PS.obj, PS.lv, lkp_hit, lkp_miss, lkp_nil, lko, wkL, wkC, res1]) (by simp [PS.get, PS.obj, PS.lv, lkp_hit, lkp_miss, lkp_nil, lko, wkL, wkC, PV.weak, wkL, wkC, res1]) (by simp [PS.get, PS.obj, PS.lv, lkp_hit, lkp_miss, lkp_nil, lko]) (by rfl) (by rfl) (by simp [lko]) (by simp) (by simp) (by simp) (fun i hi => by cases Nat.lt_one_iff.1 hi; rfl))
  · rintro ⟨d, r, h⟩
    have hk0 := (hu.fin h).kAll (QS.ok tk_25)
    simp only [Cp.st]
    simp -implicitDefEqProofs only [push_cast, seval]
    refine ⟨?_, ?_⟩
    · intro e
      subst e
      simp -implicitDefEqProofs only [push_cast, seval]
      exact endK_box [] [0] rfl rfl (by simp [PS.lv, lkp_hit, lkp_miss, lkp_nil]) rfl rfl (by rfl) (fun i j ps h1 h2 => by (rcases i with _ | i <;> simp at h1 h2 <;> (subst h1; subst h2; exact ⟨_, rfl, (by (repeat' (first | exact wkL_nil | refine wkL_cons ?_ ?_)); all_goals (first | rfl | exact ⟨rfl, rfl⟩ | exact ⟨rfl, rfl, rfl⟩ | exact .inl rfl))⟩))) ⟨by simp [resOk, PS.get, lkp_hit, lkp_miss, PS.ev], by simp [resPV, PS.get, lkp_hit, lkp_miss, PS.ev], by simp [resOf, resPV, one', res3, res2, res1, PS.get, lkp_hit, lkp_miss, PS.ev, PV.weak, PV.el, wkL, fin]⟩
    · intro k v rest hp
      obtain ⟨a, b, hab⟩ := hu _ (cp_mem h hp)
      cases hab
      have hs := cp_set (.int .i64 b) rfl hn h hp
      rw [fin_cons hp] at hk0 ⊢
      simp -implicitDefEqProofs only [push_cast, hk0, hs, seval]
      (repeat (first | refine ⟨(by omega : _ ≤ _), ?_⟩ | refine ⟨(by omega : _ < _), ?_⟩ | refine ⟨by (unfold drawOk; kernel_rfl), ?_⟩ | refine ⟨(by simp; done), ?_⟩ | refine ⟨(by simp; omega), ?_⟩))
      refine ⟨⟨(.int .u32 a, .int .i64 b) :: d, rest, cp_next h hp⟩, by (rw [hp.length_eq]; simp), ?_⟩
      refine Wk.trans (Wk.perm 0 (fin es ((.int .u32 a, .int .i64 b) :: d) rest) (by rfl) (fin_perm (cp_next h hp))) ?_
      (simp only [Cp.st]; exact Wk.by _ _ _ [(0, 0), (40, 40)] [] [] (by simp) (by simp [wkV, PV.el, PV.weak, PS.get, PS.obj, PS.lv, lkp_hit, lkp_miss, lkp_nil, lko, wkL, wkC, res1]) (by simp [PS.get, PS.obj, PS.lv, lkp_hit, lkp_miss, lkp_nil, lko, wkL, wkC, PV.weak, wkL, wkC, res1]) (by simp [PS.get, PS.obj, PS.lv, lkp_hit, lkp_miss, lkp_nil, lko]) (by rfl) (by rfl) (by simp [lko]) (by simp) (by simp) (by simp) (fun i hi => by cases Nat.lt_one_iff.1 hi; rfl))
theorem copyS_nil : Fsp Tryd.prog 55 [[.mobj []]] 0 [.mref 0, .nilm] [[.mobj []]] 0 (.tup []) := by
  (refine Fsp.of (nx := 1) mixed Tryd.func55 rfl (by decide) (by first | exact Nat.le_refl _ | simp) (by simp [Tryd.f55]) ⟨by simp, by simp⟩ ?_; simp -implicitDefEqProofs only [push_cast, Tryd.f55, seval])
  refine loopC_of (α := Cp []) (Cp.st 16 40 []) (fun a => a.r.length) ⟨[], [], by simp⟩ ?_ ?_
  · (simp only [Cp.st]; exact Wk.by _ _ _ [(0, 0), (40, 5)] [] [] (by simp) (by simp [wkV, PV.el, PV.weak, PS.get, PS.obj, PS.lv, lkp_hit, lkp_miss, lkp_nil, lko, wkL, wkC, res1, fin]) (by simp [PS.get, PS.obj, PS.lv, lkp_hit, lkp_miss, lkp_nil, lko, wkL, wkC, PV.weak, wkL, wkC, res1, fin]) (by simp [PS.get, PS.obj, PS.lv, lkp_hit, lkp_miss, lkp_nil, lko]) (by rfl) (by rfl) (by simp [lko]) (by simp) (by simp) (by simp) (fun i hi => by cases Nat.lt_one_iff.1 hi; rfl))
  · rintro ⟨d, r, h⟩
    simp only [Cp.st]
    simp -implicitDefEqProofs only [push_cast, seval]
    refine ⟨?_, ?_⟩
    · intro e
      subst e
      simp -implicitDefEqProofs only [push_cast, seval]
      exact endK_box [] [0] rfl rfl (by simp [PS.lv, lkp_hit, lkp_miss, lkp_nil]) rfl rfl (by rfl) (fun i j ps h1 h2 => by (rcases i with _ | i <;> simp at h1 h2 <;> (subst h1; subst h2; exact ⟨_, rfl, (by (repeat' (first | exact wkL_nil | refine wkL_cons ?_ ?_)); all_goals (first | rfl | exact ⟨rfl, rfl⟩ | exact ⟨rfl, rfl, rfl⟩ | exact .inl rfl))⟩))) ⟨by simp [resOk, PS.get, lkp_hit, lkp_miss, PS.ev], by simp [resPV, PS.get, lkp_hit, lkp_miss, PS.ev], by simp [resOf, resPV, one', res3, res2, res1, PS.get, lkp_hit, lkp_miss, PS.ev, PV.weak, PV.el, wkL, fin]⟩
    · intro k v rest hp
      exact absurd (cp_mem h hp) (by simp)
set_option maxHeartbeats 2000000 in
theorem copyA_fs (es : List (PV × PV)) (hn : (es.map Prod.fst).Nodup) (hu : IsE QA es) : Fsp Tryd.prog 49 [[.mobj []]] 0 [.mref 0, .mpure es] [[.mobj es]] 0 (.tup []) := by
  (refine Fsp.of (nx := 1) mixed Tryd.func49 rfl (by decide) (by first | exact Nat.le_refl _ | simp) (by simp [Tryd.f49]) ⟨by simp, by simp⟩ ?_; simp -implicitDefEqProofs only [push_cast, Tryd.f49, seval])
  refine loopC_of (α := Cp es) (Cp.st 16 40 es) (fun a => a.r.length) ⟨[], es, by simp⟩ ?_ ?_
  · refine Wk.trans (Wk.perm 0 (fin es [] es) (by rfl) (fin_perm (by simp))) ?_
    (simp only [Cp.st]; exact Wk.by _ _ _ [(0, 0), (40, 5)] [] [] (by simp) (by simp [wkV, PV.el, PV.weak, PS.get, PS.obj, PS.lv, lkp_hit, lkp_miss, lkp_nil, lko, wkL, wkC, res1]) (by simp [PS.get, PS.obj, PS.lv, lkp_hit, lkp_miss, lkp_nil, lko, wkL, wkC, PV.weak, wkL, wkC, res1]) (by simp [PS.get, PS.obj, PS.lv, lkp_hit, lkp_miss, lkp_nil, lko]) (by rfl) (by rfl) (by simp [lko]) (by simp) (by simp) (by simp) (fun i hi => by cases Nat.lt_one_iff.1 hi; rfl))
  · rintro ⟨d, r, h⟩
    have hk0 := (hu.fin h).kAll (QA.ok tk_60)
    simp only [Cp.st]
    simp -implicitDefEqProofs only [push_cast, seval]
    refine ⟨?_, ?_⟩
    · intro e
      subst e
      simp -implicitDefEqProofs only [push_cast, seval]
      exact endK_box [] [0] rfl rfl (by simp [PS.lv, lkp_hit, lkp_miss, lkp_nil]) rfl rfl (by rfl) (fun i j ps h1 h2 => by (rcases i with _ | i <;> simp at h1 h2 <;> (subst h1; subst h2; exact ⟨_, rfl, (by (repeat' (first | exact wkL_nil | refine wkL_cons ?_ ?_)); all_goals (first | rfl | exact ⟨rfl, rfl⟩ | exact ⟨rfl, rfl, rfl⟩ | exact .inl rfl))⟩))) ⟨by simp [resOk, PS.get, lkp_hit, lkp_miss, PS.ev], by simp [resPV, PS.get, lkp_hit, lkp_miss, PS.ev], by simp [resOf, resPV, one', res3, res2, res1, PS.get, lkp_hit, lkp_miss, PS.ev, PV.weak, PV.el, wkL, fin]⟩
    · intro k v rest hp
      obtain ⟨a, c, w, t, hs', s, hab⟩ := hu _ (cp_mem h hp)
      cases hab
      have hs := cp_set (.agg [.int .i64 c, .int .u32 w, .int .u32 t, .bool hs', .int .u32 s]) rfl hn h hp
      rw [fin_cons hp] at hk0 ⊢
      simp -implicitDefEqProofs only [push_cast, hk0, hs, seval]
      (repeat (first | refine ⟨(by omega : _ ≤ _), ?_⟩ | refine ⟨(by omega : _ < _), ?_⟩ | refine ⟨by (unfold drawOk; kernel_rfl), ?_⟩ | refine ⟨(by simp; done), ?_⟩ | refine ⟨(by simp; omega), ?_⟩))
      refine ⟨⟨(.int .u32 a, .agg [.int .i64 c, .int .u32 w, .int .u32 t, .bool hs', .int .u32 s]) :: d, rest, cp_next h hp⟩, by (rw [hp.length_eq]; simp), ?_⟩
      refine Wk.trans (Wk.perm 0 (fin es ((.int .u32 a, .agg [.int .i64 c, .int .u32 w, .int .u32 t, .bool hs', .int .u32 s]) :: d) rest) (by rfl) (fin_perm (cp_next h hp))) ?_
      (simp only [Cp.st]; exact Wk.by _ _ _ [(0, 0), (40, 40)] [] [] (by simp) (by simp [wkV, PV.el, PV.weak, PS.get, PS.obj, PS.lv, lkp_hit, lkp_miss, lkp_nil, lko, wkL, wkC, res1]) (by simp [PS.get, PS.obj, PS.lv, lkp_hit, lkp_miss, lkp_nil, lko, wkL, wkC, PV.weak, wkL, wkC, res1]) (by simp [PS.get, PS.obj, PS.lv, lkp_hit, lkp_miss, lkp_nil, lko]) (by rfl) (by rfl) (by simp [lko]) (by simp) (by simp) (by simp) (fun i hi => by cases Nat.lt_one_iff.1 hi; rfl))
theorem copyA_nil : Fsp Tryd.prog 49 [[.mobj []]] 0 [.mref 0, .nilm] [[.mobj []]] 0 (.tup []) := by
  (refine Fsp.of (nx := 1) mixed Tryd.func49 rfl (by decide) (by first | exact Nat.le_refl _ | simp) (by simp [Tryd.f49]) ⟨by simp, by simp⟩ ?_; simp -implicitDefEqProofs only [push_cast, Tryd.f49, seval])
  refine loopC_of (α := Cp []) (Cp.st 16 40 []) (fun a => a.r.length) ⟨[], [], by simp⟩ ?_ ?_
  · (simp only [Cp.st]; exact Wk.by _ _ _ [(0, 0), (40, 5)] [] [] (by simp) (by simp [wkV, PV.el, PV.weak, PS.get, PS.obj, PS.lv, lkp_hit, lkp_miss, lkp_nil, lko, wkL, wkC, res1, fin]) (by simp [PS.get, PS.obj, PS.lv, lkp_hit, lkp_miss, lkp_nil, lko, wkL, wkC, PV.weak, wkL, wkC, res1, fin]) (by simp [PS.get, PS.obj, PS.lv, lkp_hit, lkp_miss, lkp_nil, lko]) (by rfl) (by rfl) (by simp [lko]) (by simp) (by simp) (by simp) (fun i hi => by cases Nat.lt_one_iff.1 hi; rfl))
  · rintro ⟨d, r, h⟩
    simp only [Cp.st]
    simp -implicitDefEqProofs only [push_cast, seval]
    refine ⟨?_, ?_⟩
    · intro e
      subst e
      simp -implicitDefEqProofs only [push_cast, seval]
      exact endK_box [] [0] rfl rfl (by simp [PS.lv, lkp_hit, lkp_miss, lkp_nil]) rfl rfl (by rfl) (fun i j ps h1 h2 => by (rcases i with _ | i <;> simp at h1 h2 <;> (subst h1; subst h2; exact ⟨_, rfl, (by (repeat' (first | exact wkL_nil | refine wkL_cons ?_ ?_)); all_goals (first | rfl | exact ⟨rfl, rfl⟩ | exact ⟨rfl, rfl, rfl⟩ | exact .inl rfl))⟩))) ⟨by simp [resOk, PS.get, lkp_hit, lkp_miss, PS.ev], by simp [resPV, PS.get, lkp_hit, lkp_miss, PS.ev], by simp [resOf, resPV, one', res3, res2, res1, PS.get, lkp_hit, lkp_miss, PS.ev, PV.weak, PV.el, wkL, fin]⟩
    · intro k v rest hp
      exact absurd (cp_mem h hp) (by simp)
end Go.Proofs.Sh

/- Package tree: Has, Parent, the copies, put, Add. -/
set_option maxRecDepth 100000
set_option linter.unusedSimpArgs false
set_option linter.unusedVariables false
namespace Go.Proofs.Sh
open Go.Pv
theorem cloneJ_fs (n : Nat) (hn : n < 1000) : Fsp Tryd.prog 48 [] 0 [.slj (n + 1)] [] 0 (.slj (n + 1)) := by
  (refine Fsp.ofs (nx := 0) mixed Tryd.func48 rfl (by simp [Tryd.f48]) ?_; simp -implicitDefEqProofs only [push_cast, Tryd.f48, seval])
  refine callE_sl0 (by rfl) tk_30 tsz_25 (by decide) zc_25 (by rfl) (by first | rfl | simp [gdOk]) ?_
  simp -implicitDefEqProofs only [push_cast, seval]
  exact ⟨by omega, by omega⟩
theorem mgetD_nil (k d : PV) : mgetD [] k d = d := rfl
theorem mhas_nil (k : PV) : mhas [] k = false := rfl
/-- Parents. -/
def mkU (m : List (Int × Int)) : List (PV × PV) := m.map fun x => (.int .u32 x.1, .int .u32 x.2)
def getU : List (Int × Int) → Int → Option Int
  | [], _ => none
  | x :: m, k => if k = x.1 then some x.2 else getU m k
theorem keyIs_u (a b : Int) : keyIs (.int .u32 a) (.int .u32 b) = decide (a = b) := by
  show (decide (IntKind.u32 = IntKind.u32) && decide (a = b)) = _
  simp
theorem mget_mkU (k : Int) : ∀ m : List (Int × Int), mget (mkU m) (.int .u32 k) = (getU m k).map (.int .u32 ·)
  | [] => rfl
  | x :: m => by
    have ih := mget_mkU k m
    show mget ((.int .u32 x.1, .int .u32 x.2) :: mkU m) (.int .u32 k) = _
    simp only [mget, keyIs_u, getU]
    by_cases h : k = x.1
    · simp [h]
    · simp only [h, decide_false, if_false]; exact ih
theorem mhas_mkU (m : List (Int × Int)) (k : Int) : mhas (mkU m) (.int .u32 k) = (getU m k).isSome := by
  rw [mhas, mget_mkU]; cases getU m k <;> rfl
theorem mgetD_mkU (m : List (Int × Int)) (k : Int) : mgetD (mkU m) (.int .u32 k) (.int .u32 0) = .int .u32 ((getU m k).getD 0) := by
  rw [mgetD, mget_mkU]; cases getU m k <;> rfl
theorem isU_mkU (m : List (Int × Int)) : IsE QU (mkU m) := fun q hq => by
  obtain ⟨x, _, rfl⟩ := List.mem_map.1 hq
  exact ⟨_, _, rfl⟩
/-- Kids: of each list only how many they are. -/
def mkJ (m : List (Int × Nat)) : List (PV × PV) := m.map fun x => (.int .u32 x.1, .slj (x.2 + 1))
/-- A tree: new, or with windows. -/
inductive Tm where
  | nil
  | mk (k : List (Int × Nat)) (u : List (Int × Int))
def Tm.kc : Tm → PV
  | .nil => .nilm
  | .mk k _ => .mpure (mkJ k)
def Tm.uc : Tm → PV
  | .nil => .nilm
  | .mk _ u => .mpure (mkU u)
def Tm.ups : Tm → List (Int × Int)
  | .nil => []
  | .mk _ u => u
def Tm.kds : Tm → List (Int × Nat)
  | .nil => []
  | .mk k _ => k
def Tm.pv (t : Tm) : PV := .agg [t.kc, t.uc]
def Tm.has (t : Tm) (i : Int) : Bool := (getU t.ups i).isSome || decide (i = 1)
theorem kAllU (m : List (Int × Int)) : kAll Tryd.prog 25 (mkU m) = true := (isU_mkU m).kAll (QU.ok tk_25)
theorem has_fs (t : Tm) (i : Int) : Fsp Tryd.prog 29 [] 0 [t.pv, .int .u32 i] [] 0 (.bool (t.has i)) := by
  cases t
  all_goals
    (refine Fsp.ofs (nx := 0) mixed Tryd.func29 rfl (by simp [Tryd.f29]) ?_; simp -implicitDefEqProofs only [push_cast, Tryd.f29, Tm.pv, Tm.kc, Tm.uc, mhas_mkU, mgetD_mkU, kAllU, mgetD_nil, mhas_nil, seval])
    all_goals (simp [Tm.has, Tm.ups, getU, wkL, res2, res1, PV.weak, PV.el]; try rfl)
theorem parent_fs (t : Tm) (i : Int) : Fsp Tryd.prog 13 [] 0 [t.pv, .int .u32 i] [] 0 (.tup [.int .u32 ((getU t.ups i).getD 0), .bool (getU t.ups i).isSome]) := by
  cases t
  all_goals
    (refine Fsp.ofs (nx := 0) mixed Tryd.func13 rfl (by simp [Tryd.f13]) ?_; simp -implicitDefEqProofs only [push_cast, Tryd.f13, Tm.pv, Tm.kc, Tm.uc, mhas_mkU, mgetD_mkU, kAllU, mgetD_nil, mhas_nil, seval])
    all_goals (simp [Tm.has, Tm.ups, getU, wkL, res2, res1, PV.weak, PV.el]; try rfl)
theorem jall_mkJ : ∀ m : List (Int × Nat), jall (mkJ m) = true
  | [] => rfl
  | x :: m => jall_mkJ m
def getJ : List (Int × Nat) → Int → Nat
  | [], _ => 0
  | x :: m, k => if k = x.1 then x.2 + 1 else getJ m k
theorem mgetD_mkJ (k : Int) : ∀ m : List (Int × Nat), mgetD (mkJ m) (.int .u32 k) (.slj 0) = .slj (getJ m k)
  | [] => rfl
  | x :: m => by
    have ih := mgetD_mkJ k m
    show (match mget ((.int .u32 x.1, .slj (x.2 + 1)) :: mkJ m) (.int .u32 k) with | some q => q | none => .slj 0) = _
    unfold mgetD at ih
    simp only [mget, keyIs_u, getJ]
    by_cases h : k = x.1
    · simp [h]
    · simp only [h, decide_false, if_false]; exact ih
/-- Kids of a window. -/
def QJ (q : PV × PV) : Prop := ∃ a n, n < 100 ∧ q = (.int .u32 a, .slj (n + 1))
theorem QJ.ok {t : Nat} (ht : tk Tryd.prog t = .int .u32) (q : PV × PV) (h : QJ q) : kOk Tryd.prog t q.1 = true := by
  obtain ⟨a, n, _, rfl⟩ := h
  simp [kOk, ht]
theorem isJ_mkJ (m : List (Int × Nat)) (h : ∀ x ∈ m, x.2 < 100) : IsE QJ (mkJ m) := fun q hq => by
  obtain ⟨x, hx, rfl⟩ := List.mem_map.1 hq
  exact ⟨_, _, h x hx, rfl⟩
theorem kAllJ (m : List (Int × Nat)) : kAll Tryd.prog 25 (mkJ m) = true := by
  refine IsE.kAll (Q := fun q => ∃ a n, q = (.int .u32 a, .slj n)) ?_ ?_
  · rintro q ⟨a, n, rfl⟩
    simp [kOk, tk_25]
  · intro q hq
    obtain ⟨x, hx, rfl⟩ := List.mem_map.1 hq
    exact ⟨_, _, rfl⟩
/-- What holds of a tree. -/
structure TmOk (t : Tm) : Prop where
  k : (t.kds.map Prod.fst).Nodup
  u : (t.ups.map Prod.fst).Nodup
  n : ∀ x ∈ t.kds, x.2 < 100
theorem nodupU {m : List (Int × Int)} (h : (m.map Prod.fst).Nodup) : ((mkU m).map Prod.fst).Nodup := by
  have : (mkU m).map Prod.fst = (m.map Prod.fst).map (PV.int .u32 ·) := by simp [mkU, List.map_map, Function.comp_def]
  rw [this]
  exact List.Pairwise.map _ (fun a b hab e => hab (by cases e; rfl)) h
theorem nodupJ {m : List (Int × Nat)} (h : (m.map Prod.fst).Nodup) : ((mkJ m).map Prod.fst).Nodup := by
  have : (mkJ m).map Prod.fst = (m.map Prod.fst).map (PV.int .u32 ·) := by simp [mkJ, List.map_map, Function.comp_def]
  rw [this]
  exact List.Pairwise.map _ (fun a b hab e => hab (by cases e; rfl)) h
def Tw.st (es : List (PV × PV)) (u : List (PV × PV)) (a : Cp es) : PS := { n := 28, env := [(16, .iref 50), (3, .box 20 0), (2, .box 4 0)], objs := [(50, some [.any, .mobj a.r]), (20, some [.mref 8, .mref 12]), (12, some [.mobj u]), (8, some [.mobj (fin es a.d a.r)]), (4, some [.nilm, .nilm])], live := [], nxt := 60 }
theorem twin_nil : Fsp Tryd.prog 35 [] 0 [.agg [.nilm, .nilm]] [[.mobj []], [.mobj []]] 0 (.agg [.mref 0, .mref 1]) := by
  have hc := copyU_nil
  (refine Fsp.ofs (nx := 0) mixed Tryd.func35 rfl (by simp [Tryd.f35]) ?_; simp -implicitDefEqProofs only [push_cast, Tryd.f35, seval])
  refine callE_box hc [12] [] (by rfl) (by rfl) (by rfl) (by rfl) (by rfl) (by rfl) (fun i j cs h1 h2 => by (rcases i with _ | _ | _ | i <;> simp at h1 h2 <;> (subst h1; subst h2; exact ⟨_, rfl, (by (repeat' (first | exact wkL_nil | refine wkL_cons ?_ ?_)); all_goals (first | exact .inl ⟨_, _, _, _, rfl, rfl, rfl⟩ | exact .inr (.inr (.inr (.inr (.inl ⟨_, _, _, rfl, rfl, rfl⟩)))) | exact .inr (.inr (.inr (.inr (.inr (.inl ⟨_, _, _, _, rfl, rfl, rfl⟩))))) | exact .inr (.inr (.inr (.inr (.inr (.inr ⟨_, _, rfl, rfl, rfl⟩))))) | exact .inr (.inl rfl) | exact .inr (.inr (.inl ⟨_, _, _, rfl, rfl, rfl⟩))))⟩))) (by simp [PS.lv, lkp_hit, lkp_miss, lkp_nil]) (by (repeat' (first | exact wkL_nil | refine wkL_cons ?_ ?_)); all_goals (first | exact .inl ⟨_, _, _, rfl, rfl, rfl⟩ | exact .inr (.inl rfl) | exact .inr (.inr (.inl ⟨_, _, _, _, rfl, rfl, rfl⟩)) | exact .inr (.inr (.inr (.inl ⟨_, _, _, rfl, rfl, rfl, (wkL_get (by (repeat' (first | exact wkL_nil | refine wkL_cons ?_ ?_)); all_goals (first | exact .inl ⟨_, _, _, rfl, rfl, rfl⟩ | exact .inr rfl))).2⟩))) | exact .inr (.inr (.inr (.inr (.inl ⟨_, _, rfl, rfl, rfl⟩)))) | exact .inr (.inr (.inr (.inr (.inr ⟨_, _, rfl, rfl, wkL_get (by (repeat' (first | exact wkL_nil | refine wkL_cons ?_ ?_)); all_goals (first | exact .inr rfl | exact .inl ⟨_, _, rfl, rfl, rfl⟩))⟩)))))) (by decide) (by simp) (by rfl) (by simp [tokLt1]) (fun _ => by rfl) (by first | rfl | simp [gdOk, newToks]) ?_
  simp -implicitDefEqProofs only [push_cast, seval]
  refine loopC_of (α := Cp []) (Tw.st [] []) (fun a => a.r.length) ⟨[], [], by simp⟩ ?_ ?_
  · (simp only [Tw.st]; exact Wk.at _ _ _ [(4, 4), (8, 8), (12, 12), (20, 20), (50, 56)] [] [] (by simp) (by simp [wkV, PV.el, PV.weak, PS.get, PS.obj, PS.lv, lkp_hit, lkp_miss, lkp_nil, lko, wkL, wkC, res1, fin]) (by simp [PS.get, PS.obj, PS.lv, lkp_hit, lkp_miss, lkp_nil, lko, wkL, wkC, PV.weak, wkL, wkC, res1, fin]))
  · rintro ⟨d, r, h⟩
    simp only [Tw.st]
    simp -implicitDefEqProofs only [push_cast, seval]
    refine ⟨?_, ?_⟩
    · intro e
      subst e
      simp -implicitDefEqProofs only [push_cast, seval]
      exact endK_box [] [8, 12] rfl rfl (by simp [PS.lv, lkp_hit, lkp_miss, lkp_nil]) rfl rfl (by rfl) (fun i j ps h1 h2 => by (rcases i with _ | _ | i <;> simp at h1 h2 <;> (subst h1; subst h2; exact ⟨_, rfl, (by (repeat' (first | exact wkL_nil | refine wkL_cons ?_ ?_)); all_goals (first | rfl | exact ⟨rfl, rfl⟩ | exact ⟨rfl, rfl, rfl⟩ | exact .inl rfl))⟩))) ⟨by simp [resOk, PS.get, PS.obj, lkp_hit, lkp_miss, lkp_nil, PS.ev, ldPV, ldOk, ofC, ofC1, TK.isAgg, tk_29, tsz_29, fin], by simp [resPV, PS.get, PS.obj, lkp_hit, lkp_miss, lkp_nil, PS.ev, ldPV, ldOk, ofC, ofC1, TK.isAgg, tk_29, tsz_29, fin], by simp [resOf, resPV, one', res3, res2, res1, PV.weak, PV.el, wkL, idx, PV.un, PS.get, PS.obj, lkp_hit, lkp_miss, lkp_nil, PS.ev, ldPV, ldOk, ofC, ofC1, TK.isAgg, tk_29, tsz_29, fin]⟩
    · intro k v rest hp
      exact absurd (cp_mem h hp) (by simp)
theorem twin_mk (k : List (Int × Nat)) (u : List (Int × Int)) (ht : TmOk (.mk k u)) : Fsp Tryd.prog 35 [] 0 [(Tm.mk k u).pv] [[.mobj (mkJ k)], [.mobj (mkU u)]] 0 (.agg [.mref 0, .mref 1]) := by
  have hc := copyU_fs (mkU u) (nodupU ht.u) (isU_mkU u)
  have hj := isJ_mkJ k ht.n
  have hjn := nodupJ ht.k
  (refine Fsp.ofs (nx := 0) mixed Tryd.func35 rfl (by simp [Tryd.f35]) ?_; simp -implicitDefEqProofs only [push_cast, Tryd.f35, Tm.pv, Tm.kc, Tm.uc, seval])
  refine callE_box hc [12] [] (by rfl) (by rfl) (by rfl) (by rfl) (by rfl) (by rfl) (fun i j cs h1 h2 => by (rcases i with _ | _ | _ | i <;> simp at h1 h2 <;> (subst h1; subst h2; exact ⟨_, rfl, (by (repeat' (first | exact wkL_nil | refine wkL_cons ?_ ?_)); all_goals (first | exact .inl ⟨_, _, _, _, rfl, rfl, rfl⟩ | exact .inr (.inr (.inr (.inr (.inl ⟨_, _, _, rfl, rfl, rfl⟩)))) | exact .inr (.inr (.inr (.inr (.inr (.inl ⟨_, _, _, _, rfl, rfl, rfl⟩))))) | exact .inr (.inr (.inr (.inr (.inr (.inr ⟨_, _, rfl, rfl, rfl⟩))))) | exact .inr (.inl rfl) | exact .inr (.inr (.inl ⟨_, _, _, rfl, rfl, rfl⟩))))⟩))) (by simp [PS.lv, lkp_hit, lkp_miss, lkp_nil]) (by (repeat' (first | exact wkL_nil | refine wkL_cons ?_ ?_)); all_goals (first | exact .inl ⟨_, _, _, rfl, rfl, rfl⟩ | exact .inr (.inl rfl) | exact .inr (.inr (.inl ⟨_, _, _, _, rfl, rfl, rfl⟩)) | exact .inr (.inr (.inr (.inl ⟨_, _, _, rfl, rfl, rfl, (wkL_get (by (repeat' (first | exact wkL_nil | refine wkL_cons ?_ ?_)); all_goals (first | exact .inl ⟨_, _, _, rfl, rfl, rfl⟩ | exact .inr rfl))).2⟩))) | exact .inr (.inr (.inr (.inr (.inl ⟨_, _, rfl, rfl, rfl⟩)))) | exact .inr (.inr (.inr (.inr (.inr ⟨_, _, rfl, rfl, wkL_get (by (repeat' (first | exact wkL_nil | refine wkL_cons ?_ ?_)); all_goals (first | exact .inr rfl | exact .inl ⟨_, _, rfl, rfl, rfl⟩))⟩)))))) (by decide) (by simp) (by rfl) (by simp [tokLt1]) (fun _ => by rfl) (by first | rfl | simp [gdOk, newToks]) ?_
  simp -implicitDefEqProofs only [push_cast, seval]
  refine loopC_of (α := Cp (mkJ k)) (Tw.st (mkJ k) (mkU u)) (fun a => a.r.length) ⟨[], mkJ k, by simp⟩ ?_ ?_
  · refine Wk.trans (Wk.perm 8 (fin (mkJ k) [] (mkJ k)) (by rfl) (fin_perm (by simp))) ?_
    (simp only [Tw.st]; exact Wk.at _ _ _ [(4, 4), (8, 8), (12, 12), (20, 20), (50, 56)] [] [] (by simp) (by simp [wkV, PV.el, PV.weak, PS.get, PS.obj, PS.lv, lkp_hit, lkp_miss, lkp_nil, lko, wkL, wkC, res1]) (by simp [PS.get, PS.obj, PS.lv, lkp_hit, lkp_miss, lkp_nil, lko, wkL, wkC, PV.weak, wkL, wkC, res1]))
  · rintro ⟨d, r, h⟩
    have hk0 := (hj.fin h).kAll (QJ.ok tk_25)
    simp only [Tw.st]
    simp -implicitDefEqProofs only [push_cast, seval]
    refine ⟨?_, ?_⟩
    · intro e
      subst e
      simp -implicitDefEqProofs only [push_cast, seval]
      exact endK_box [] [8, 12] rfl rfl (by simp [PS.lv, lkp_hit, lkp_miss, lkp_nil]) rfl rfl (by rfl) (fun i j ps h1 h2 => by (rcases i with _ | _ | i <;> simp at h1 h2 <;> (subst h1; subst h2; exact ⟨_, rfl, (by (repeat' (first | exact wkL_nil | refine wkL_cons ?_ ?_)); all_goals (first | rfl | exact ⟨rfl, rfl⟩ | exact ⟨rfl, rfl, rfl⟩ | exact .inl rfl))⟩))) ⟨by simp [resOk, PS.get, PS.obj, lkp_hit, lkp_miss, lkp_nil, PS.ev, ldPV, ldOk, ofC, ofC1, TK.isAgg, tk_29, tsz_29, fin], by simp [resPV, PS.get, PS.obj, lkp_hit, lkp_miss, lkp_nil, PS.ev, ldPV, ldOk, ofC, ofC1, TK.isAgg, tk_29, tsz_29, fin], by simp [resOf, resPV, one', res3, res2, res1, PV.weak, PV.el, wkL, idx, PV.un, PS.get, PS.obj, lkp_hit, lkp_miss, lkp_nil, PS.ev, ldPV, ldOk, ofC, ofC1, TK.isAgg, tk_29, tsz_29, fin]⟩
    · intro k' v rest hp
      obtain ⟨a, n, hn, hab⟩ := hj _ (cp_mem h hp)
      cases hab
      have hs := cp_set (.slj (n + 1)) rfl hjn h hp
      have hcl := cloneJ_fs n (by omega)
      rw [fin_cons hp] at hk0 ⊢
      simp -implicitDefEqProofs only [push_cast, seval]
      refine callE_p hcl ?_
      simp -implicitDefEqProofs only [push_cast, hk0, hs, seval]
      (repeat (first | refine ⟨(by omega : _ ≤ _), ?_⟩ | refine ⟨(by omega : _ < _), ?_⟩ | refine ⟨by (unfold drawOk; kernel_rfl), ?_⟩ | refine ⟨(by simp; done), ?_⟩ | refine ⟨(by simp; omega), ?_⟩))
      refine ⟨⟨(.int .u32 a, .slj (n + 1)) :: d, rest, cp_next h hp⟩, by (rw [hp.length_eq]; simp), ?_⟩
      refine Wk.trans (Wk.perm 8 (fin (mkJ k) ((.int .u32 a, .slj (n + 1)) :: d) rest) (by rfl) (fin_perm (cp_next h hp))) ?_
      (simp only [Tw.st]; exact Wk.at _ _ _ [(4, 4), (8, 8), (12, 12), (20, 20), (50, 50)] [] [] (by simp) (by simp [wkV, PV.el, PV.weak, PS.get, PS.obj, PS.lv, lkp_hit, lkp_miss, lkp_nil, lko, wkL, wkC, res1]) (by simp [PS.get, PS.obj, PS.lv, lkp_hit, lkp_miss, lkp_nil, lko, wkL, wkC, PV.weak, wkL, wkC, res1]))
theorem twin_fs (t : Tm) (ht : TmOk t) : Fsp Tryd.prog 35 [] 0 [t.pv] [[.mobj (mkJ t.kds)], [.mobj (mkU t.ups)]] 0 (.agg [.mref 0, .mref 1]) := by
  cases t with
  | nil => exact twin_nil
  | mk k u => exact twin_mk k u ht
/-- A window more. -/
def setJ (m : List (Int × Nat)) (k : Int) (n : Nat) : List (Int × Nat) := (k, n) :: m.filter fun x => !decide (k = x.1)
def setU (m : List (Int × Int)) (k v : Int) : List (Int × Int) := (k, v) :: m.filter fun x => !decide (k = x.1)
theorem mset_mkU (m : List (Int × Int)) (k v : Int) : mset (mkU m) (.int .u32 k) (.int .u32 v) = mkU (setU m k v) := by
  rw [mset, mdel, mkU, List.filter_map]
  have e : (fun x : Int × Int => !decide (k = x.1)) = ((fun q : PV × PV => !keyIs (.int .u32 k) q.1) ∘ fun x : Int × Int => (PV.int .u32 x.1, PV.int .u32 x.2)) := by
    funext x
    simp only [Function.comp, keyIs_u]
  rw [setU, mkU, List.map_cons, e]
theorem mset_mkJ (m : List (Int × Nat)) (k : Int) (n : Nat) : mset (mkJ m) (.int .u32 k) (.slj (n + 1)) = mkJ (setJ m k n) := by
  rw [mset, mdel, mkJ, List.filter_map]
  have e : (fun x : Int × Nat => !decide (k = x.1)) = ((fun q : PV × PV => !keyIs (.int .u32 k) q.1) ∘ fun x : Int × Nat => (PV.int .u32 x.1, PV.slj (x.2 + 1))) := by
    funext x
    simp only [Function.comp, keyIs_u]
  rw [setJ, mkJ, List.map_cons, e]
theorem getJ_lt {m : List (Int × Nat)} (h : ∀ x ∈ m, x.2 < 100) (k : Int) : getJ m k ≤ 100 := by
  induction m with
  | nil => simp [getJ]
  | cons x m ih =>
    simp only [getJ]
    split
    · have := h x (by simp); omega
    · exact ih (fun y hy => h y (List.mem_cons_of_mem _ hy))
theorem put_fs (k : List (Int × Nat)) (u : List (Int × Int)) (i p : Int) (ht : TmOk (.mk k u)) : Fsp Tryd.prog 36 [[.mobj (mkJ k)], [.mobj (mkU u)]] 0 [.agg [.mref 0, .mref 1], .int .u32 i, .int .u32 p] [[.mobj (mkJ (setJ k p (getJ k p)))], [.mobj (mkU (setU u i p))]] 0 (.tup []) := by
  have hg : getJ k p ≤ 100 := getJ_lt (show ∀ x ∈ k, x.2 < 100 from ht.n) p
  have ha := kAllJ k
  have hb := kAllU u
  (refine Fsp.of (nx := 2) mixed Tryd.func36 rfl (by decide) (by first | exact Nat.le_refl _ | simp) (by simp [Tryd.f36]) ⟨by simp, by simp⟩ ?_; simp -implicitDefEqProofs only [push_cast, Tryd.f36, jall_mkJ, ha, mgetD_mkJ, seval])
  refine ⟨by omega, by omega, by (unfold drawOk; kernel_rfl), ?_⟩
  rw [mset_mkJ, mset_mkU]
  refine ⟨hb, ?_⟩
  exact endK_box [] [0, 1] rfl rfl (by simp [PS.lv, lkp_hit, lkp_miss, lkp_nil]) rfl rfl (by rfl) (fun i j ps h1 h2 => by (rcases i with _ | _ | i <;> simp at h1 h2 <;> (subst h1; subst h2; exact ⟨_, rfl, (by (repeat' (first | exact wkL_nil | refine wkL_cons ?_ ?_)); all_goals (first | rfl | exact ⟨rfl, rfl⟩ | exact ⟨rfl, rfl, rfl⟩ | exact .inl rfl))⟩))) ⟨by simp [resOk, PS.get, lkp_hit, lkp_miss, PS.ev], by simp [resPV, PS.get, lkp_hit, lkp_miss, PS.ev], by simp [resOf, resPV, one', res3, res2, res1, PS.get, lkp_hit, lkp_miss, PS.ev, PV.weak, PV.el, wkL]⟩
/-- The tree with a window more. -/
def Tm.add (t : Tm) (i p : Int) : Tm := .mk (setJ t.kds p (getJ t.kds p)) (setU t.ups i p)
theorem TmOk.mk' {t : Tm} (h : TmOk t) : TmOk (.mk t.kds t.ups) := ⟨h.k, h.u, h.n⟩
set_option maxHeartbeats 1000000 in
theorem add_fs0 (t : Tm) (i p : Int) (ht : TmOk t) (h0 : 0 < i) (h1 : i < 4294967296) (hc : (clS i).2 = true) (hi : t.has i = false) (hp : t.has p = true) (hl : t.ups.length < 63) :
    Fsp Tryd.prog 22 [] 0 [t.pv, .int .u32 i, .int .u32 p] [[.mobj (mkJ (setJ t.kds p (getJ t.kds p)))], [.mobj (mkU (setU t.ups i p))]] 0 (.tup [.agg [.mref 0, .mref 1], .int .i64 0]) := by
  have hck := check_fs i h0 h1 hc
  have hh1 := has_fs t i
  have hh2 := has_fs t p
  rw [hi] at hh1
  rw [hp] at hh2
  have htw := twin_fs t ht
  have hpt := put_fs t.kds t.ups i p ht.mk'
  have hml : (mkU t.ups).length = t.ups.length := by simp [mkU]
  have hw : IntKind.i64.wrap ((t.ups.length : Int) + 1) = (t.ups.length : Int) + 1 := wrap_i64_id (by omega) (by omega)
  have hg : decide ((64 : Int) ≤ (t.ups.length : Int) + 1) = false := by (simp; omega)
  cases t with
  | nil =>
    simp only [Tm.pv, Tm.kc, Tm.uc, Tm.ups, Tm.kds] at *
    (refine Fsp.ofs (nx := 0) mixed Tryd.func22 rfl (by simp [Tryd.f22]) ?_; simp -implicitDefEqProofs only [push_cast, Tryd.f22, seval])
    refine callE_p hck ?_
    simp -implicitDefEqProofs only [push_cast, seval]
    refine callE_p hh1 ?_
    simp -implicitDefEqProofs only [push_cast, seval]
    refine callE_p hh2 ?_
    simp -implicitDefEqProofs only [push_cast, seval]
    refine callE_new htw (by rfl) (by rfl) (by rfl) (by first | decide | simp) (by first | decide | simp) (by rfl) (by simp [tokLt1]) (fun _ => by rfl) (by first | rfl | simp [gdOk, newToks]) ?_
    simp -implicitDefEqProofs only [push_cast, upto, seval]
    refine callE_box hpt [96, 97] [] (by rfl) (by rfl) (by rfl) (by rfl) (by rfl) (by rfl) (fun i j cs h1 h2 => by (rcases i with _ | _ | _ | i <;> simp at h1 h2 <;> (subst h1; subst h2; exact ⟨_, rfl, (by (repeat' (first | exact wkL_nil | refine wkL_cons ?_ ?_)); all_goals (first | exact .inl ⟨_, _, _, _, rfl, rfl, rfl⟩ | exact .inr (.inr (.inr (.inr (.inl ⟨_, _, _, rfl, rfl, rfl⟩)))) | exact .inr (.inr (.inr (.inr (.inr (.inl ⟨_, _, _, _, rfl, rfl, rfl⟩))))) | exact .inr (.inr (.inr (.inr (.inr (.inr ⟨_, _, rfl, rfl, rfl⟩))))) | exact .inr (.inl rfl) | exact .inr (.inr (.inl ⟨_, _, _, rfl, rfl, rfl⟩))))⟩))) (by simp [PS.lv, lkp_hit, lkp_miss, lkp_nil]) (by (repeat' (first | exact wkL_nil | refine wkL_cons ?_ ?_)); all_goals (first | exact .inl ⟨_, _, _, rfl, rfl, rfl⟩ | exact .inr (.inl rfl) | exact .inr (.inr (.inl ⟨_, _, _, _, rfl, rfl, rfl⟩)) | exact .inr (.inr (.inr (.inl ⟨_, _, _, rfl, rfl, rfl, (wkL_get (by (repeat' (first | exact wkL_nil | refine wkL_cons ?_ ?_)); all_goals (first | exact .inl ⟨_, _, _, rfl, rfl, rfl⟩ | exact .inr rfl))).2⟩))) | exact .inr (.inr (.inr (.inr (.inl ⟨_, _, rfl, rfl, rfl⟩)))) | exact .inr (.inr (.inr (.inr (.inr ⟨_, _, rfl, rfl, wkL_get (by (repeat' (first | exact wkL_nil | refine wkL_cons ?_ ?_)); all_goals (first | exact .inr rfl | exact .inl ⟨_, _, rfl, rfl, rfl⟩))⟩)))))) (by decide) (by simp) (by rfl) (by simp [tokLt1]) (fun _ => by rfl) (by first | rfl | simp [gdOk, newToks]) ?_
    simp -implicitDefEqProofs only [push_cast, seval]
    exact endK_box [] [96, 97] rfl rfl (by simp [PS.lv, lkp_hit, lkp_miss, lkp_nil]) rfl rfl (by rfl) (fun i j ps h1 h2 => by (rcases i with _ | _ | i <;> simp at h1 h2 <;> (subst h1; subst h2; exact ⟨_, rfl, (by (repeat' (first | exact wkL_nil | refine wkL_cons ?_ ?_)); all_goals (first | rfl | exact ⟨rfl, rfl⟩ | exact ⟨rfl, rfl, rfl⟩ | exact .inl rfl))⟩))) ⟨by simp [resOk, PS.get, PS.obj, lkp_hit, lkp_miss, lkp_nil, PS.ev, ldPV, ldOk, ofC, ofC1, TK.isAgg, tk_29, tsz_29], by simp [resPV, PS.get, PS.obj, lkp_hit, lkp_miss, lkp_nil, PS.ev, ldPV, ldOk, ofC, ofC1, TK.isAgg, tk_29, tsz_29], by simp [resOf, resPV, one', res3, res2, res1, PV.weak, PV.el, wkL, idx, PV.un, PS.get, PS.obj, lkp_hit, lkp_miss, lkp_nil, PS.ev, ldPV, ldOk, ofC, ofC1, TK.isAgg, tk_29, tsz_29]⟩
  | mk k u =>
    simp only [Tm.pv, Tm.kc, Tm.uc, Tm.ups, Tm.kds] at *
    (refine Fsp.ofs (nx := 0) mixed Tryd.func22 rfl (by simp [Tryd.f22]) ?_; simp -implicitDefEqProofs only [push_cast, Tryd.f22, seval])
    refine callE_p hck ?_
    simp -implicitDefEqProofs only [push_cast, seval]
    refine callE_p hh1 ?_
    simp -implicitDefEqProofs only [push_cast, seval]
    refine callE_p hh2 ?_
    simp -implicitDefEqProofs only [push_cast, hml, hw, seval]
    refine condC_split (fun g1 => ?_) (fun g1 => ?_)
    · exfalso
      simp at g1
      omega
    · simp -implicitDefEqProofs only [push_cast, seval]
      refine callE_new htw (by rfl) (by rfl) (by rfl) (by first | decide | simp) (by first | decide | simp) (by rfl) (by simp [tokLt1]) (fun _ => by rfl) (by first | rfl | simp [gdOk, newToks]) ?_
      simp -implicitDefEqProofs only [push_cast, upto, seval]
      refine callE_box hpt [96, 97] [] (by rfl) (by rfl) (by rfl) (by rfl) (by rfl) (by rfl) (fun i j cs h1 h2 => by (rcases i with _ | _ | _ | i <;> simp at h1 h2 <;> (subst h1; subst h2; exact ⟨_, rfl, (by (repeat' (first | exact wkL_nil | refine wkL_cons ?_ ?_)); all_goals (first | exact .inl ⟨_, _, _, _, rfl, rfl, rfl⟩ | exact .inr (.inr (.inr (.inr (.inl ⟨_, _, _, rfl, rfl, rfl⟩)))) | exact .inr (.inr (.inr (.inr (.inr (.inl ⟨_, _, _, _, rfl, rfl, rfl⟩))))) | exact .inr (.inr (.inr (.inr (.inr (.inr ⟨_, _, rfl, rfl, rfl⟩))))) | exact .inr (.inl rfl) | exact .inr (.inr (.inl ⟨_, _, _, rfl, rfl, rfl⟩))))⟩))) (by simp [PS.lv, lkp_hit, lkp_miss, lkp_nil]) (by (repeat' (first | exact wkL_nil | refine wkL_cons ?_ ?_)); all_goals (first | exact .inl ⟨_, _, _, rfl, rfl, rfl⟩ | exact .inr (.inl rfl) | exact .inr (.inr (.inl ⟨_, _, _, _, rfl, rfl, rfl⟩)) | exact .inr (.inr (.inr (.inl ⟨_, _, _, rfl, rfl, rfl, (wkL_get (by (repeat' (first | exact wkL_nil | refine wkL_cons ?_ ?_)); all_goals (first | exact .inl ⟨_, _, _, rfl, rfl, rfl⟩ | exact .inr rfl))).2⟩))) | exact .inr (.inr (.inr (.inr (.inl ⟨_, _, rfl, rfl, rfl⟩)))) | exact .inr (.inr (.inr (.inr (.inr ⟨_, _, rfl, rfl, wkL_get (by (repeat' (first | exact wkL_nil | refine wkL_cons ?_ ?_)); all_goals (first | exact .inr rfl | exact .inl ⟨_, _, rfl, rfl, rfl⟩))⟩)))))) (by decide) (by simp) (by rfl) (by simp [tokLt1]) (fun _ => by rfl) (by first | rfl | simp [gdOk, newToks]) ?_
      simp -implicitDefEqProofs only [push_cast, seval]
      exact endK_box [] [96, 97] rfl rfl (by simp [PS.lv, lkp_hit, lkp_miss, lkp_nil]) rfl rfl (by rfl) (fun i j ps h1 h2 => by (rcases i with _ | _ | i <;> simp at h1 h2 <;> (subst h1; subst h2; exact ⟨_, rfl, (by (repeat' (first | exact wkL_nil | refine wkL_cons ?_ ?_)); all_goals (first | rfl | exact ⟨rfl, rfl⟩ | exact ⟨rfl, rfl, rfl⟩ | exact .inl rfl))⟩))) ⟨by simp [resOk, PS.get, PS.obj, lkp_hit, lkp_miss, lkp_nil, PS.ev, ldPV, ldOk, ofC, ofC1, TK.isAgg, tk_29, tsz_29], by simp [resPV, PS.get, PS.obj, lkp_hit, lkp_miss, lkp_nil, PS.ev, ldPV, ldOk, ofC, ofC1, TK.isAgg, tk_29, tsz_29], by simp [resOf, resPV, one', res3, res2, res1, PV.weak, PV.el, wkL, idx, PV.un, PS.get, PS.obj, lkp_hit, lkp_miss, lkp_nil, PS.ev, ldPV, ldOk, ofC, ofC1, TK.isAgg, tk_29, tsz_29]⟩
theorem add_fs (t : Tm) (i p : Int) (ht : TmOk t) (h0 : 0 < i) (h1 : i < 4294967296) (hc : (clS i).2 = true) (hi : t.has i = false) (hp : t.has p = true) (hl : t.ups.length < 63) :
    Fsp Tryd.prog 22 [] 0 [t.pv, .int .u32 i, .int .u32 p] [] 0 (.tup [(t.add i p).pv, .int .i64 0]) :=
  (((add_fs0 t i p ht h0 h1 hc hi hp hl).freezeM (bs' := [[.mobj (mkJ (setJ t.kds p (getJ t.kds p)))]]) (Nat.zero_le _)).freezeM (bs' := []) (Nat.zero_le _))
end Go.Proofs.Sh

/- Package choice: Mask, the copies, Set. -/
set_option maxRecDepth 100000
set_option linter.unusedSimpArgs false
set_option linter.unusedVariables false
namespace Go.Proofs.Sh
open Go.Pv
/-- A window's masks. -/
def mkC (m : List ((Int × Int) × Int)) : List (PV × PV) := m.map fun x => (.agg [.int .i64 x.1.1, .int .u32 x.1.2], .int .i64 x.2)
inductive Cm where
  | nil
  | mk (m : List ((Int × Int) × Int))
def Cm.mc : Cm → PV
  | .nil => .nilm
  | .mk m => .mpure (mkC m)
def Cm.sc : Cm → PV
  | .nil => .nilm
  | .mk _ => .mpure []
def Cm.ms : Cm → List ((Int × Int) × Int)
  | .nil => []
  | .mk m => m
def Cm.pv (c : Cm) : PV := .agg [c.mc, c.sc]
def getC : List ((Int × Int) × Int) → Int → Int → Int
  | [], _, _ => 0
  | x :: m, a, b => if a = x.1.1 ∧ b = x.1.2 then x.2 else getC m a b
theorem keyIs_c (a b c d : Int) : keyIs (.agg [.int .i64 a, .int .u32 b]) (.agg [.int .i64 c, .int .u32 d]) = decide (a = c ∧ b = d) := by
  show (decide (IntKind.i64 = IntKind.i64) && decide (a = c) && (decide (IntKind.u32 = IntKind.u32) && decide (b = d) && true)) = _
  simp
theorem mgetD_mkC (a b : Int) : ∀ m : List ((Int × Int) × Int), mgetD (mkC m) (.agg [.int .i64 a, .int .u32 b]) (.int .i64 0) = .int .i64 (getC m a b)
  | [] => rfl
  | x :: m => by
    have ih := mgetD_mkC a b m
    show (match mget ((.agg [.int .i64 x.1.1, .int .u32 x.1.2], .int .i64 x.2) :: mkC m) (.agg [.int .i64 a, .int .u32 b]) with | some q => q | none => .int .i64 0) = _
    unfold mgetD at ih
    simp only [mget, keyIs_c, getC]
    by_cases h : a = x.1.1 ∧ b = x.1.2
    · simp [h]
    · simp only [h, decide_false, if_false]; exact ih
/-- What holds of a choice. -/
structure CmOk (c : Cm) : Prop where
  k : (c.ms.map Prod.fst).Nodup
  w : ∀ x ∈ c.ms, (Go.Lit.int .i64 x.1.1).wf = true ∧ (Go.Lit.int .u32 x.1.2).wf = true
  n : c.ms.length < 1000
theorem isC_mkC {m : List ((Int × Int) × Int)} (h : ∀ x ∈ m, (Go.Lit.int .i64 x.1.1).wf = true ∧ (Go.Lit.int .u32 x.1.2).wf = true) : IsE QC (mkC m) := fun q hq => by
  obtain ⟨x, hx, rfl⟩ := List.mem_map.1 hq
  exact ⟨_, _, _, (h x hx).1, (h x hx).2, rfl⟩
theorem kAllC {m : List ((Int × Int) × Int)} (h : ∀ x ∈ m, (Go.Lit.int .i64 x.1.1).wf = true ∧ (Go.Lit.int .u32 x.1.2).wf = true) : kAll Tryd.prog 87 (mkC m) = true := (isC_mkC h).kAll QC.ok
theorem nodupC {m : List ((Int × Int) × Int)} (h : (m.map Prod.fst).Nodup) : ((mkC m).map Prod.fst).Nodup := by
  have : (mkC m).map Prod.fst = (m.map Prod.fst).map (fun x : Int × Int => PV.agg [.int .i64 x.1, .int .u32 x.2]) := by simp [mkC, List.map_map, Function.comp_def]
  rw [this]
  refine List.Pairwise.map _ (fun a b hab e => hab ?_) h
  obtain ⟨a1, a2⟩ := a
  obtain ⟨b1, b2⟩ := b
  cases e; rfl
theorem mask_fs (c : Cm) (hc : CmOk c) (a b : Int) (ha : (Go.Lit.int .i64 a).wf = true) (hb : (Go.Lit.int .u32 b).wf = true) : Fsp Tryd.prog 14 [] 0 [c.pv, .int .i64 a, .int .u32 b] [] 0 (.int .i64 (getC c.ms a b)) := by
  have hw := hc.w
  cases c with
  | nil =>
    (refine Fsp.ofs (nx := 0) mixed Tryd.func14 rfl (by simp [Tryd.f14]) ?_; simp -implicitDefEqProofs only [push_cast, Tryd.f14, Cm.pv, Cm.mc, Cm.sc, kTyS_key, kOkS_key a b ha hb, mgetD_nil, seval])
    all_goals (first | done | rfl | exact ⟨_, rfl, by simp [wkL, res2, res1, PV.weak, PV.el, Cm.ms, getC]⟩ | (simp [wkL, res2, res1, PV.weak, PV.el, Cm.ms, getC]; done))
  | mk m =>
    have hk := kAllC (m := m) hw
    (refine Fsp.ofs (nx := 0) mixed Tryd.func14 rfl (by simp [Tryd.f14]) ?_; simp -implicitDefEqProofs only [push_cast, Tryd.f14, Cm.pv, Cm.mc, Cm.sc, kTyS_key, kOkS_key a b ha hb, hk, mgetD_mkC, seval])
    all_goals (first | done | rfl | exact ⟨_, rfl, by simp [wkL, res2, res1, PV.weak, PV.el, Cm.ms, getC]⟩ | (simp [wkL, res2, res1, PV.weak, PV.el, Cm.ms, getC]; done))
theorem copied_fs (c : Cm) (hc : CmOk c) : Fsp Tryd.prog 44 [] 0 [c.pv] [[.mobj (mkC c.ms)], [.mobj []]] 0 (.agg [.mref 0, .mref 1]) := by
  have h1 := hc.k
  have h2 := hc.w
  have h3 := hc.n
  have hml : (mkC c.ms).length = c.ms.length := by simp [mkC]
  have hw1 : IntKind.i64.wrap ((c.ms.length : Int) + 1) = (c.ms.length : Int) + 1 := wrap_i64_id (by omega) (by omega)
  cases c with
  | nil =>
    have hm := copyC_nil
    have hs := copyS_nil
    (refine Fsp.ofs (nx := 0) mixed Tryd.func44 rfl (by simp [Tryd.f44]) ?_; simp -implicitDefEqProofs only [push_cast, Tryd.f44, Cm.pv, Cm.mc, Cm.sc, seval])
    (repeat (first | refine ⟨(by omega : _ ≤ _), ?_⟩ | refine ⟨(by omega : _ < _), ?_⟩ | refine ⟨by (unfold drawOk; kernel_rfl), ?_⟩ | refine ⟨(by simp; done), ?_⟩ | refine ⟨(by simp; omega), ?_⟩))
    refine callE_box hm [24] [] (by rfl) (by rfl) (by rfl) (by rfl) (by rfl) (by rfl) (fun i j cs h1 h2 => by (rcases i with _ | _ | _ | i <;> simp at h1 h2 <;> (subst h1; subst h2; exact ⟨_, rfl, (by (repeat' (first | exact wkL_nil | refine wkL_cons ?_ ?_)); all_goals (first | exact .inl ⟨_, _, _, _, rfl, rfl, rfl⟩ | exact .inr (.inr (.inr (.inr (.inl ⟨_, _, _, rfl, rfl, rfl⟩)))) | exact .inr (.inr (.inr (.inr (.inr (.inl ⟨_, _, _, _, rfl, rfl, rfl⟩))))) | exact .inr (.inr (.inr (.inr (.inr (.inr ⟨_, _, rfl, rfl, rfl⟩))))) | exact .inr (.inl rfl) | exact .inr (.inr (.inl ⟨_, _, _, rfl, rfl, rfl⟩))))⟩))) (by simp [PS.lv, lkp_hit, lkp_miss, lkp_nil]) (by (repeat' (first | exact wkL_nil | refine wkL_cons ?_ ?_)); all_goals (first | exact .inl ⟨_, _, _, rfl, rfl, rfl⟩ | exact .inr (.inl rfl) | exact .inr (.inr (.inl ⟨_, _, _, _, rfl, rfl, rfl⟩)) | exact .inr (.inr (.inr (.inl ⟨_, _, _, rfl, rfl, rfl, (wkL_get (by (repeat' (first | exact wkL_nil | refine wkL_cons ?_ ?_)); all_goals (first | exact .inl ⟨_, _, _, rfl, rfl, rfl⟩ | exact .inr rfl))).2⟩))) | exact .inr (.inr (.inr (.inr (.inl ⟨_, _, rfl, rfl, rfl⟩)))) | exact .inr (.inr (.inr (.inr (.inr ⟨_, _, rfl, rfl, wkL_get (by (repeat' (first | exact wkL_nil | refine wkL_cons ?_ ?_)); all_goals (first | exact .inr rfl | exact .inl ⟨_, _, rfl, rfl, rfl⟩))⟩)))))) (by decide) (by simp) (by rfl) (by simp [tokLt1]) (fun _ => by rfl) (by first | rfl | simp [gdOk, newToks]) ?_
    simp -implicitDefEqProofs only [push_cast, seval]
    refine callE_box hs [44] [] (by rfl) (by rfl) (by rfl) (by rfl) (by rfl) (by rfl) (fun i j cs h1 h2 => by (rcases i with _ | _ | _ | i <;> simp at h1 h2 <;> (subst h1; subst h2; exact ⟨_, rfl, (by (repeat' (first | exact wkL_nil | refine wkL_cons ?_ ?_)); all_goals (first | exact .inl ⟨_, _, _, _, rfl, rfl, rfl⟩ | exact .inr (.inr (.inr (.inr (.inl ⟨_, _, _, rfl, rfl, rfl⟩)))) | exact .inr (.inr (.inr (.inr (.inr (.inl ⟨_, _, _, _, rfl, rfl, rfl⟩))))) | exact .inr (.inr (.inr (.inr (.inr (.inr ⟨_, _, rfl, rfl, rfl⟩))))) | exact .inr (.inl rfl) | exact .inr (.inr (.inl ⟨_, _, _, rfl, rfl, rfl⟩))))⟩))) (by simp [PS.lv, lkp_hit, lkp_miss, lkp_nil]) (by (repeat' (first | exact wkL_nil | refine wkL_cons ?_ ?_)); all_goals (first | exact .inl ⟨_, _, _, rfl, rfl, rfl⟩ | exact .inr (.inl rfl) | exact .inr (.inr (.inl ⟨_, _, _, _, rfl, rfl, rfl⟩)) | exact .inr (.inr (.inr (.inl ⟨_, _, _, rfl, rfl, rfl, (wkL_get (by (repeat' (first | exact wkL_nil | refine wkL_cons ?_ ?_)); all_goals (first | exact .inl ⟨_, _, _, rfl, rfl, rfl⟩ | exact .inr rfl))).2⟩))) | exact .inr (.inr (.inr (.inr (.inl ⟨_, _, rfl, rfl, rfl⟩)))) | exact .inr (.inr (.inr (.inr (.inr ⟨_, _, rfl, rfl, wkL_get (by (repeat' (first | exact wkL_nil | refine wkL_cons ?_ ?_)); all_goals (first | exact .inr rfl | exact .inl ⟨_, _, rfl, rfl, rfl⟩))⟩)))))) (by decide) (by simp) (by rfl) (by simp [tokLt1]) (fun _ => by rfl) (by first | rfl | simp [gdOk, newToks]) ?_
    simp -implicitDefEqProofs only [push_cast, seval]
    exact endK_box [] [24, 44] rfl rfl (by simp [PS.lv, lkp_hit, lkp_miss, lkp_nil]) rfl rfl (by rfl) (fun i j ps h1 h2 => by (rcases i with _ | _ | i <;> simp at h1 h2 <;> (subst h1; subst h2; exact ⟨_, rfl, (by (repeat' (first | exact wkL_nil | refine wkL_cons ?_ ?_)); all_goals (first | rfl | exact ⟨rfl, rfl⟩ | exact ⟨rfl, rfl, rfl⟩ | exact .inl rfl))⟩))) ⟨by simp [resOk, PS.get, PS.obj, lkp_hit, lkp_miss, lkp_nil, PS.ev, ldPV, ldOk, ofC, ofC1, TK.isAgg, tk_34, tsz_34], by simp [resPV, PS.get, PS.obj, lkp_hit, lkp_miss, lkp_nil, PS.ev, ldPV, ldOk, ofC, ofC1, TK.isAgg, tk_34, tsz_34], by simp [resOf, resPV, one', res3, res2, res1, PV.weak, PV.el, wkL, idx, PV.un, PS.get, PS.obj, lkp_hit, lkp_miss, lkp_nil, PS.ev, ldPV, ldOk, ofC, ofC1, TK.isAgg, tk_34, tsz_34]⟩
  | mk m =>
    have hm := copyC_fs (mkC m) (nodupC h1) (isC_mkC h2)
    have hs := copyS_fs [] (by simp) (fun q hq => by cases hq)
    simp only [Cm.ms] at *
    (refine Fsp.ofs (nx := 0) mixed Tryd.func44 rfl (by simp [Tryd.f44]) ?_; simp -implicitDefEqProofs only [push_cast, Tryd.f44, Cm.pv, Cm.mc, Cm.sc, hml, hw1, seval])
    (repeat (first | refine ⟨(by omega : _ ≤ _), ?_⟩ | refine ⟨(by omega : _ < _), ?_⟩ | refine ⟨by (unfold drawOk; kernel_rfl), ?_⟩ | refine ⟨(by simp; done), ?_⟩ | refine ⟨(by simp; omega), ?_⟩))
    refine callE_box hm [24] [] (by rfl) (by rfl) (by rfl) (by rfl) (by rfl) (by rfl) (fun i j cs h1 h2 => by (rcases i with _ | _ | _ | i <;> simp at h1 h2 <;> (subst h1; subst h2; exact ⟨_, rfl, (by (repeat' (first | exact wkL_nil | refine wkL_cons ?_ ?_)); all_goals (first | exact .inl ⟨_, _, _, _, rfl, rfl, rfl⟩ | exact .inr (.inr (.inr (.inr (.inl ⟨_, _, _, rfl, rfl, rfl⟩)))) | exact .inr (.inr (.inr (.inr (.inr (.inl ⟨_, _, _, _, rfl, rfl, rfl⟩))))) | exact .inr (.inr (.inr (.inr (.inr (.inr ⟨_, _, rfl, rfl, rfl⟩))))) | exact .inr (.inl rfl) | exact .inr (.inr (.inl ⟨_, _, _, rfl, rfl, rfl⟩))))⟩))) (by simp [PS.lv, lkp_hit, lkp_miss, lkp_nil]) (by (repeat' (first | exact wkL_nil | refine wkL_cons ?_ ?_)); all_goals (first | exact .inl ⟨_, _, _, rfl, rfl, rfl⟩ | exact .inr (.inl rfl) | exact .inr (.inr (.inl ⟨_, _, _, _, rfl, rfl, rfl⟩)) | exact .inr (.inr (.inr (.inl ⟨_, _, _, rfl, rfl, rfl, (wkL_get (by (repeat' (first | exact wkL_nil | refine wkL_cons ?_ ?_)); all_goals (first | exact .inl ⟨_, _, _, rfl, rfl, rfl⟩ | exact .inr rfl))).2⟩))) | exact .inr (.inr (.inr (.inr (.inl ⟨_, _, rfl, rfl, rfl⟩)))) | exact .inr (.inr (.inr (.inr (.inr ⟨_, _, rfl, rfl, wkL_get (by (repeat' (first | exact wkL_nil | refine wkL_cons ?_ ?_)); all_goals (first | exact .inr rfl | exact .inl ⟨_, _, rfl, rfl, rfl⟩))⟩)))))) (by decide) (by simp) (by rfl) (by simp [tokLt1]) (fun _ => by rfl) (by first | rfl | simp [gdOk, newToks]) ?_
    simp -implicitDefEqProofs only [push_cast, seval]
    refine callE_box hs [44] [] (by rfl) (by rfl) (by rfl) (by rfl) (by rfl) (by rfl) (fun i j cs h1 h2 => by (rcases i with _ | _ | _ | i <;> simp at h1 h2 <;> (subst h1; subst h2; exact ⟨_, rfl, (by (repeat' (first | exact wkL_nil | refine wkL_cons ?_ ?_)); all_goals (first | exact .inl ⟨_, _, _, _, rfl, rfl, rfl⟩ | exact .inr (.inr (.inr (.inr (.inl ⟨_, _, _, rfl, rfl, rfl⟩)))) | exact .inr (.inr (.inr (.inr (.inr (.inl ⟨_, _, _, _, rfl, rfl, rfl⟩))))) | exact .inr (.inr (.inr (.inr (.inr (.inr ⟨_, _, rfl, rfl, rfl⟩))))) | exact .inr (.inl rfl) | exact .inr (.inr (.inl ⟨_, _, _, rfl, rfl, rfl⟩))))⟩))) (by simp [PS.lv, lkp_hit, lkp_miss, lkp_nil]) (by (repeat' (first | exact wkL_nil | refine wkL_cons ?_ ?_)); all_goals (first | exact .inl ⟨_, _, _, rfl, rfl, rfl⟩ | exact .inr (.inl rfl) | exact .inr (.inr (.inl ⟨_, _, _, _, rfl, rfl, rfl⟩)) | exact .inr (.inr (.inr (.inl ⟨_, _, _, rfl, rfl, rfl, (wkL_get (by (repeat' (first | exact wkL_nil | refine wkL_cons ?_ ?_)); all_goals (first | exact .inl ⟨_, _, _, rfl, rfl, rfl⟩ | exact .inr rfl))).2⟩))) | exact .inr (.inr (.inr (.inr (.inl ⟨_, _, rfl, rfl, rfl⟩)))) | exact .inr (.inr (.inr (.inr (.inr ⟨_, _, rfl, rfl, wkL_get (by (repeat' (first | exact wkL_nil | refine wkL_cons ?_ ?_)); all_goals (first | exact .inr rfl | exact .inl ⟨_, _, rfl, rfl, rfl⟩))⟩)))))) (by decide) (by simp) (by rfl) (by simp [tokLt1]) (fun _ => by rfl) (by first | rfl | simp [gdOk, newToks]) ?_
    simp -implicitDefEqProofs only [push_cast, seval]
    exact endK_box [] [24, 44] rfl rfl (by simp [PS.lv, lkp_hit, lkp_miss, lkp_nil]) rfl rfl (by rfl) (fun i j ps h1 h2 => by (rcases i with _ | _ | i <;> simp at h1 h2 <;> (subst h1; subst h2; exact ⟨_, rfl, (by (repeat' (first | exact wkL_nil | refine wkL_cons ?_ ?_)); all_goals (first | rfl | exact ⟨rfl, rfl⟩ | exact ⟨rfl, rfl, rfl⟩ | exact .inl rfl))⟩))) ⟨by simp [resOk, PS.get, PS.obj, lkp_hit, lkp_miss, lkp_nil, PS.ev, ldPV, ldOk, ofC, ofC1, TK.isAgg, tk_34, tsz_34], by simp [resPV, PS.get, PS.obj, lkp_hit, lkp_miss, lkp_nil, PS.ev, ldPV, ldOk, ofC, ofC1, TK.isAgg, tk_34, tsz_34], by simp [resOf, resPV, one', res3, res2, res1, PV.weak, PV.el, wkL, idx, PV.un, PS.get, PS.obj, lkp_hit, lkp_miss, lkp_nil, PS.ev, ldPV, ldOk, ofC, ofC1, TK.isAgg, tk_34, tsz_34]⟩
theorem wf_u {i : Int} (h : 0 ≤ i ∧ i < 4294967296) : (Go.Lit.int .u32 i).wf = true := by
  have h1 : IntKind.u32.min = 0 := by decide
  have h2 : IntKind.u32.max = 4294967295 := by decide
  show (decide (IntKind.u32.min ≤ i) && decide (i ≤ IntKind.u32.max)) = true
  rw [h1, h2]; simp; omega
theorem wf_i {i : Int} (h : -9223372036854775808 ≤ i ∧ i < 9223372036854775808) : (Go.Lit.int .i64 i).wf = true := by
  have h1 : IntKind.i64.min = -9223372036854775808 := by decide
  have h2 : IntKind.i64.max = 9223372036854775807 := by decide
  show (decide (IntKind.i64.min ≤ i) && decide (i ≤ IntKind.i64.max)) = true
  rw [h1, h2]; simp; omega
theorem isMask_fs (m : Int) : Fsp Tryd.prog 43 [] 0 [.int .i64 m] [] 0 (.bool (decide (0 ≤ m) && decide (m ≤ 8191))) := by
  cases k1 : decide (0 ≤ m) <;> cases k2 : decide (m ≤ 8191)
  all_goals
    (refine Fsp.ofs (nx := 0) mixed Tryd.func43 rfl (by simp [Tryd.f43]) ?_; simp -implicitDefEqProofs only [push_cast, Tryd.f43, k1, k2, seval])
    all_goals (first | done | rfl | exact ⟨_, rfl, by simp [wkL, res2, res1, PV.weak, PV.el]⟩ | (simp [wkL, res2, res1, PV.weak, PV.el]; done))
structure StA where
  o : Int
  h1 : 1 ≤ o
  h2 : o ≤ 9
/-- Another one has it. -/
def clash (ms : List ((Int × Int) × Int)) (cl i m o : Int) : Bool := o != cl && bitsI BinOp.and IntKind.i64 (bitsI BinOp.and IntKind.i64 (getC ms o i) m) 2052 != 0
theorem mgetD_nil' (a b : Int) : mgetD [] (.agg [.int .i64 a, .int .u32 b]) (.int .i64 0) = .int .i64 (getC [] a b) := rfl
def StA.st (c : Cm) (cl i m : Int) (a : StA) : PS := { n := 65, env := [(10, .int .i64 a.o), (9, .int .i64 0), (8, .box 4 0), (4, .box 0 0), (3, .int .i64 m), (2, .int .u32 i), (1, .int .i64 cl)], objs := [(0, some [c.mc, c.sc]), (4, some [.nilm, .nilm])], live := [], nxt := 80 }
theorem setBad_fs (c : Cm) (cl i m : Int) (hcl : 1 ≤ cl ∧ cl ≤ 8) (hi : 0 < i ∧ i < 4294967296) (hm : ¬ (0 ≤ m ∧ m ≤ 8191)) : Fsp Tryd.prog 27 [] 0 [c.pv, .int .i64 cl, .int .u32 i, .int .i64 m] [] 0 (.tup [c.pv, .int .i64 22]) := by
  have hk := isMask_fs m
  have k1 : decide (cl < 1) = false := by (simp; omega)
  have k2 : decide ((8 : Int) < cl) = false := by (simp; omega)
  have k3 : (i == 0) = false := by (simp; omega)
  have k4 : (decide (0 ≤ m) && decide (m ≤ 8191)) = false := by (simp; omega)
  rw [k4] at hk
  cases c
  all_goals
    (refine Fsp.ofs (nx := 0) mixed Tryd.func27 rfl (by simp [Tryd.f27]) ?_; simp -implicitDefEqProofs only [push_cast, Tryd.f27, Cm.pv, Cm.mc, Cm.sc, k1, k2, k3, seval])
    refine callE_p hk ?_
    simp -implicitDefEqProofs only [push_cast, seval]
    all_goals (first | done | rfl | exact ⟨_, rfl, by simp [wkL, res2, res1, PV.weak, PV.el]⟩ | (simp [wkL, res2, res1, PV.weak, PV.el]; done))
set_option maxHeartbeats 1000000 in
theorem setNo_fs (c : Cm) (hc : CmOk c) (cl i m : Int) (hcl : 1 ≤ cl ∧ cl ≤ 8) (hi : 0 < i ∧ i < 4294967296) (hm : 0 ≤ m ∧ m ≤ 8191) (hx : ∃ o, 1 ≤ o ∧ o ≤ 8 ∧ clash c.ms cl i m o = true) :
    Fsp Tryd.prog 27 [] 0 [c.pv, .int .i64 cl, .int .u32 i, .int .i64 m] [] 0 (.tup [c.pv, .int .i64 15]) := by
  have hk := isMask_fs m
  have k1 : decide (cl < 1) = false := by (simp; omega)
  have k2 : decide ((8 : Int) < cl) = false := by (simp; omega)
  have k3 : (i == 0) = false := by (simp; omega)
  have k4 : (decide (0 ≤ m) && decide (m ≤ 8191)) = true := by (simp; omega)
  rw [k4] at hk
  have hb : (Go.Lit.int .u32 i).wf = true := wf_u (by omega)
  have hka := kAllC (m := c.ms) hc.w
  obtain ⟨x, hx1, hx2, hx3⟩ := hx
  cases c with
  | nil =>
    simp only [Cm.ms] at hx3 hka
    (refine Fsp.ofs (nx := 0) mixed Tryd.func27 rfl (by simp [Tryd.f27]) ?_; simp -implicitDefEqProofs only [push_cast, Tryd.f27, Cm.pv, Cm.mc, Cm.sc, k1, k2, k3, seval])
    refine callE_p hk ?_
    simp -implicitDefEqProofs only [push_cast, seval]
    refine loopC_of (α := { a : StA // a.o ≤ x }) (fun a => StA.st .nil cl i m a.1) (fun a => (9 - a.1.o).toNat) ⟨⟨1, by decide, by decide⟩, hx1⟩ ?_ ?_
    rotate_left
    · rintro ⟨⟨o, h1, h2⟩, h3⟩
      simp only [StA.st]
      simp -implicitDefEqProofs only [push_cast, Cm.mc, Cm.sc, seval]
      refine condC_split (fun g1 => ?_) (fun g1 => ?_)
      · have g2 : o ≤ 8 := by simpa using g1
        have ha : (Go.Lit.int .i64 o).wf = true := wf_i (by omega)
        have hw1 : IntKind.i64.wrap (o + 1) = o + 1 := wrap_i64_id (by omega) (by omega)
        simp -implicitDefEqProofs only [push_cast, kTyS_key, kOkS_key o i ha hb, hka, mgetD_mkC, mgetD_nil', seval]
        refine condC_split (fun g1 => ?_) (fun g1 => ?_)
        · simp -implicitDefEqProofs only [push_cast, seval]
          all_goals (first | done | rfl | exact ⟨_, rfl, by simp [wkL, res2, res1, PV.weak, PV.el]⟩ | (simp [wkL, res2, res1, PV.weak, PV.el]; done))
        · have hne : o ≠ x := by
            rintro rfl
            rw [clash] at hx3
            rw [hx3] at g1
            cases g1
          simp -implicitDefEqProofs only [push_cast, hw1, seval]
          refine ⟨⟨⟨o + 1, by omega, by omega⟩, by simp only; simp only at h3; omega⟩, by simp only; omega, ?_⟩
          (simp only [StA.st, Cm.mc, Cm.sc]; exact Wk.at _ _ _ [(0, 0), (4, 4)] [] [] (by simp) (by simp [wkV, PV.el, PV.weak, PS.get, PS.obj, PS.lv, lkp_hit, lkp_miss, lkp_nil, lko, wkL, wkC, res1, Cm.mc, Cm.sc]) (by simp [PS.get, PS.obj, PS.lv, lkp_hit, lkp_miss, lkp_nil, lko, wkL, wkC, PV.weak, wkL, wkC, res1, Cm.mc, Cm.sc]))
      · have g2 : ¬ o ≤ 8 := by simpa using g1
        exact absurd (show o ≤ x from h3) (by omega)
    · (simp only [StA.st, Cm.mc, Cm.sc]; exact Wk.at _ _ _ [(0, 0), (4, 4)] [] [] (by simp) (by simp [wkV, PV.el, PV.weak, PS.get, PS.obj, PS.lv, lkp_hit, lkp_miss, lkp_nil, lko, wkL, wkC, res1, Cm.mc, Cm.sc]) (by simp [PS.get, PS.obj, PS.lv, lkp_hit, lkp_miss, lkp_nil, lko, wkL, wkC, PV.weak, wkL, wkC, res1, Cm.mc, Cm.sc]))
  | mk ms =>
    simp only [Cm.ms] at hx3 hka
    (refine Fsp.ofs (nx := 0) mixed Tryd.func27 rfl (by simp [Tryd.f27]) ?_; simp -implicitDefEqProofs only [push_cast, Tryd.f27, Cm.pv, Cm.mc, Cm.sc, k1, k2, k3, seval])
    refine callE_p hk ?_
    simp -implicitDefEqProofs only [push_cast, seval]
    refine loopC_of (α := { a : StA // a.o ≤ x }) (fun a => StA.st (.mk ms) cl i m a.1) (fun a => (9 - a.1.o).toNat) ⟨⟨1, by decide, by decide⟩, hx1⟩ ?_ ?_
    rotate_left
    · rintro ⟨⟨o, h1, h2⟩, h3⟩
      simp only [StA.st]
      simp -implicitDefEqProofs only [push_cast, Cm.mc, Cm.sc, seval]
      refine condC_split (fun g1 => ?_) (fun g1 => ?_)
      · have g2 : o ≤ 8 := by simpa using g1
        have ha : (Go.Lit.int .i64 o).wf = true := wf_i (by omega)
        have hw1 : IntKind.i64.wrap (o + 1) = o + 1 := wrap_i64_id (by omega) (by omega)
        simp -implicitDefEqProofs only [push_cast, kTyS_key, kOkS_key o i ha hb, hka, mgetD_mkC, mgetD_nil', seval]
        refine condC_split (fun g1 => ?_) (fun g1 => ?_)
        · simp -implicitDefEqProofs only [push_cast, seval]
          all_goals (first | done | rfl | exact ⟨_, rfl, by simp [wkL, res2, res1, PV.weak, PV.el]⟩ | (simp [wkL, res2, res1, PV.weak, PV.el]; done))
        · have hne : o ≠ x := by
            rintro rfl
            rw [clash] at hx3
            rw [hx3] at g1
            cases g1
          simp -implicitDefEqProofs only [push_cast, hw1, seval]
          refine ⟨⟨⟨o + 1, by omega, by omega⟩, by simp only; simp only at h3; omega⟩, by simp only; omega, ?_⟩
          (simp only [StA.st, Cm.mc, Cm.sc]; exact Wk.at _ _ _ [(0, 0), (4, 4)] [] [] (by simp) (by simp [wkV, PV.el, PV.weak, PS.get, PS.obj, PS.lv, lkp_hit, lkp_miss, lkp_nil, lko, wkL, wkC, res1, Cm.mc, Cm.sc]) (by simp [PS.get, PS.obj, PS.lv, lkp_hit, lkp_miss, lkp_nil, lko, wkL, wkC, PV.weak, wkL, wkC, res1, Cm.mc, Cm.sc]))
      · have g2 : ¬ o ≤ 8 := by simpa using g1
        exact absurd (show o ≤ x from h3) (by omega)
    · (simp only [StA.st, Cm.mc, Cm.sc]; exact Wk.at _ _ _ [(0, 0), (4, 4)] [] [] (by simp) (by simp [wkV, PV.el, PV.weak, PS.get, PS.obj, PS.lv, lkp_hit, lkp_miss, lkp_nil, lko, wkL, wkC, res1, Cm.mc, Cm.sc]) (by simp [PS.get, PS.obj, PS.lv, lkp_hit, lkp_miss, lkp_nil, lko, wkL, wkC, PV.weak, wkL, wkC, res1, Cm.mc, Cm.sc]))
/-- What is selected, with one more. -/
def delC (ms : List ((Int × Int) × Int)) (cl i : Int) : List ((Int × Int) × Int) := ms.filter fun x => !decide (cl = x.1.1 ∧ i = x.1.2)
def setC (ms : List ((Int × Int) × Int)) (cl i m : Int) : List ((Int × Int) × Int) := if m = 0 then delC ms cl i else ((cl, i), m) :: delC ms cl i
theorem mdel_mkC (ms : List ((Int × Int) × Int)) (a b : Int) : mdel (mkC ms) (.agg [.int .i64 a, .int .u32 b]) = mkC (delC ms a b) := by
  rw [delC, mdel, mkC, List.filter_map]
  have e : (fun x : (Int × Int) × Int => !decide (a = x.1.1 ∧ b = x.1.2)) = ((fun q : PV × PV => !keyIs (.agg [.int .i64 a, .int .u32 b]) q.1) ∘ fun x : (Int × Int) × Int => (PV.agg [.int .i64 x.1.1, .int .u32 x.1.2], PV.int .i64 x.2)) := by
    funext x
    simp only [Function.comp, keyIs_c]
  rw [mkC, e]
theorem mset_mkC (ms : List ((Int × Int) × Int)) (a b m : Int) : mset (mkC ms) (.agg [.int .i64 a, .int .u32 b]) (.int .i64 m) = mkC (((a, b), m) :: delC ms a b) := by
  rw [mset, mdel_mkC]; rfl
set_option maxHeartbeats 1000000 in
theorem setOk_fs0 (c : Cm) (hc : CmOk c) (cl i m : Int) (hcl : 1 ≤ cl ∧ cl ≤ 8) (hi : 0 < i ∧ i < 4294967296) (hm : 0 ≤ m ∧ m ≤ 8191) (hx : ∀ o, 1 ≤ o → o ≤ 8 → clash c.ms cl i m o = false) :
    Fsp Tryd.prog 27 [] 0 [c.pv, .int .i64 cl, .int .u32 i, .int .i64 m] [[.mobj (mkC (setC c.ms cl i m))], [.mobj []]] 0 (.tup [.agg [.mref 0, .mref 1], .int .i64 0]) := by
  have hk := isMask_fs m
  have k1 : decide (cl < 1) = false := by (simp; omega)
  have k2 : decide ((8 : Int) < cl) = false := by (simp; omega)
  have k3 : (i == 0) = false := by (simp; omega)
  have k4 : (decide (0 ≤ m) && decide (m ≤ 8191)) = true := by (simp; omega)
  rw [k4] at hk
  have hb : (Go.Lit.int .u32 i).wf = true := wf_u (by omega)
  have hcl' : (Go.Lit.int .i64 cl).wf = true := wf_i (by omega)
  have hka := kAllC (m := c.ms) hc.w
  have hcp := copied_fs c hc
  cases c with
  | nil =>
    simp only [Cm.ms] at hx hka hcp
    (refine Fsp.ofs (nx := 0) mixed Tryd.func27 rfl (by simp [Tryd.f27]) ?_; simp -implicitDefEqProofs only [push_cast, Tryd.f27, Cm.pv, Cm.mc, Cm.sc, k1, k2, k3, seval])
    refine callE_p hk ?_
    simp -implicitDefEqProofs only [push_cast, seval]
    refine loopC_of (α := StA) (fun a => StA.st .nil cl i m a) (fun a => (9 - a.o).toNat) ⟨1, by decide, by decide⟩ ?_ ?_
    · (simp only [StA.st, Cm.mc, Cm.sc]; exact Wk.at _ _ _ [(0, 0), (4, 4)] [] [] (by simp) (by simp [wkV, PV.el, PV.weak, PS.get, PS.obj, PS.lv, lkp_hit, lkp_miss, lkp_nil, lko, wkL, wkC, res1, Cm.mc, Cm.sc]) (by simp [PS.get, PS.obj, PS.lv, lkp_hit, lkp_miss, lkp_nil, lko, wkL, wkC, PV.weak, wkL, wkC, res1, Cm.mc, Cm.sc]))
    · rintro ⟨o, h1, h2⟩
      simp only [StA.st]
      simp -implicitDefEqProofs only [push_cast, Cm.mc, Cm.sc, seval]
      refine condC_split (fun g1 => ?_) (fun g1 => ?_)
      · have g2 : o ≤ 8 := by simpa using g1
        have ha : (Go.Lit.int .i64 o).wf = true := wf_i (by omega)
        have hw1 : IntKind.i64.wrap (o + 1) = o + 1 := wrap_i64_id (by omega) (by omega)
        simp -implicitDefEqProofs only [push_cast, kTyS_key, kOkS_key o i ha hb, hka, mgetD_mkC, mgetD_nil', seval]
        refine condC_split (fun g1 => ?_) (fun g1 => ?_)
        · have := hx o h1 g2
          rw [clash] at this
          rw [this] at g1
          cases g1
        · simp -implicitDefEqProofs only [push_cast, hw1, seval]
          refine ⟨⟨o + 1, by omega, by omega⟩, by simp only; omega, ?_⟩
          (simp only [StA.st, Cm.mc, Cm.sc]; exact Wk.at _ _ _ [(0, 0), (4, 4)] [] [] (by simp) (by simp [wkV, PV.el, PV.weak, PS.get, PS.obj, PS.lv, lkp_hit, lkp_miss, lkp_nil, lko, wkL, wkC, res1, Cm.mc, Cm.sc]) (by simp [PS.get, PS.obj, PS.lv, lkp_hit, lkp_miss, lkp_nil, lko, wkL, wkC, PV.weak, wkL, wkC, res1, Cm.mc, Cm.sc]))
      · simp -implicitDefEqProofs only [push_cast, seval]
        refine callE_new hcp (by rfl) (by rfl) (by rfl) (by first | decide | simp) (by first | decide | simp) (by rfl) (by simp [tokLt1]) (fun _ => by rfl) (by first | rfl | simp [gdOk, newToks]) ?_
        simp -implicitDefEqProofs only [push_cast, upto, seval]
        refine condC_split (fun g1 => ?_) (fun g1 => ?_)
        · have g2 : m = 0 := by simpa using g1
          rw [setC, if_pos g2]
          simp -implicitDefEqProofs only [push_cast, kTyS_key, kOkS_key cl i hcl' hb, hka, mdel_mkC, seval]
          exact endK_box [] [92, 93] rfl rfl (by simp [PS.lv, lkp_hit, lkp_miss, lkp_nil]) rfl rfl (by rfl) (fun i j ps h1 h2 => by (rcases i with _ | _ | i <;> simp at h1 h2 <;> (subst h1; subst h2; exact ⟨_, rfl, (by (repeat' (first | exact wkL_nil | refine wkL_cons ?_ ?_)); all_goals (first | rfl | exact ⟨rfl, rfl⟩ | exact ⟨rfl, rfl, rfl⟩ | exact .inl rfl))⟩))) ⟨by simp [resOk, PS.get, PS.obj, lkp_hit, lkp_miss, lkp_nil, PS.ev, ldPV, ldOk, ofC, ofC1, TK.isAgg, tk_34, tsz_34], by simp [resPV, PS.get, PS.obj, lkp_hit, lkp_miss, lkp_nil, PS.ev, ldPV, ldOk, ofC, ofC1, TK.isAgg, tk_34, tsz_34], by simp [resOf, resPV, one', res3, res2, res1, PV.weak, PV.el, wkL, idx, PV.un, PS.get, PS.obj, lkp_hit, lkp_miss, lkp_nil, PS.ev, ldPV, ldOk, ofC, ofC1, TK.isAgg, tk_34, tsz_34]⟩
        · have g2 : ¬ m = 0 := by simpa using g1
          rw [setC, if_neg g2]
          simp -implicitDefEqProofs only [push_cast, kTyS_key, kOkS_key cl i hcl' hb, hka, mset_mkC, seval]
          exact endK_box [] [92, 93] rfl rfl (by simp [PS.lv, lkp_hit, lkp_miss, lkp_nil]) rfl rfl (by rfl) (fun i j ps h1 h2 => by (rcases i with _ | _ | i <;> simp at h1 h2 <;> (subst h1; subst h2; exact ⟨_, rfl, (by (repeat' (first | exact wkL_nil | refine wkL_cons ?_ ?_)); all_goals (first | rfl | exact ⟨rfl, rfl⟩ | exact ⟨rfl, rfl, rfl⟩ | exact .inl rfl))⟩))) ⟨by simp [resOk, PS.get, PS.obj, lkp_hit, lkp_miss, lkp_nil, PS.ev, ldPV, ldOk, ofC, ofC1, TK.isAgg, tk_34, tsz_34], by simp [resPV, PS.get, PS.obj, lkp_hit, lkp_miss, lkp_nil, PS.ev, ldPV, ldOk, ofC, ofC1, TK.isAgg, tk_34, tsz_34], by simp [resOf, resPV, one', res3, res2, res1, PV.weak, PV.el, wkL, idx, PV.un, PS.get, PS.obj, lkp_hit, lkp_miss, lkp_nil, PS.ev, ldPV, ldOk, ofC, ofC1, TK.isAgg, tk_34, tsz_34]⟩
  | mk ms =>
    simp only [Cm.ms] at hx hka hcp
    (refine Fsp.ofs (nx := 0) mixed Tryd.func27 rfl (by simp [Tryd.f27]) ?_; simp -implicitDefEqProofs only [push_cast, Tryd.f27, Cm.pv, Cm.mc, Cm.sc, k1, k2, k3, seval])
    refine callE_p hk ?_
    simp -implicitDefEqProofs only [push_cast, seval]
    refine loopC_of (α := StA) (fun a => StA.st (.mk ms) cl i m a) (fun a => (9 - a.o).toNat) ⟨1, by decide, by decide⟩ ?_ ?_
    · (simp only [StA.st, Cm.mc, Cm.sc]; exact Wk.at _ _ _ [(0, 0), (4, 4)] [] [] (by simp) (by simp [wkV, PV.el, PV.weak, PS.get, PS.obj, PS.lv, lkp_hit, lkp_miss, lkp_nil, lko, wkL, wkC, res1, Cm.mc, Cm.sc]) (by simp [PS.get, PS.obj, PS.lv, lkp_hit, lkp_miss, lkp_nil, lko, wkL, wkC, PV.weak, wkL, wkC, res1, Cm.mc, Cm.sc]))
    · rintro ⟨o, h1, h2⟩
      simp only [StA.st]
      simp -implicitDefEqProofs only [push_cast, Cm.mc, Cm.sc, seval]
      refine condC_split (fun g1 => ?_) (fun g1 => ?_)
      · have g2 : o ≤ 8 := by simpa using g1
        have ha : (Go.Lit.int .i64 o).wf = true := wf_i (by omega)
        have hw1 : IntKind.i64.wrap (o + 1) = o + 1 := wrap_i64_id (by omega) (by omega)
        simp -implicitDefEqProofs only [push_cast, kTyS_key, kOkS_key o i ha hb, hka, mgetD_mkC, mgetD_nil', seval]
        refine condC_split (fun g1 => ?_) (fun g1 => ?_)
        · have := hx o h1 g2
          rw [clash] at this
          rw [this] at g1
          cases g1
        · simp -implicitDefEqProofs only [push_cast, hw1, seval]
          refine ⟨⟨o + 1, by omega, by omega⟩, by simp only; omega, ?_⟩
          (simp only [StA.st, Cm.mc, Cm.sc]; exact Wk.at _ _ _ [(0, 0), (4, 4)] [] [] (by simp) (by simp [wkV, PV.el, PV.weak, PS.get, PS.obj, PS.lv, lkp_hit, lkp_miss, lkp_nil, lko, wkL, wkC, res1, Cm.mc, Cm.sc]) (by simp [PS.get, PS.obj, PS.lv, lkp_hit, lkp_miss, lkp_nil, lko, wkL, wkC, PV.weak, wkL, wkC, res1, Cm.mc, Cm.sc]))
      · simp -implicitDefEqProofs only [push_cast, seval]
        refine callE_new hcp (by rfl) (by rfl) (by rfl) (by first | decide | simp) (by first | decide | simp) (by rfl) (by simp [tokLt1]) (fun _ => by rfl) (by first | rfl | simp [gdOk, newToks]) ?_
        simp -implicitDefEqProofs only [push_cast, upto, seval]
        refine condC_split (fun g1 => ?_) (fun g1 => ?_)
        · have g2 : m = 0 := by simpa using g1
          rw [setC, if_pos g2]
          simp -implicitDefEqProofs only [push_cast, kTyS_key, kOkS_key cl i hcl' hb, hka, mdel_mkC, seval]
          exact endK_box [] [92, 93] rfl rfl (by simp [PS.lv, lkp_hit, lkp_miss, lkp_nil]) rfl rfl (by rfl) (fun i j ps h1 h2 => by (rcases i with _ | _ | i <;> simp at h1 h2 <;> (subst h1; subst h2; exact ⟨_, rfl, (by (repeat' (first | exact wkL_nil | refine wkL_cons ?_ ?_)); all_goals (first | rfl | exact ⟨rfl, rfl⟩ | exact ⟨rfl, rfl, rfl⟩ | exact .inl rfl))⟩))) ⟨by simp [resOk, PS.get, PS.obj, lkp_hit, lkp_miss, lkp_nil, PS.ev, ldPV, ldOk, ofC, ofC1, TK.isAgg, tk_34, tsz_34], by simp [resPV, PS.get, PS.obj, lkp_hit, lkp_miss, lkp_nil, PS.ev, ldPV, ldOk, ofC, ofC1, TK.isAgg, tk_34, tsz_34], by simp [resOf, resPV, one', res3, res2, res1, PV.weak, PV.el, wkL, idx, PV.un, PS.get, PS.obj, lkp_hit, lkp_miss, lkp_nil, PS.ev, ldPV, ldOk, ofC, ofC1, TK.isAgg, tk_34, tsz_34]⟩
        · have g2 : ¬ m = 0 := by simpa using g1
          rw [setC, if_neg g2]
          simp -implicitDefEqProofs only [push_cast, kTyS_key, kOkS_key cl i hcl' hb, hka, mset_mkC, seval]
          exact endK_box [] [92, 93] rfl rfl (by simp [PS.lv, lkp_hit, lkp_miss, lkp_nil]) rfl rfl (by rfl) (fun i j ps h1 h2 => by (rcases i with _ | _ | i <;> simp at h1 h2 <;> (subst h1; subst h2; exact ⟨_, rfl, (by (repeat' (first | exact wkL_nil | refine wkL_cons ?_ ?_)); all_goals (first | rfl | exact ⟨rfl, rfl⟩ | exact ⟨rfl, rfl, rfl⟩ | exact .inl rfl))⟩))) ⟨by simp [resOk, PS.get, PS.obj, lkp_hit, lkp_miss, lkp_nil, PS.ev, ldPV, ldOk, ofC, ofC1, TK.isAgg, tk_34, tsz_34], by simp [resPV, PS.get, PS.obj, lkp_hit, lkp_miss, lkp_nil, PS.ev, ldPV, ldOk, ofC, ofC1, TK.isAgg, tk_34, tsz_34], by simp [resOf, resPV, one', res3, res2, res1, PV.weak, PV.el, wkL, idx, PV.un, PS.get, PS.obj, lkp_hit, lkp_miss, lkp_nil, PS.ev, ldPV, ldOk, ofC, ofC1, TK.isAgg, tk_34, tsz_34]⟩
def clashes (ms : List ((Int × Int) × Int)) (cl i m : Int) : Bool := (List.range 8).any fun k => clash ms cl i m ((k : Int) + 1)
def Cm.set (c : Cm) (cl i m : Int) : Cm × Int := if 0 ≤ m ∧ m ≤ 8191 then (if clashes c.ms cl i m = true then (c, 15) else (.mk (setC c.ms cl i m), 0)) else (c, 22)
theorem set_fs (c : Cm) (hc : CmOk c) (cl i m : Int) (hcl : 1 ≤ cl ∧ cl ≤ 8) (hi : 0 < i ∧ i < 4294967296) : Fsp Tryd.prog 27 [] 0 [c.pv, .int .i64 cl, .int .u32 i, .int .i64 m] [] 0 (.tup [(c.set cl i m).1.pv, .int .i64 (c.set cl i m).2]) := by
  unfold Cm.set
  by_cases hm : 0 ≤ m ∧ m ≤ 8191
  · rw [if_pos hm]
    by_cases hx : clashes c.ms cl i m = true
    · rw [if_pos hx]
      rw [clashes, List.any_eq_true] at hx
      obtain ⟨k, hk, h⟩ := hx
      exact setNo_fs c hc cl i m hcl hi hm ⟨(k : Int) + 1, by omega, by have := List.mem_range.1 hk; omega, h⟩
    · rw [if_neg hx]
      refine ((setOk_fs0 c hc cl i m hcl hi hm (fun o h1 h2 => ?_)).freezeM (bs' := [[.mobj (mkC (setC c.ms cl i m))]]) (Nat.zero_le _)).freezeM (bs' := []) (Nat.zero_le _)
      cases h : clash c.ms cl i m o with
      | false => rfl
      | true =>
        refine absurd ?_ hx
        rw [clashes, List.any_eq_true]
        exact ⟨(o - 1).toNat, List.mem_range.2 (by omega), by rw [show (((o - 1).toNat : Nat) : Int) + 1 = o by omega]; exact h⟩
  · rw [if_neg hm]
    exact setBad_fs c cl i m hcl hi hm
theorem nodup_key {ms : List ((Int × Int) × Int)} (h : (ms.map Prod.fst).Nodup) (cl i m : Int) : ((setC ms cl i m).map Prod.fst).Nodup := by
  have hf : ((delC ms cl i).map Prod.fst).Nodup := (List.filter_sublist.map _).nodup h
  unfold setC
  split
  · exact hf
  · rw [List.map_cons, List.nodup_cons]
    refine ⟨fun hm => ?_, hf⟩
    obtain ⟨x, hx, e⟩ := List.mem_map.1 hm
    have := (List.mem_filter.1 hx).2
    rw [e] at this
    simp at this
theorem setC_len (ms : List ((Int × Int) × Int)) (cl i m : Int) : (setC ms cl i m).length ≤ ms.length + 1 := by
  have : (delC ms cl i).length ≤ ms.length := List.length_filter_le _ ms
  unfold setC
  split
  · omega
  · rw [List.length_cons]; omega
theorem setC_wf {ms : List ((Int × Int) × Int)} (h : ∀ x ∈ ms, (Go.Lit.int .i64 x.1.1).wf = true ∧ (Go.Lit.int .u32 x.1.2).wf = true) {cl i m : Int} (h1 : (Go.Lit.int .i64 cl).wf = true) (h2 : (Go.Lit.int .u32 i).wf = true) :
    ∀ x ∈ setC ms cl i m, (Go.Lit.int .i64 x.1.1).wf = true ∧ (Go.Lit.int .u32 x.1.2).wf = true := by
  intro x hx
  unfold setC at hx
  split at hx
  · exact h x (List.mem_filter.1 hx).1
  · rcases List.mem_cons.1 hx with rfl | hx
    · exact ⟨h1, h2⟩
    · exact h x (List.mem_filter.1 hx).1
theorem CmOk.set {c : Cm} (hc : CmOk c) {cl i m : Int} (hcl : 1 ≤ cl ∧ cl ≤ 8) (hi : 0 < i ∧ i < 4294967296) (hn : c.ms.length < 999) : CmOk (c.set cl i m).1 ∧ (c.set cl i m).1.ms.length ≤ c.ms.length + 1 := by
  unfold Cm.set
  split
  · split
    · exact ⟨hc, Nat.le_succ _⟩
    · have := setC_len c.ms cl i m
      exact ⟨⟨nodup_key hc.k cl i m, setC_wf hc.w (wf_i (by omega)) (wf_u (by omega)), by show (setC c.ms cl i m).length < 1000; omega⟩, this⟩
  · exact ⟨hc, Nat.le_succ _⟩
end Go.Proofs.Sh
