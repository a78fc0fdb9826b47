/- The document's table; the laws Table, More. -/
import Derived.Test.YtnaldfmohncbhaaDoorRtJ
set_option maxRecDepth 100000
set_option linter.unusedSimpArgs false
set_option linter.unusedVariables false
namespace Go.Proofs.Sh
open Go.Pv
def rfT : List Int := ruT.map (· - 1)
def rfS (c : Int) : Int := ruS c - 1
theorem rf_ran : ranAllF Tryd.prog anyCl (fun _ => true) 4000 60 16 (rfT.map (PV.int .i64 ·)) 0 = true := by kernel_rfl
theorem rule_fs (c : Int) : Fsp Tryd.prog 16 [] 0 [.int .i64 c] [] 0 (.int .i64 (rfS c)) := by
  unfold rfS ruS
  split
  · rename_i h
    have hk : (rfT.map (PV.int .i64 ·))[c.toNat]? = some (.int .i64 (ruT.getD c.toNat 0 - 1)) := by
      have hl : c.toNat < ruT.length := by show c.toNat < 59; omega
      rw [rfT, List.getElem?_map, List.getElem?_map, List.getElem?_eq_getElem hl, List.getD_eq_getElem?_getD, List.getElem?_eq_getElem hl]; rfl
    have := ranAllF_at mixed anyCl_ok rf_ran hk
    rw [show ((0 + c.toNat : Nat) : Int) = c by omega] at this
    exact this
  · rename_i h
    cases k1 : decide (c < 0)
    · have k2 : decide ((58 : Int) < c) = true := by (simp at k1; simp; omega)
      (refine Fsp.ofs (nx := 0) mixed Tryd.func16 rfl (by simp [Tryd.f16]) ?_; simp -implicitDefEqProofs only [push_cast, Tryd.f16, k1, k2, seval])
      all_goals (first | done | rfl | exact ⟨_, rfl, by simp [wkL, res2, res1, PV.weak, PV.el]⟩ | (simp [wkL, res2, res1, PV.weak, PV.el]; done))
    · (refine Fsp.ofs (nx := 0) mixed Tryd.func16 rfl (by simp [Tryd.f16]) ?_; simp -implicitDefEqProofs only [push_cast, Tryd.f16, k1, seval])
      all_goals (first | done | rfl | exact ⟨_, rfl, by simp [wkL, res2, res1, PV.weak, PV.el]⟩ | (simp [wkL, res2, res1, PV.weak, PV.el]; done))
def rmayS (r : Int) (f : Fa) : Bool :=
  if r = 0 then true else if r = 1 then f.o else if r = 2 then f.o || f.r else if r = 3 then f.o || f.m || f.f else if r = 4 then f.o || f.r || f.m || f.f else
  if r = 5 then f.o || f.r || f.m || f.f || f.a else if r = 6 then f.m || f.f else if r = 7 then f.m else false
theorem rmay_fs (c : Int) (f : Fa) : Fsp Tryd.prog 18 [] 0 [.int .i64 c, f.pv] [] 0 (.bool (rmayS (rfS c) f)) := by
  have hr := rule_fs c
  generalize rfS c = r at *
  obtain ⟨o, ro, m, fr, a⟩ := f
  have key : r = 0 ∨ r = 1 ∨ r = 2 ∨ r = 3 ∨ r = 4 ∨ r = 5 ∨ r = 6 ∨ r = 7 ∨ (r ≠ 1 ∧ r ≠ 2 ∧ r ≠ 3 ∧ r ≠ 4 ∧ r ≠ 5 ∧ r ≠ 6 ∧ r ≠ 7 ∧ r ≠ 0) := by omega
  rcases key with rfl | rfl | rfl | rfl | rfl | rfl | rfl | rfl | ⟨n1, n2, n3, n4, n5, n6, n7, n8⟩
  · (refine Fsp.ofs (nx := 0) mixed Tryd.func18 rfl (by simp [Tryd.f18]) ?_; simp -implicitDefEqProofs only [push_cast, Tryd.f18, Fa.pv, seval])
    refine callE_p hr ?_
    simp -implicitDefEqProofs only [push_cast, seval]
    all_goals (cases o <;> cases ro <;> cases m <;> cases fr <;> cases a <;> rfl)
  · (refine Fsp.ofs (nx := 0) mixed Tryd.func18 rfl (by simp [Tryd.f18]) ?_; simp -implicitDefEqProofs only [push_cast, Tryd.f18, Fa.pv, seval])
    refine callE_p hr ?_
    simp -implicitDefEqProofs only [push_cast, seval]
    all_goals (cases o <;> cases ro <;> cases m <;> cases fr <;> cases a <;> rfl)
  · (refine Fsp.ofs (nx := 0) mixed Tryd.func18 rfl (by simp [Tryd.f18]) ?_; simp -implicitDefEqProofs only [push_cast, Tryd.f18, Fa.pv, seval])
    refine callE_p hr ?_
    simp -implicitDefEqProofs only [push_cast, seval]
    all_goals (cases o <;> cases ro <;> cases m <;> cases fr <;> cases a <;> rfl)
  · (refine Fsp.ofs (nx := 0) mixed Tryd.func18 rfl (by simp [Tryd.f18]) ?_; simp -implicitDefEqProofs only [push_cast, Tryd.f18, Fa.pv, seval])
    refine callE_p hr ?_
    simp -implicitDefEqProofs only [push_cast, seval]
    all_goals (cases o <;> cases ro <;> cases m <;> cases fr <;> cases a <;> rfl)
  · (refine Fsp.ofs (nx := 0) mixed Tryd.func18 rfl (by simp [Tryd.f18]) ?_; simp -implicitDefEqProofs only [push_cast, Tryd.f18, Fa.pv, seval])
    refine callE_p hr ?_
    simp -implicitDefEqProofs only [push_cast, seval]
    all_goals (cases o <;> cases ro <;> cases m <;> cases fr <;> cases a <;> rfl)
  · (refine Fsp.ofs (nx := 0) mixed Tryd.func18 rfl (by simp [Tryd.f18]) ?_; simp -implicitDefEqProofs only [push_cast, Tryd.f18, Fa.pv, seval])
    refine callE_p hr ?_
    simp -implicitDefEqProofs only [push_cast, seval]
    all_goals (cases o <;> cases ro <;> cases m <;> cases fr <;> cases a <;> rfl)
  · (refine Fsp.ofs (nx := 0) mixed Tryd.func18 rfl (by simp [Tryd.f18]) ?_; simp -implicitDefEqProofs only [push_cast, Tryd.f18, Fa.pv, seval])
    refine callE_p hr ?_
    simp -implicitDefEqProofs only [push_cast, seval]
    all_goals (cases o <;> cases ro <;> cases m <;> cases fr <;> cases a <;> rfl)
  · (refine Fsp.ofs (nx := 0) mixed Tryd.func18 rfl (by simp [Tryd.f18]) ?_; simp -implicitDefEqProofs only [push_cast, Tryd.f18, Fa.pv, seval])
    refine callE_p hr ?_
    simp -implicitDefEqProofs only [push_cast, seval]
    all_goals (cases o <;> cases ro <;> cases m <;> cases fr <;> cases a <;> rfl)
  · have q1 : (r == 1) = false := by simpa using n1
    have q2 : (r == 2) = false := by simpa using n2
    have q3 : (r == 3) = false := by simpa using n3
    have q4 : (r == 4) = false := by simpa using n4
    have q5 : (r == 5) = false := by simpa using n5
    have q6 : (r == 6) = false := by simpa using n6
    have q7 : (r == 7) = false := by simpa using n7
    have q8 : (r == 0) = false := by simpa using n8
    have hz : rmayS r ⟨o, ro, m, fr, a⟩ = false := by simp [rmayS, n1, n2, n3, n4, n5, n6, n7, n8]
    rw [hz]
    (refine Fsp.ofs (nx := 0) mixed Tryd.func18 rfl (by simp [Tryd.f18]) ?_; simp -implicitDefEqProofs only [push_cast, Tryd.f18, Fa.pv, seval])
    refine callE_p hr ?_
    simp -implicitDefEqProofs only [push_cast, q1, q2, q3, q4, q5, q6, q7, q8, seval]
theorem ru_rng (c : Int) : 0 ≤ ruS c ∧ ruS c ≤ 8 := by
  unfold ruS
  split
  · have : ∀ x ∈ ruT, 0 ≤ x ∧ x ≤ 8 := by decide
    rw [List.getD_eq_getElem?_getD]
    cases h : ruT[c.toNat]? with
    | none => exact ⟨by decide, by decide⟩
    | some x => exact this x (List.mem_of_getElem? h)
  · exact ⟨by decide, by decide⟩
theorem may_eq (c : Int) (f : Fa) : mayS (ruS c) f = rmayS (rfS c) f := by
  have h := ru_rng c
  unfold rfS
  generalize ruS c = r at *
  obtain ⟨o, ro, m, fr, a⟩ := f
  have key : r = 0 ∨ r = 1 ∨ r = 2 ∨ r = 3 ∨ r = 4 ∨ r = 5 ∨ r = 6 ∨ r = 7 ∨ r = 8 := by omega
  rcases key with rfl | rfl | rfl | rfl | rfl | rfl | rfl | rfl | rfl <;> cases o <;> cases ro <;> cases m <;> cases fr <;> cases a <;> rfl
theorem table_fs (c : Int) (f : Fa) : Fsp Tryd.prog 5 [] 0 [.int .i64 c, f.pv] [] 0 (.bool true) := by
  have ha := awake_fs
  have h1 := rule_fs c
  have h2 := may_fs c f
  have h3 := rmay_fs c f
  have h4 := fault_fs c
  rw [← may_eq] at h3
  have hf : fltS (ruS c) = if 0 < rfS c then 10 else 0 := by
    have h := ru_rng c
    unfold rfS fltS
    split <;> split <;> first | rfl | omega
  generalize mayS (ruS c) f = b at *
  rw [hf] at h4
  rw [Fa.pv] at *
  (refine Fsp.ofs (nx := 0) mixed Tryd.func5 rfl (by simp [Tryd.f5]) ?_; simp -implicitDefEqProofs only [push_cast, Tryd.f5, seval])
  refine callE_p h1 ?_
  simp -implicitDefEqProofs only [push_cast, seval]
  refine condC_split (fun g1 => ?_) (fun g1 => ?_)
  · rw [if_pos (by simpa using g1)] at h4
    simp -implicitDefEqProofs only [push_cast, seval]
    refine callE_p ha ?_
    simp -implicitDefEqProofs only [push_cast, seval]
    refine callE_p h2 ?_
    simp -implicitDefEqProofs only [push_cast, seval]
    refine callE_p h3 ?_
    simp -implicitDefEqProofs only [push_cast, seval]
    refine callE_p h4 ?_
    simp -implicitDefEqProofs only [push_cast, seval]
    unfold drawOk
    kernel_rfl
  · rw [if_neg (by simpa using g1)] at h4
    simp -implicitDefEqProofs only [push_cast, seval]
    refine callE_p ha ?_
    simp -implicitDefEqProofs only [push_cast, seval]
    refine callE_p h2 ?_
    simp -implicitDefEqProofs only [push_cast, seval]
    refine callE_p h3 ?_
    simp -implicitDefEqProofs only [push_cast, seval]
    refine callE_p h4 ?_
    simp -implicitDefEqProofs only [push_cast, seval]
    unfold drawOk
    kernel_rfl
end Go.Proofs.Sh

/- The law More. -/
set_option maxRecDepth 100000
set_option linter.unusedSimpArgs false
set_option linter.unusedVariables false
namespace Go.Proofs.Sh
open Go.Pv
def one1 : PV := .sl 1 [.int .i64 0]
def two1 : PV := .sl 1 [.int .i64 0, .int .i64 1]
def needAt (c : Nat) : PV := if c = 1 then .sl 1 [.int .i64 1] else if c = 6 ∨ c = 27 then two1 else if c = 0 ∨ ruT.getD c 0 = 0 ∨ ruT.getD c 0 = 1 ∨ ruT.getD c 0 = 8 then .sl 1 [] else one1
def needT : List PV := (List.range 59).map needAt
def needV (c : Int) : PV := if 0 ≤ c ∧ c ≤ 58 then needT.getD c.toNat (.sl 1 []) else .sl 1 []
theorem need_ran : ranAllF Tryd.prog anyCl (fun _ => true) 4000 60 20 needT 0 = true := by kernel_rfl
theorem needs_fs (c : Int) : Fsp Tryd.prog 20 [] 0 [.int .i64 c] [] 0 (needV c) := by
  unfold needV
  split
  · rename_i h
    have hk : needT[c.toNat]? = some (needT.getD c.toNat (.sl 1 [])) := by
      have hl : c.toNat < needT.length := by show c.toNat < 59; omega
      rw [List.getElem?_eq_getElem hl, List.getD_eq_getElem?_getD, List.getElem?_eq_getElem hl]; rfl
    have := ranAllF_at mixed anyCl_ok need_ran hk
    rw [show ((0 + c.toNat : Nat) : Int) = c by omega] at this
    exact this
  · rename_i h
    have hr := ruleOf_fs c
    have hz : ruS c = 0 := by unfold ruS; rw [if_neg h]
    rw [hz] at hr
    have q1 : (c == 1) = false := by simp; omega
    have q2 : (c == 6) = false := by simp; omega
    have q3 : (c == 27) = false := by simp; omega
    have q4 : (c == 0) = false := by simp; omega
    refine Fsp.say (nt' := 0) (r := .nilsl) ?_ (fun g v r => fz3_rel r)
    (refine Fsp.ofs (nx := 0) mixed Tryd.func20 rfl (by simp [Tryd.f20]) ?_; simp -implicitDefEqProofs only [push_cast, Tryd.f20, seval])
    refine callE_p hr ?_
    simp -implicitDefEqProofs only [push_cast, q1, q2, q3, q4, seval]
    all_goals (first | done | rfl | exact ⟨_, rfl, by simp [wkL, res2, res1, PV.weak, PV.el]⟩ | (simp [wkL, res2, res1, PV.weak, PV.el]; done))
theorem need_nil (c : Int) (h : ruS c = 1) : needV c = .sl 1 [] := by
  unfold needV
  split
  · rename_i hc
    unfold ruS at h
    rw [if_pos hc] at h
    have : ∀ k, k < 59 → ruT.getD k 0 = 1 → needT.getD k (.sl 1 []) = .sl 1 [] := by
      have : ∀ k, k < 59 → ruT.getD k 0 = 1 → needAt k = .sl 1 [] := by
        intro k hk h1
        unfold needAt
        have : k ≠ 1 ∧ k ≠ 6 ∧ k ≠ 27 := ⟨fun e => by subst e; revert h1; decide, fun e => by subst e; revert h1; decide, fun e => by subst e; revert h1; decide⟩
        rw [if_neg this.1, if_neg (by rintro (e | e); exact this.2.1 e; exact this.2.2 e), if_pos (.inr (.inr (.inl h1)))]
      intro k hk h1
      have hl : k < needT.length := hk
      rw [List.getD_eq_getElem?_getD, List.getElem?_eq_getElem hl]
      show needT[k] = _
      simp only [needT, List.getElem_map, List.getElem_range]
      exact this k hk h1
    exact this _ (by omega) h
  · rfl
def Fa.or (f g : Fa) : Fa := ⟨f.o || g.o, f.r || g.r, f.m || g.m, f.f || g.f, f.a || g.a⟩
theorem may_mono (r : Int) (hr : 0 ≤ r ∧ r ≤ 8) (f g : Fa) (h : mayS r f = true) : mayS r (f.or g) = true := by
  obtain ⟨o, ro, m, fr, a⟩ := f
  obtain ⟨o', ro', m', fr', a'⟩ := g
  have key : r = 0 ∨ r = 1 ∨ r = 2 ∨ r = 3 ∨ r = 4 ∨ r = 5 ∨ r = 6 ∨ r = 7 ∨ r = 8 := by omega
  clear hr
  rcases key with rfl | rfl | rfl | rfl | rfl | rfl | rfl | rfl | rfl <;> revert o ro m fr a o' ro' m' fr' a' <;> decide
def fa0 : Fa := ⟨false, false, false, false, false⟩
theorem none_eq (c : Int) : mayS (ruS c) fa0 = decide (ruS c = 1) := rfl
theorem none_at (c : Int) : decide (ruS c = 1) = (decide (1 ≤ c) && (decide (c ≤ 58) && (fltS (ruS c) == 0))) := by
  by_cases h : 0 ≤ c ∧ c ≤ 58
  · obtain ⟨k, rfl⟩ := Int.eq_ofNat_of_zero_le h.1
    have hk : k < 59 := by omega
    have h58 : decide ((k : Int) ≤ 58) = true := by simp; omega
    have hr : ruS (k : Int) = ruT.getD k 0 := by unfold ruS; rw [if_pos h]; rfl
    rw [hr, h58]
    have : ∀ k, k < 59 → decide (ruT.getD k 0 = 1) = (decide (1 ≤ k) && (true && (fltS (ruT.getD k 0) == 0))) := by decide +kernel
    rw [this k hk]
    congr 1
    by_cases h1 : 1 ≤ k <;> simp [h1] <;> omega
  · have hz : ruS c = 0 := by unfold ruS; rw [if_neg h]
    rw [hz]
    cases k1 : decide (1 ≤ c) <;> cases k2 : decide (c ≤ 58) <;> simp at k1 k2 ⊢ <;> omega
theorem more_fs (c : Int) (f g : Fa) : Fsp Tryd.prog 6 [] 0 [.int .i64 c, f.pv, g.pv] [] 0 (.bool true) := by
  have ha := awake_fs
  have h1 := may_fs c f
  have h2 := may_fs c (f.or g)
  have h3 := may_fs c fa0
  have h4 := fault_fs c
  have h5 := needs_fs c
  have hmo := may_mono (ruS c) (ru_rng c) f g
  have hn := none_at c
  have hnl : decide (ruS c = 1) = true → needV c = .sl 1 [] := fun h => need_nil c (of_decide_eq_true h)
  rw [none_eq] at h3
  generalize decide (ruS c = 1) = B at *
  obtain ⟨o, ro, m, fr, a⟩ := f
  obtain ⟨o', ro', m', fr', a'⟩ := g
  generalize mayS (ruS c) ⟨o, ro, m, fr, a⟩ = b1 at *
  generalize mayS (ruS c) (Fa.or ⟨o, ro, m, fr, a⟩ ⟨o', ro', m', fr', a'⟩) = b2 at *
  simp only [Fa.pv, Fa.or, fa0] at h1 h2 h3
  simp only [Fa.pv]
  (refine Fsp.ofs (nx := 0) mixed Tryd.func6 rfl (by simp [Tryd.f6]) ?_; simp -implicitDefEqProofs only [push_cast, Tryd.f6, seval])
  refine callE_p h1 ?_
  simp -implicitDefEqProofs only [push_cast, seval]
  cases b1
  · refine callE_nop' (.bool false) ?_
    simp -implicitDefEqProofs only [push_cast, seval]
    refine callE_p h3 ?_
    simp -implicitDefEqProofs only [push_cast, seval]
    refine callE_p ha ?_
    simp -implicitDefEqProofs only [push_cast, seval]
    cases k1 : decide (1 ≤ c) <;> cases k2 : decide (c ≤ 58)
    · have hb : B = false := by rw [hn, k1, k2]; rfl
      subst hb
      refine callE_nop' (.int .i64 0) ?_
      simp -implicitDefEqProofs only [push_cast, seval]
      refine callE_nop' (.sl 1 []) ?_
      simp -implicitDefEqProofs only [push_cast, seval]
      all_goals (first | done | rfl | exact ⟨_, rfl, by simp [wkL, res2, res1, PV.weak, PV.el]⟩ | (simp [wkL, res2, res1, PV.weak, PV.el]; done))
    · have hb : B = false := by rw [hn, k1, k2]; rfl
      subst hb
      refine callE_nop' (.int .i64 0) ?_
      simp -implicitDefEqProofs only [push_cast, seval]
      refine callE_nop' (.sl 1 []) ?_
      simp -implicitDefEqProofs only [push_cast, seval]
      all_goals (first | done | rfl | exact ⟨_, rfl, by simp [wkL, res2, res1, PV.weak, PV.el]⟩ | (simp [wkL, res2, res1, PV.weak, PV.el]; done))
    · have hb : B = false := by rw [hn, k1, k2]; rfl
      subst hb
      refine callE_nop' (.int .i64 0) ?_
      simp -implicitDefEqProofs only [push_cast, seval]
      refine callE_nop' (.sl 1 []) ?_
      simp -implicitDefEqProofs only [push_cast, seval]
      all_goals (first | done | rfl | exact ⟨_, rfl, by simp [wkL, res2, res1, PV.weak, PV.el]⟩ | (simp [wkL, res2, res1, PV.weak, PV.el]; done))
    · rw [k1, k2] at hn
      have hz : (fltS (ruS c) == 0) = B := by rw [hn]; rfl
      refine callE_p h4 ?_
      cases B
      · simp -implicitDefEqProofs only [push_cast, hz, seval]
        refine callE_nop' (.sl 1 []) ?_
        simp -implicitDefEqProofs only [push_cast, seval]
        all_goals (first | done | rfl | exact ⟨_, rfl, by simp [wkL, res2, res1, PV.weak, PV.el]⟩ | (simp [wkL, res2, res1, PV.weak, PV.el]; done))
      · rw [hnl rfl] at h5
        simp -implicitDefEqProofs only [push_cast, hz, seval]
        refine callE_p h5 ?_
        simp -implicitDefEqProofs only [push_cast, seval]
        all_goals (first | done | rfl | exact ⟨_, rfl, by simp [wkL, res2, res1, PV.weak, PV.el]⟩ | (simp [wkL, res2, res1, PV.weak, PV.el]; done))
  · rw [hmo rfl] at h2
    refine callE_p h2 ?_
    simp -implicitDefEqProofs only [push_cast, seval]
    refine callE_p h3 ?_
    simp -implicitDefEqProofs only [push_cast, seval]
    refine callE_p ha ?_
    simp -implicitDefEqProofs only [push_cast, seval]
    cases k1 : decide (1 ≤ c) <;> cases k2 : decide (c ≤ 58)
    · have hb : B = false := by rw [hn, k1, k2]; rfl
      subst hb
      refine callE_nop' (.int .i64 0) ?_
      simp -implicitDefEqProofs only [push_cast, seval]
      refine callE_nop' (.sl 1 []) ?_
      simp -implicitDefEqProofs only [push_cast, seval]
      all_goals (first | done | rfl | exact ⟨_, rfl, by simp [wkL, res2, res1, PV.weak, PV.el]⟩ | (simp [wkL, res2, res1, PV.weak, PV.el]; done))
    · have hb : B = false := by rw [hn, k1, k2]; rfl
      subst hb
      refine callE_nop' (.int .i64 0) ?_
      simp -implicitDefEqProofs only [push_cast, seval]
      refine callE_nop' (.sl 1 []) ?_
      simp -implicitDefEqProofs only [push_cast, seval]
      all_goals (first | done | rfl | exact ⟨_, rfl, by simp [wkL, res2, res1, PV.weak, PV.el]⟩ | (simp [wkL, res2, res1, PV.weak, PV.el]; done))
    · have hb : B = false := by rw [hn, k1, k2]; rfl
      subst hb
      refine callE_nop' (.int .i64 0) ?_
      simp -implicitDefEqProofs only [push_cast, seval]
      refine callE_nop' (.sl 1 []) ?_
      simp -implicitDefEqProofs only [push_cast, seval]
      all_goals (first | done | rfl | exact ⟨_, rfl, by simp [wkL, res2, res1, PV.weak, PV.el]⟩ | (simp [wkL, res2, res1, PV.weak, PV.el]; done))
    · rw [k1, k2] at hn
      have hz : (fltS (ruS c) == 0) = B := by rw [hn]; rfl
      refine callE_p h4 ?_
      cases B
      · simp -implicitDefEqProofs only [push_cast, hz, seval]
        refine callE_nop' (.sl 1 []) ?_
        simp -implicitDefEqProofs only [push_cast, seval]
        all_goals (first | done | rfl | exact ⟨_, rfl, by simp [wkL, res2, res1, PV.weak, PV.el]⟩ | (simp [wkL, res2, res1, PV.weak, PV.el]; done))
      · rw [hnl rfl] at h5
        simp -implicitDefEqProofs only [push_cast, hz, seval]
        refine callE_p h5 ?_
        simp -implicitDefEqProofs only [push_cast, seval]
        all_goals (first | done | rfl | exact ⟨_, rfl, by simp [wkL, res2, res1, PV.weak, PV.el]⟩ | (simp [wkL, res2, res1, PV.weak, PV.el]; done))
end Go.Proofs.Sh
