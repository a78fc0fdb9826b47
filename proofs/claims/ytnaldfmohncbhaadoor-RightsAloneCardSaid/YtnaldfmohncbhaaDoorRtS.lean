/- The law Facts. -/
import Derived.Test.YtnaldfmohncbhaaDoorRtJ
import Derived.Test.YtnaldfmohncbhaaDoorRtN
set_option maxRecDepth 100000
set_option linter.unusedSimpArgs false
set_option linter.unusedVariables false
namespace Go.Proofs.Sh
open Go.Pv
def mineC (c i : Int) : Bool := decide (1 ≤ c) && decide (c ≤ 8) && (i / 1048576 == c) && (i % 1048576 != 0)
theorem mine_eq (c i : Int) (h0 : 0 ≤ i) : mineB c i = mineC c i := by
  unfold mineB clS mineC
  by_cases h1 : i = 1
  · subst h1
    rw [if_pos rfl]
    cases k1 : decide (1 ≤ c) <;> cases k2 : decide (c ≤ 8) <;> simp <;> simp at k1 k2 <;> omega
  · rw [if_neg h1]
    by_cases h2 : i % 1048576 = 0
    · rw [if_pos (.inl h2), h2]; simp
    · by_cases h3 : isCl (i / 1048576) = false
      · rw [if_pos (.inr h3)]
        simp [isCl] at h3
        cases k1 : decide (1 ≤ c) <;> cases k2 : decide (c ≤ 8) <;> simp <;> simp at k1 k2 <;> intro e <;> omega
      · rw [if_neg (by rintro (h | h); exact h2 h; exact h3 h)]
        simp [isCl] at h3
        obtain ⟨h4, h5⟩ := h3
        have a1 : (i / 1048576 == 0) = false := by simp; omega
        have a2 : (i % 1048576 != 0) = true := by simpa using h2
        by_cases e : i / 1048576 = c
        · subst e
          have a3 : decide (1 ≤ i / 1048576) = true := by simpa using h4
          have a4 : decide (i / 1048576 ≤ 8) = true := by simpa using h5
          rw [a1, a2, a3, a4]; simp
        · have a5 : (i / 1048576 == c) = false := by simpa using e
          rw [a5]; simp
theorem clos12_fs (c i : Int) (h0 : 0 ≤ i) (h1 : i < 4294967296) : Fsp Tryd.prog 12 [[.int .i64 c]] 0 [.int .u32 i, .box 0 0] [[.int .i64 c]] 0 (.bool (mineB c i)) := by
  rw [mine_eq c i h0]
  unfold mineC
  have r1 : Int.tmod i 1048576 = i % 1048576 := Int.tmod_eq_emod_of_nonneg h0
  have r2 : Int.fdiv i 1048576 = i / 1048576 := Int.fdiv_eq_ediv_of_nonneg _ (by decide)
  have w3 : IntKind.i64.wrap (i / 1048576) = i / 1048576 := wrap_i64_id (by omega) (by omega)
  (refine Fsp.of (nx := 1) mixed Tryd.func12 rfl (by decide) (by first | exact Nat.le_refl _ | simp) (by simp [Tryd.f12]) ⟨by simp, by simp⟩ ?_; simp -implicitDefEqProofs only [push_cast, Tryd.f12, r1, r2, w3, seval])
  exact endK_box [] [0] rfl rfl (by simp [PS.lv, lkp_hit, lkp_miss, lkp_nil]) rfl rfl (by rfl) (fun i j ps h1 h2 => by (rcases i with _ | i <;> simp at h1 h2 <;> (subst h1; subst h2; exact ⟨_, rfl, (by (repeat' (first | exact wkL_nil | refine wkL_cons ?_ ?_)); all_goals (first | rfl | exact ⟨rfl, rfl⟩ | exact ⟨rfl, rfl, rfl⟩ | exact .inl rfl))⟩))) ⟨by simp [resOk, PS.get, lkp_hit, lkp_miss, PS.ev], by simp [resPV, PS.get, lkp_hit, lkp_miss, PS.ev], by simp [resOf, resPV, one', res3, res2, res1, PS.get, lkp_hit, lkp_miss, PS.ev, PV.weak, PV.el, wkL]⟩
theorem root_none {n : Nat} {t : Tm} {ids : List Int} (h : WOk n (t, ids)) : getU t.ups 1 = none := getU_none (fun x hx e => by
  have := (h.k x hx).2
  omega)
set_option maxHeartbeats 4000000 in
theorem factsNo_fs (l : List Wd) (s : List Sl) (hl : l.length < 1000000000000001) (hs : s.length < 1000000000000001) (cl : Int) (at' : UInt8) (i : Int) (h : ¬ (l.length ≤ 12 ∧ s.length ≤ 12)) :
    Fsp Tryd.prog 3 [] 0 [.sl 2 (wdL l), .sl 3 (slL s), .int .i64 cl, .int .u8 at'.toNat, .int .u32 i] [] 0 (.bool true) := by
  have hm := made_fs l s hl hs
  have ha := awake_fs
  rw [madeR, if_neg h] at hm
  (refine Fsp.ofs (nx := 0) mixed Tryd.func3 rfl (by simp [Tryd.f3]) ?_; simp -implicitDefEqProofs only [push_cast, Tryd.f3, seval])
  refine callE_p hm ?_
  simp -implicitDefEqProofs only [push_cast, seval]
  refine callE_p ha ?_
  simp -implicitDefEqProofs only [push_cast, seval]
  all_goals (first | done | rfl | exact ⟨_, rfl, by simp [wkL, res2, res1, PV.weak, PV.el]⟩ | (simp [wkL, res2, res1, PV.weak, PV.el]; done))
set_option maxHeartbeats 4000000 in
theorem factsFar_fs (l : List Wd) (s : List Sl) (hl : l.length < 1000000000000001) (hs : s.length < 1000000000000001) (cl : Int) (at' : UInt8) (i : Int) (h : l.length ≤ 12 ∧ s.length ≤ 12) (hc : cl < -1099511627776 ∨ 1099511627776 < cl) :
    Fsp Tryd.prog 3 [] 0 [.sl 2 (wdL l), .sl 3 (slL s), .int .i64 cl, .int .u8 at'.toNat, .int .u32 i] [] 0 (.bool true) := by
  have hm := made_fs l s hl hs
  have ha := awake_fs
  rw [madeR, if_pos h] at hm
  generalize (madeW l).1 = t at *
  generalize madeC (madeW l).2 s = c at *
  rw [Tm.pv, Cm.pv] at hm
  cases k1 : decide (cl < -1099511627776)
  · have k2 : decide (1099511627776 < cl) = true := by (simp at k1; simp; omega)
    (refine Fsp.ofs (nx := 0) mixed Tryd.func3 rfl (by simp [Tryd.f3]) ?_; simp -implicitDefEqProofs only [push_cast, Tryd.f3, seval])
    refine callE_pure hm (by rfl) (by rfl) (by first | rfl | simp -implicitDefEqProofs only [push_cast, Tm.kc_weak, Tm.kc_tok1, Tm.uc_weak, Tm.uc_tok1, Cm.mc_weak, Cm.mc_tok1, Cm.sc_weak, Cm.sc_tok1, seval]) (by decide) (by first | rfl | simp -implicitDefEqProofs only [push_cast, Tm.kc_weak, Tm.kc_tok1, Tm.uc_weak, Tm.uc_tok1, Cm.mc_weak, Cm.mc_tok1, Cm.sc_weak, Cm.sc_tok1, seval]) (fun _ => by first | rfl | simp -implicitDefEqProofs only [push_cast, Tm.kc_weak, Tm.kc_tok1, Tm.uc_weak, Tm.uc_tok1, Cm.mc_weak, Cm.mc_tok1, Cm.sc_weak, Cm.sc_tok1, seval]) (by first | rfl | simp [gdOk, newToks]) ?_
    simp -implicitDefEqProofs only [push_cast, Tm.kc_weak, Tm.kc_cells, Tm.kc_one, Tm.kc_back1, Tm.kc_tok1, Tm.uc_weak, Tm.uc_cells, Tm.uc_one, Tm.uc_back1, Tm.uc_tok1, Cm.mc_weak, Cm.mc_cells, Cm.mc_one, Cm.mc_back1, Cm.mc_tok1, Cm.sc_weak, Cm.sc_cells, Cm.sc_one, Cm.sc_back1, Cm.sc_tok1, k1, k2, seval]
    refine callE_p ha ?_
    simp -implicitDefEqProofs only [push_cast, seval]
    all_goals (first | done | rfl | exact ⟨_, rfl, by simp [wkL, res2, res1, PV.weak, PV.el]⟩ | (simp [wkL, res2, res1, PV.weak, PV.el]; done))
  · (refine Fsp.ofs (nx := 0) mixed Tryd.func3 rfl (by simp [Tryd.f3]) ?_; simp -implicitDefEqProofs only [push_cast, Tryd.f3, seval])
    refine callE_pure hm (by rfl) (by rfl) (by first | rfl | simp -implicitDefEqProofs only [push_cast, Tm.kc_weak, Tm.kc_tok1, Tm.uc_weak, Tm.uc_tok1, Cm.mc_weak, Cm.mc_tok1, Cm.sc_weak, Cm.sc_tok1, seval]) (by decide) (by first | rfl | simp -implicitDefEqProofs only [push_cast, Tm.kc_weak, Tm.kc_tok1, Tm.uc_weak, Tm.uc_tok1, Cm.mc_weak, Cm.mc_tok1, Cm.sc_weak, Cm.sc_tok1, seval]) (fun _ => by first | rfl | simp -implicitDefEqProofs only [push_cast, Tm.kc_weak, Tm.kc_tok1, Tm.uc_weak, Tm.uc_tok1, Cm.mc_weak, Cm.mc_tok1, Cm.sc_weak, Cm.sc_tok1, seval]) (by first | rfl | simp [gdOk, newToks]) ?_
    simp -implicitDefEqProofs only [push_cast, Tm.kc_weak, Tm.kc_cells, Tm.kc_one, Tm.kc_back1, Tm.kc_tok1, Tm.uc_weak, Tm.uc_cells, Tm.uc_one, Tm.uc_back1, Tm.uc_tok1, Cm.mc_weak, Cm.mc_cells, Cm.mc_one, Cm.mc_back1, Cm.mc_tok1, Cm.sc_weak, Cm.sc_cells, Cm.sc_one, Cm.sc_back1, Cm.sc_tok1, k1, seval]
    refine callE_p ha ?_
    simp -implicitDefEqProofs only [push_cast, seval]
    all_goals (first | done | rfl | exact ⟨_, rfl, by simp [wkL, res2, res1, PV.weak, PV.el]⟩ | (simp [wkL, res2, res1, PV.weak, PV.el]; done))
set_option maxHeartbeats 4000000 in
theorem factsOk_fs (l : List Wd) (s : List Sl) (cl : Int) (at' : UInt8) (i : Int) (h : l.length ≤ 12 ∧ s.length ≤ 12) (hc : -1099511627776 ≤ cl ∧ cl ≤ 1099511627776) (hi : 0 ≤ i ∧ i < 4294967296) :
    Fsp Tryd.prog 3 [] 0 [.sl 2 (wdL l), .sl 3 (slL s), .int .i64 cl, .int .u8 at'.toNat, .int .u32 i] [] 0 (.bool true) := by
  have hm := made_fs l s (by omega) (by omega)
  have ha := awake_fs
  rw [madeR, if_pos h] at hm
  have hw := wok l.length l rfl (by omega)
  have hok : CmOk (madeC (madeW l).2 s) := (madeC_ok (t := (madeW l).1) (ids := (madeW l).2) hw s (by omega)).1
  generalize hmw : madeW l = a at *
  obtain ⟨t, ids⟩ := a
  generalize madeC ids s = c at *
  have hil : ids.length = l.length + 1 := hw.l
  have hil0 : 0 < ids.length := by omega
  have hil1 : ids.length ≤ 13 := by omega
  simp only [Tm.pv, Cm.pv] at hm
  have k1 : decide (cl < -1099511627776) = false := by (simp; omega)
  have k2 : decide (1099511627776 < cl) = false := by (simp; omega)
  have hcw : (Go.Lit.int .i64 cl).wf = true := wf_i (by omega)
  obtain ⟨u1, u2, u3, hgu, s0, s1⟩ := up_facts at'.toNat at'.toNat_lt ids hil0
  have w2 : IntKind.i64.wrap (2 * (ids.length : Int)) = 2 * (ids.length : Int) := wrap_i64_id (by omega) (by omega)
  (refine Fsp.ofs (nx := 0) mixed Tryd.func3 rfl (by simp [Tryd.f3]) ?_; simp -implicitDefEqProofs only [push_cast, Tryd.f3, seval])
  refine callE_pure hm (by rfl) (by rfl) (by first | rfl | simp -implicitDefEqProofs only [push_cast, Tm.kc_weak, Tm.kc_tok1, Tm.uc_weak, Tm.uc_tok1, Cm.mc_weak, Cm.mc_tok1, Cm.sc_weak, Cm.sc_tok1, seval]) (by decide) (by first | rfl | simp -implicitDefEqProofs only [push_cast, Tm.kc_weak, Tm.kc_tok1, Tm.uc_weak, Tm.uc_tok1, Cm.mc_weak, Cm.mc_tok1, Cm.sc_weak, Cm.sc_tok1, seval]) (fun _ => by first | rfl | simp -implicitDefEqProofs only [push_cast, Tm.kc_weak, Tm.kc_tok1, Tm.uc_weak, Tm.uc_tok1, Cm.mc_weak, Cm.mc_tok1, Cm.sc_weak, Cm.sc_tok1, seval]) (by first | rfl | simp [gdOk, newToks]) ?_
  simp -implicitDefEqProofs only [push_cast, Tm.kc_weak, Tm.kc_cells, Tm.kc_one, Tm.kc_back1, Tm.kc_tok1, Tm.uc_weak, Tm.uc_cells, Tm.uc_one, Tm.uc_back1, Tm.uc_tok1, Cm.mc_weak, Cm.mc_cells, Cm.mc_one, Cm.mc_back1, Cm.mc_tok1, Cm.sc_weak, Cm.sc_cells, Cm.sc_one, Cm.sc_back1, Cm.sc_tok1, k1, k2, u1, us_length, w2, seval]
  refine condC_split (fun g1 => ?_) (fun g1 => ?_)
  · simp -implicitDefEqProofs only [push_cast, u1, u2, us_length, hgu, seval]
    refine ⟨(by intro e; rw [Int.natCast_eq_zero] at e; rw [e] at hil0; exact absurd hil0 (by decide)), s0, s1, ?_⟩
    have hj := hw.r _ (sel_mem at'.toNat hil0)
    generalize ids.getD (at'.toNat % ids.length) 0 = j at *
    replace hj : 0 ≤ j ∧ j < 4294967296 := ⟨by omega, hj.2.1⟩
    have hp : ∀ p, getU t.ups j = some p → 0 ≤ p ∧ p < 4294967296 := fun p hg => by
      have hr := hw.r p (hw.v _ (getU_some hg))
      exact ⟨by omega, hr.2.1⟩
    have hof := of_fs .nilm .nilsl (.inl ⟨rfl, rfl⟩) t c hok false cl j (mayT_nil cl j) hcw hj.1 hj.2 hp
    have hpa := parent_fs t j
    have hcl := clos12_fs cl j hj.1 hj.2
    have hmy := mayT_nil cl j
    simp only [Tm.pv, Cm.pv] at hof hpa
    by_cases hj1 : j = 1
    · have hg := root_none hw
      rw [← hj1] at hg
      have hh : t.has j = true := by rw [Tm.has, hg]; simp [hj1]
      rw [ofS, if_pos hh, upOf, hg] at hof
      simp only [Fa.pv, Option.getD_none, Option.isSome_none, Bool.false_and] at hof
      rw [hg] at hpa
      simp only [Option.getD_none, Option.isSome_none] at hpa
      have hms := mask_fs c hok cl 1 hcw (wf_u (by omega))
      simp only [Cm.pv] at hms
      have e1 : (j == 1) = true := by rw [hj1]; rfl
      have e2 : decide (j = 1) = true := by rw [hj1]; rfl
      rw [e2] at hof
      refine callE_pure hof (by rfl) (by rfl) (by first | rfl | simp -implicitDefEqProofs only [push_cast, Tm.kc_weak, Tm.kc_tok1, Tm.uc_weak, Tm.uc_tok1, Cm.mc_weak, Cm.mc_tok1, Cm.sc_weak, Cm.sc_tok1, seval]) (by decide) (by first | rfl | simp -implicitDefEqProofs only [push_cast, Tm.kc_weak, Tm.kc_tok1, Tm.uc_weak, Tm.uc_tok1, Cm.mc_weak, Cm.mc_tok1, Cm.sc_weak, Cm.sc_tok1, seval]) (fun _ => by first | rfl | simp -implicitDefEqProofs only [push_cast, Tm.kc_weak, Tm.kc_tok1, Tm.uc_weak, Tm.uc_tok1, Cm.mc_weak, Cm.mc_tok1, Cm.sc_weak, Cm.sc_tok1, seval]) (by first | rfl | simp [gdOk, newToks]) ?_
      simp -implicitDefEqProofs only [push_cast, Tm.kc_weak, Tm.kc_cells, Tm.kc_one, Tm.kc_back1, Tm.kc_tok1, Tm.uc_weak, Tm.uc_cells, Tm.uc_one, Tm.uc_back1, Tm.uc_tok1, Cm.mc_weak, Cm.mc_cells, Cm.mc_one, Cm.mc_back1, Cm.mc_tok1, Cm.sc_weak, Cm.sc_cells, Cm.sc_one, Cm.sc_back1, Cm.sc_tok1, seval]
      refine callE_pure hpa (by rfl) (by rfl) (by first | rfl | simp -implicitDefEqProofs only [push_cast, Tm.kc_weak, Tm.kc_tok1, Tm.uc_weak, Tm.uc_tok1, Cm.mc_weak, Cm.mc_tok1, Cm.sc_weak, Cm.sc_tok1, seval]) (by decide) (by first | rfl | simp -implicitDefEqProofs only [push_cast, Tm.kc_weak, Tm.kc_tok1, Tm.uc_weak, Tm.uc_tok1, Cm.mc_weak, Cm.mc_tok1, Cm.sc_weak, Cm.sc_tok1, seval]) (fun _ => by first | rfl | simp -implicitDefEqProofs only [push_cast, Tm.kc_weak, Tm.kc_tok1, Tm.uc_weak, Tm.uc_tok1, Cm.mc_weak, Cm.mc_tok1, Cm.sc_weak, Cm.sc_tok1, seval]) (by first | rfl | simp [gdOk, newToks]) ?_
      simp -implicitDefEqProofs only [push_cast, Tm.kc_weak, Tm.kc_cells, Tm.kc_one, Tm.kc_back1, Tm.kc_tok1, Tm.uc_weak, Tm.uc_cells, Tm.uc_one, Tm.uc_back1, Tm.uc_tok1, Cm.mc_weak, Cm.mc_cells, Cm.mc_one, Cm.mc_back1, Cm.mc_tok1, Cm.sc_weak, Cm.sc_cells, Cm.sc_one, Cm.sc_back1, Cm.sc_tok1, seval]
      refine callE_box hcl [0] [] (by rfl) (by rfl) (by rfl) (by rfl) (by rfl) (by rfl) (fun i j cs h1 h2 => by (rcases i with _ | _ | _ | i <;> simp at h1 h2 <;> (subst h1; subst h2; exact ⟨_, rfl, (by (repeat' (first | exact wkL_nil | refine wkL_cons ?_ ?_)); all_goals (first | exact .inl ⟨_, _, _, _, rfl, rfl, rfl⟩ | exact .inr (.inr (.inr (.inr (.inl ⟨_, _, _, rfl, rfl, rfl⟩)))) | exact .inr (.inr (.inr (.inr (.inr (.inl ⟨_, _, _, _, rfl, rfl, rfl⟩))))) | exact .inr (.inr (.inr (.inr (.inr (.inr ⟨_, _, rfl, rfl, rfl⟩))))) | exact .inr (.inl rfl) | exact .inr (.inr (.inl ⟨_, _, _, rfl, rfl, rfl⟩))))⟩))) (by simp [PS.lv, lkp_hit, lkp_miss, lkp_nil]) (by (repeat' (first | exact wkL_nil | refine wkL_cons ?_ ?_)); all_goals (first | exact .inl ⟨_, _, _, rfl, rfl, rfl⟩ | exact .inr (.inl rfl) | exact .inr (.inr (.inl ⟨_, _, _, _, rfl, rfl, rfl⟩)) | exact .inr (.inr (.inr (.inl ⟨_, _, _, rfl, rfl, rfl, (wkL_get (by (repeat' (first | exact wkL_nil | refine wkL_cons ?_ ?_)); all_goals (first | exact .inl ⟨_, _, _, rfl, rfl, rfl⟩ | exact .inr rfl))).2⟩))) | exact .inr (.inr (.inr (.inr (.inl ⟨_, _, rfl, rfl, rfl⟩)))) | exact .inr (.inr (.inr (.inr (.inr ⟨_, _, rfl, rfl, wkL_get (by (repeat' (first | exact wkL_nil | refine wkL_cons ?_ ?_)); all_goals (first | exact .inr rfl | exact .inl ⟨_, _, rfl, rfl, rfl⟩))⟩)))))) (by decide) (by simp) (by rfl) (by simp [tokLt1]) (fun _ => by rfl) (by first | rfl | simp [gdOk, newToks]) ?_
      simp -implicitDefEqProofs only [push_cast, Tm.kc_weak, Tm.kc_cells, Tm.kc_one, Tm.kc_back1, Tm.kc_tok1, Tm.uc_weak, Tm.uc_cells, Tm.uc_one, Tm.uc_back1, Tm.uc_tok1, Cm.mc_weak, Cm.mc_cells, Cm.mc_one, Cm.mc_back1, Cm.mc_tok1, Cm.sc_weak, Cm.sc_cells, Cm.sc_one, Cm.sc_back1, Cm.sc_tok1, e1, seval]
      refine callE_pure hms (by rfl) (by rfl) (by first | rfl | simp -implicitDefEqProofs only [push_cast, Tm.kc_weak, Tm.kc_tok1, Tm.uc_weak, Tm.uc_tok1, Cm.mc_weak, Cm.mc_tok1, Cm.sc_weak, Cm.sc_tok1, seval]) (by decide) (by first | rfl | simp -implicitDefEqProofs only [push_cast, Tm.kc_weak, Tm.kc_tok1, Tm.uc_weak, Tm.uc_tok1, Cm.mc_weak, Cm.mc_tok1, Cm.sc_weak, Cm.sc_tok1, seval]) (fun _ => by first | rfl | simp -implicitDefEqProofs only [push_cast, Tm.kc_weak, Tm.kc_tok1, Tm.uc_weak, Tm.uc_tok1, Cm.mc_weak, Cm.mc_tok1, Cm.sc_weak, Cm.sc_tok1, seval]) (by first | rfl | simp [gdOk, newToks]) ?_
      simp -implicitDefEqProofs only [push_cast, Tm.kc_weak, Tm.kc_cells, Tm.kc_one, Tm.kc_back1, Tm.kc_tok1, Tm.uc_weak, Tm.uc_cells, Tm.uc_one, Tm.uc_back1, Tm.uc_tok1, Cm.mc_weak, Cm.mc_cells, Cm.mc_one, Cm.mc_back1, Cm.mc_tok1, Cm.sc_weak, Cm.sc_cells, Cm.sc_one, Cm.sc_back1, Cm.sc_tok1, seval]
      refine callE_p hmy ?_
      simp -implicitDefEqProofs only [push_cast, Tm.kc_weak, Tm.kc_cells, Tm.kc_one, Tm.kc_back1, Tm.kc_tok1, Tm.uc_weak, Tm.uc_cells, Tm.uc_one, Tm.uc_back1, Tm.uc_tok1, Cm.mc_weak, Cm.mc_cells, Cm.mc_one, Cm.mc_back1, Cm.mc_tok1, Cm.sc_weak, Cm.sc_cells, Cm.sc_one, Cm.sc_back1, Cm.sc_tok1, seval]
      refine callE_p ha ?_
      simp -implicitDefEqProofs only [push_cast, Tm.kc_weak, Tm.kc_cells, Tm.kc_one, Tm.kc_back1, Tm.kc_tok1, Tm.uc_weak, Tm.uc_cells, Tm.uc_one, Tm.uc_back1, Tm.uc_tok1, Cm.mc_weak, Cm.mc_cells, Cm.mc_one, Cm.mc_back1, Cm.mc_tok1, Cm.sc_weak, Cm.sc_cells, Cm.sc_one, Cm.sc_back1, Cm.sc_tok1, fa_eq, fa_kt, fa_eg, seval]
      simp [mngd]
    · have e1 : (j == 1) = false := by simpa using hj1
      have e2 : decide (j = 1) = false := by simpa using hj1
      cases hg : getU t.ups j with
      | none =>
        have hh : ¬ t.has j = true := by rw [Tm.has, hg]; simp [hj1]
        rw [ofS, if_neg hh, e2] at hof
        simp only [Fa.pv] at hof
        rw [hg] at hpa
        simp only [Option.getD_none, Option.isSome_none] at hpa
        refine callE_pure hof (by rfl) (by rfl) (by first | rfl | simp -implicitDefEqProofs only [push_cast, Tm.kc_weak, Tm.kc_tok1, Tm.uc_weak, Tm.uc_tok1, Cm.mc_weak, Cm.mc_tok1, Cm.sc_weak, Cm.sc_tok1, seval]) (by decide) (by first | rfl | simp -implicitDefEqProofs only [push_cast, Tm.kc_weak, Tm.kc_tok1, Tm.uc_weak, Tm.uc_tok1, Cm.mc_weak, Cm.mc_tok1, Cm.sc_weak, Cm.sc_tok1, seval]) (fun _ => by first | rfl | simp -implicitDefEqProofs only [push_cast, Tm.kc_weak, Tm.kc_tok1, Tm.uc_weak, Tm.uc_tok1, Cm.mc_weak, Cm.mc_tok1, Cm.sc_weak, Cm.sc_tok1, seval]) (by first | rfl | simp [gdOk, newToks]) ?_
        simp -implicitDefEqProofs only [push_cast, Tm.kc_weak, Tm.kc_cells, Tm.kc_one, Tm.kc_back1, Tm.kc_tok1, Tm.uc_weak, Tm.uc_cells, Tm.uc_one, Tm.uc_back1, Tm.uc_tok1, Cm.mc_weak, Cm.mc_cells, Cm.mc_one, Cm.mc_back1, Cm.mc_tok1, Cm.sc_weak, Cm.sc_cells, Cm.sc_one, Cm.sc_back1, Cm.sc_tok1, seval]
        refine callE_pure hpa (by rfl) (by rfl) (by first | rfl | simp -implicitDefEqProofs only [push_cast, Tm.kc_weak, Tm.kc_tok1, Tm.uc_weak, Tm.uc_tok1, Cm.mc_weak, Cm.mc_tok1, Cm.sc_weak, Cm.sc_tok1, seval]) (by decide) (by first | rfl | simp -implicitDefEqProofs only [push_cast, Tm.kc_weak, Tm.kc_tok1, Tm.uc_weak, Tm.uc_tok1, Cm.mc_weak, Cm.mc_tok1, Cm.sc_weak, Cm.sc_tok1, seval]) (fun _ => by first | rfl | simp -implicitDefEqProofs only [push_cast, Tm.kc_weak, Tm.kc_tok1, Tm.uc_weak, Tm.uc_tok1, Cm.mc_weak, Cm.mc_tok1, Cm.sc_weak, Cm.sc_tok1, seval]) (by first | rfl | simp [gdOk, newToks]) ?_
        simp -implicitDefEqProofs only [push_cast, Tm.kc_weak, Tm.kc_cells, Tm.kc_one, Tm.kc_back1, Tm.kc_tok1, Tm.uc_weak, Tm.uc_cells, Tm.uc_one, Tm.uc_back1, Tm.uc_tok1, Cm.mc_weak, Cm.mc_cells, Cm.mc_one, Cm.mc_back1, Cm.mc_tok1, Cm.sc_weak, Cm.sc_cells, Cm.sc_one, Cm.sc_back1, Cm.sc_tok1, seval]
        refine callE_box hcl [0] [] (by rfl) (by rfl) (by rfl) (by rfl) (by rfl) (by rfl) (fun i j cs h1 h2 => by (rcases i with _ | _ | _ | i <;> simp at h1 h2 <;> (subst h1; subst h2; exact ⟨_, rfl, (by (repeat' (first | exact wkL_nil | refine wkL_cons ?_ ?_)); all_goals (first | exact .inl ⟨_, _, _, _, rfl, rfl, rfl⟩ | exact .inr (.inr (.inr (.inr (.inl ⟨_, _, _, rfl, rfl, rfl⟩)))) | exact .inr (.inr (.inr (.inr (.inr (.inl ⟨_, _, _, _, rfl, rfl, rfl⟩))))) | exact .inr (.inr (.inr (.inr (.inr (.inr ⟨_, _, rfl, rfl, rfl⟩))))) | exact .inr (.inl rfl) | exact .inr (.inr (.inl ⟨_, _, _, rfl, rfl, rfl⟩))))⟩))) (by simp [PS.lv, lkp_hit, lkp_miss, lkp_nil]) (by (repeat' (first | exact wkL_nil | refine wkL_cons ?_ ?_)); all_goals (first | exact .inl ⟨_, _, _, rfl, rfl, rfl⟩ | exact .inr (.inl rfl) | exact .inr (.inr (.inl ⟨_, _, _, _, rfl, rfl, rfl⟩)) | exact .inr (.inr (.inr (.inl ⟨_, _, _, rfl, rfl, rfl, (wkL_get (by (repeat' (first | exact wkL_nil | refine wkL_cons ?_ ?_)); all_goals (first | exact .inl ⟨_, _, _, rfl, rfl, rfl⟩ | exact .inr rfl))).2⟩))) | exact .inr (.inr (.inr (.inr (.inl ⟨_, _, rfl, rfl, rfl⟩)))) | exact .inr (.inr (.inr (.inr (.inr ⟨_, _, rfl, rfl, wkL_get (by (repeat' (first | exact wkL_nil | refine wkL_cons ?_ ?_)); all_goals (first | exact .inr rfl | exact .inl ⟨_, _, rfl, rfl, rfl⟩))⟩)))))) (by decide) (by simp) (by rfl) (by simp [tokLt1]) (fun _ => by rfl) (by first | rfl | simp [gdOk, newToks]) ?_
        simp -implicitDefEqProofs only [push_cast, Tm.kc_weak, Tm.kc_cells, Tm.kc_one, Tm.kc_back1, Tm.kc_tok1, Tm.uc_weak, Tm.uc_cells, Tm.uc_one, Tm.uc_back1, Tm.uc_tok1, Cm.mc_weak, Cm.mc_cells, Cm.mc_one, Cm.mc_back1, Cm.mc_tok1, Cm.sc_weak, Cm.sc_cells, Cm.sc_one, Cm.sc_back1, Cm.sc_tok1, e1, seval]
        refine callE_p hmy ?_
        simp -implicitDefEqProofs only [push_cast, Tm.kc_weak, Tm.kc_cells, Tm.kc_one, Tm.kc_back1, Tm.kc_tok1, Tm.uc_weak, Tm.uc_cells, Tm.uc_one, Tm.uc_back1, Tm.uc_tok1, Cm.mc_weak, Cm.mc_cells, Cm.mc_one, Cm.mc_back1, Cm.mc_tok1, Cm.sc_weak, Cm.sc_cells, Cm.sc_one, Cm.sc_back1, Cm.sc_tok1, seval]
        refine callE_p ha ?_
        simp -implicitDefEqProofs only [push_cast, Tm.kc_weak, Tm.kc_cells, Tm.kc_one, Tm.kc_back1, Tm.kc_tok1, Tm.uc_weak, Tm.uc_cells, Tm.uc_one, Tm.uc_back1, Tm.uc_tok1, Cm.mc_weak, Cm.mc_cells, Cm.mc_one, Cm.mc_back1, Cm.mc_tok1, Cm.sc_weak, Cm.sc_cells, Cm.sc_one, Cm.sc_back1, Cm.sc_tok1, fa_eq, fa_kt, fa_eg, seval]
      | some p =>
        have hh : t.has j = true := by rw [Tm.has, hg]; rfl
        have hpr := hp p hg
        rw [ofS, if_pos hh, upOf, hg, e2] at hof
        simp only [Fa.pv, Option.getD_some, Option.isSome_some, Bool.true_and] at hof
        rw [hg] at hpa
        simp only [Option.getD_some, Option.isSome_some] at hpa
        have hms := mask_fs c hok cl p hcw (wf_u hpr)
        simp only [Cm.pv] at hms
        have hcp := clos12_fs cl p hpr.1 hpr.2
        refine callE_pure hof (by rfl) (by rfl) (by first | rfl | simp -implicitDefEqProofs only [push_cast, Tm.kc_weak, Tm.kc_tok1, Tm.uc_weak, Tm.uc_tok1, Cm.mc_weak, Cm.mc_tok1, Cm.sc_weak, Cm.sc_tok1, seval]) (by decide) (by first | rfl | simp -implicitDefEqProofs only [push_cast, Tm.kc_weak, Tm.kc_tok1, Tm.uc_weak, Tm.uc_tok1, Cm.mc_weak, Cm.mc_tok1, Cm.sc_weak, Cm.sc_tok1, seval]) (fun _ => by first | rfl | simp -implicitDefEqProofs only [push_cast, Tm.kc_weak, Tm.kc_tok1, Tm.uc_weak, Tm.uc_tok1, Cm.mc_weak, Cm.mc_tok1, Cm.sc_weak, Cm.sc_tok1, seval]) (by first | rfl | simp [gdOk, newToks]) ?_
        simp -implicitDefEqProofs only [push_cast, Tm.kc_weak, Tm.kc_cells, Tm.kc_one, Tm.kc_back1, Tm.kc_tok1, Tm.uc_weak, Tm.uc_cells, Tm.uc_one, Tm.uc_back1, Tm.uc_tok1, Cm.mc_weak, Cm.mc_cells, Cm.mc_one, Cm.mc_back1, Cm.mc_tok1, Cm.sc_weak, Cm.sc_cells, Cm.sc_one, Cm.sc_back1, Cm.sc_tok1, seval]
        refine callE_pure hpa (by rfl) (by rfl) (by first | rfl | simp -implicitDefEqProofs only [push_cast, Tm.kc_weak, Tm.kc_tok1, Tm.uc_weak, Tm.uc_tok1, Cm.mc_weak, Cm.mc_tok1, Cm.sc_weak, Cm.sc_tok1, seval]) (by decide) (by first | rfl | simp -implicitDefEqProofs only [push_cast, Tm.kc_weak, Tm.kc_tok1, Tm.uc_weak, Tm.uc_tok1, Cm.mc_weak, Cm.mc_tok1, Cm.sc_weak, Cm.sc_tok1, seval]) (fun _ => by first | rfl | simp -implicitDefEqProofs only [push_cast, Tm.kc_weak, Tm.kc_tok1, Tm.uc_weak, Tm.uc_tok1, Cm.mc_weak, Cm.mc_tok1, Cm.sc_weak, Cm.sc_tok1, seval]) (by first | rfl | simp [gdOk, newToks]) ?_
        simp -implicitDefEqProofs only [push_cast, Tm.kc_weak, Tm.kc_cells, Tm.kc_one, Tm.kc_back1, Tm.kc_tok1, Tm.uc_weak, Tm.uc_cells, Tm.uc_one, Tm.uc_back1, Tm.uc_tok1, Cm.mc_weak, Cm.mc_cells, Cm.mc_one, Cm.mc_back1, Cm.mc_tok1, Cm.sc_weak, Cm.sc_cells, Cm.sc_one, Cm.sc_back1, Cm.sc_tok1, seval]
        refine callE_box hcl [0] [] (by rfl) (by rfl) (by rfl) (by rfl) (by rfl) (by rfl) (fun i j cs h1 h2 => by (rcases i with _ | _ | _ | i <;> simp at h1 h2 <;> (subst h1; subst h2; exact ⟨_, rfl, (by (repeat' (first | exact wkL_nil | refine wkL_cons ?_ ?_)); all_goals (first | exact .inl ⟨_, _, _, _, rfl, rfl, rfl⟩ | exact .inr (.inr (.inr (.inr (.inl ⟨_, _, _, rfl, rfl, rfl⟩)))) | exact .inr (.inr (.inr (.inr (.inr (.inl ⟨_, _, _, _, rfl, rfl, rfl⟩))))) | exact .inr (.inr (.inr (.inr (.inr (.inr ⟨_, _, rfl, rfl, rfl⟩))))) | exact .inr (.inl rfl) | exact .inr (.inr (.inl ⟨_, _, _, rfl, rfl, rfl⟩))))⟩))) (by simp [PS.lv, lkp_hit, lkp_miss, lkp_nil]) (by (repeat' (first | exact wkL_nil | refine wkL_cons ?_ ?_)); all_goals (first | exact .inl ⟨_, _, _, rfl, rfl, rfl⟩ | exact .inr (.inl rfl) | exact .inr (.inr (.inl ⟨_, _, _, _, rfl, rfl, rfl⟩)) | exact .inr (.inr (.inr (.inl ⟨_, _, _, rfl, rfl, rfl, (wkL_get (by (repeat' (first | exact wkL_nil | refine wkL_cons ?_ ?_)); all_goals (first | exact .inl ⟨_, _, _, rfl, rfl, rfl⟩ | exact .inr rfl))).2⟩))) | exact .inr (.inr (.inr (.inr (.inl ⟨_, _, rfl, rfl, rfl⟩)))) | exact .inr (.inr (.inr (.inr (.inr ⟨_, _, rfl, rfl, wkL_get (by (repeat' (first | exact wkL_nil | refine wkL_cons ?_ ?_)); all_goals (first | exact .inr rfl | exact .inl ⟨_, _, rfl, rfl, rfl⟩))⟩)))))) (by decide) (by simp) (by rfl) (by simp [tokLt1]) (fun _ => by rfl) (by first | rfl | simp [gdOk, newToks]) ?_
        simp -implicitDefEqProofs only [push_cast, Tm.kc_weak, Tm.kc_cells, Tm.kc_one, Tm.kc_back1, Tm.kc_tok1, Tm.uc_weak, Tm.uc_cells, Tm.uc_one, Tm.uc_back1, Tm.uc_tok1, Cm.mc_weak, Cm.mc_cells, Cm.mc_one, Cm.mc_back1, Cm.mc_tok1, Cm.sc_weak, Cm.sc_cells, Cm.sc_one, Cm.sc_back1, Cm.sc_tok1, e1, seval]
        refine callE_pure hms (by rfl) (by rfl) (by first | rfl | simp -implicitDefEqProofs only [push_cast, Tm.kc_weak, Tm.kc_tok1, Tm.uc_weak, Tm.uc_tok1, Cm.mc_weak, Cm.mc_tok1, Cm.sc_weak, Cm.sc_tok1, seval]) (by decide) (by first | rfl | simp -implicitDefEqProofs only [push_cast, Tm.kc_weak, Tm.kc_tok1, Tm.uc_weak, Tm.uc_tok1, Cm.mc_weak, Cm.mc_tok1, Cm.sc_weak, Cm.sc_tok1, seval]) (fun _ => by first | rfl | simp -implicitDefEqProofs only [push_cast, Tm.kc_weak, Tm.kc_tok1, Tm.uc_weak, Tm.uc_tok1, Cm.mc_weak, Cm.mc_tok1, Cm.sc_weak, Cm.sc_tok1, seval]) (by first | rfl | simp [gdOk, newToks]) ?_
        simp -implicitDefEqProofs only [push_cast, Tm.kc_weak, Tm.kc_cells, Tm.kc_one, Tm.kc_back1, Tm.kc_tok1, Tm.uc_weak, Tm.uc_cells, Tm.uc_one, Tm.uc_back1, Tm.uc_tok1, Cm.mc_weak, Cm.mc_cells, Cm.mc_one, Cm.mc_back1, Cm.mc_tok1, Cm.sc_weak, Cm.sc_cells, Cm.sc_one, Cm.sc_back1, Cm.sc_tok1, seval]
        refine callE_box hcp [0] [] (by rfl) (by rfl) (by rfl) (by rfl) (by rfl) (by rfl) (fun i j cs h1 h2 => by (rcases i with _ | _ | _ | i <;> simp at h1 h2 <;> (subst h1; subst h2; exact ⟨_, rfl, (by (repeat' (first | exact wkL_nil | refine wkL_cons ?_ ?_)); all_goals (first | exact .inl ⟨_, _, _, _, rfl, rfl, rfl⟩ | exact .inr (.inr (.inr (.inr (.inl ⟨_, _, _, rfl, rfl, rfl⟩)))) | exact .inr (.inr (.inr (.inr (.inr (.inl ⟨_, _, _, _, rfl, rfl, rfl⟩))))) | exact .inr (.inr (.inr (.inr (.inr (.inr ⟨_, _, rfl, rfl, rfl⟩))))) | exact .inr (.inl rfl) | exact .inr (.inr (.inl ⟨_, _, _, rfl, rfl, rfl⟩))))⟩))) (by simp [PS.lv, lkp_hit, lkp_miss, lkp_nil]) (by (repeat' (first | exact wkL_nil | refine wkL_cons ?_ ?_)); all_goals (first | exact .inl ⟨_, _, _, rfl, rfl, rfl⟩ | exact .inr (.inl rfl) | exact .inr (.inr (.inl ⟨_, _, _, _, rfl, rfl, rfl⟩)) | exact .inr (.inr (.inr (.inl ⟨_, _, _, rfl, rfl, rfl, (wkL_get (by (repeat' (first | exact wkL_nil | refine wkL_cons ?_ ?_)); all_goals (first | exact .inl ⟨_, _, _, rfl, rfl, rfl⟩ | exact .inr rfl))).2⟩))) | exact .inr (.inr (.inr (.inr (.inl ⟨_, _, rfl, rfl, rfl⟩)))) | exact .inr (.inr (.inr (.inr (.inr ⟨_, _, rfl, rfl, wkL_get (by (repeat' (first | exact wkL_nil | refine wkL_cons ?_ ?_)); all_goals (first | exact .inr rfl | exact .inl ⟨_, _, rfl, rfl, rfl⟩))⟩)))))) (by decide) (by simp) (by rfl) (by simp [tokLt1]) (fun _ => by rfl) (by first | rfl | simp [gdOk, newToks]) ?_
        simp -implicitDefEqProofs only [push_cast, Tm.kc_weak, Tm.kc_cells, Tm.kc_one, Tm.kc_back1, Tm.kc_tok1, Tm.uc_weak, Tm.uc_cells, Tm.uc_one, Tm.uc_back1, Tm.uc_tok1, Cm.mc_weak, Cm.mc_cells, Cm.mc_one, Cm.mc_back1, Cm.mc_tok1, Cm.sc_weak, Cm.sc_cells, Cm.sc_one, Cm.sc_back1, Cm.sc_tok1, seval]
        refine callE_p hmy ?_
        simp -implicitDefEqProofs only [push_cast, Tm.kc_weak, Tm.kc_cells, Tm.kc_one, Tm.kc_back1, Tm.kc_tok1, Tm.uc_weak, Tm.uc_cells, Tm.uc_one, Tm.uc_back1, Tm.uc_tok1, Cm.mc_weak, Cm.mc_cells, Cm.mc_one, Cm.mc_back1, Cm.mc_tok1, Cm.sc_weak, Cm.sc_cells, Cm.sc_one, Cm.sc_back1, Cm.sc_tok1, seval]
        refine callE_p ha ?_
        simp -implicitDefEqProofs only [push_cast, Tm.kc_weak, Tm.kc_cells, Tm.kc_one, Tm.kc_back1, Tm.kc_tok1, Tm.uc_weak, Tm.uc_cells, Tm.uc_one, Tm.uc_back1, Tm.uc_tok1, Cm.mc_weak, Cm.mc_cells, Cm.mc_one, Cm.mc_back1, Cm.mc_tok1, Cm.sc_weak, Cm.sc_cells, Cm.sc_one, Cm.sc_back1, Cm.sc_tok1, fa_eq, fa_kt, fa_eg, seval]
        simp [mngd]
  · simp -implicitDefEqProofs only [push_cast, seval]
    have hj := hi
    generalize i = j at *
    have hp : ∀ p, getU t.ups j = some p → 0 ≤ p ∧ p < 4294967296 := fun p hg => by
      have hr := hw.r p (hw.v _ (getU_some hg))
      exact ⟨by omega, hr.2.1⟩
    have hof := of_fs .nilm .nilsl (.inl ⟨rfl, rfl⟩) t c hok false cl j (mayT_nil cl j) hcw hj.1 hj.2 hp
    have hpa := parent_fs t j
    have hcl := clos12_fs cl j hj.1 hj.2
    have hmy := mayT_nil cl j
    simp only [Tm.pv, Cm.pv] at hof hpa
    by_cases hj1 : j = 1
    · have hg := root_none hw
      rw [← hj1] at hg
      have hh : t.has j = true := by rw [Tm.has, hg]; simp [hj1]
      rw [ofS, if_pos hh, upOf, hg] at hof
      simp only [Fa.pv, Option.getD_none, Option.isSome_none, Bool.false_and] at hof
      rw [hg] at hpa
      simp only [Option.getD_none, Option.isSome_none] at hpa
      have hms := mask_fs c hok cl 1 hcw (wf_u (by omega))
      simp only [Cm.pv] at hms
      have e1 : (j == 1) = true := by rw [hj1]; rfl
      have e2 : decide (j = 1) = true := by rw [hj1]; rfl
      rw [e2] at hof
      refine callE_pure hof (by rfl) (by rfl) (by first | rfl | simp -implicitDefEqProofs only [push_cast, Tm.kc_weak, Tm.kc_tok1, Tm.uc_weak, Tm.uc_tok1, Cm.mc_weak, Cm.mc_tok1, Cm.sc_weak, Cm.sc_tok1, seval]) (by decide) (by first | rfl | simp -implicitDefEqProofs only [push_cast, Tm.kc_weak, Tm.kc_tok1, Tm.uc_weak, Tm.uc_tok1, Cm.mc_weak, Cm.mc_tok1, Cm.sc_weak, Cm.sc_tok1, seval]) (fun _ => by first | rfl | simp -implicitDefEqProofs only [push_cast, Tm.kc_weak, Tm.kc_tok1, Tm.uc_weak, Tm.uc_tok1, Cm.mc_weak, Cm.mc_tok1, Cm.sc_weak, Cm.sc_tok1, seval]) (by first | rfl | simp [gdOk, newToks]) ?_
      simp -implicitDefEqProofs only [push_cast, Tm.kc_weak, Tm.kc_cells, Tm.kc_one, Tm.kc_back1, Tm.kc_tok1, Tm.uc_weak, Tm.uc_cells, Tm.uc_one, Tm.uc_back1, Tm.uc_tok1, Cm.mc_weak, Cm.mc_cells, Cm.mc_one, Cm.mc_back1, Cm.mc_tok1, Cm.sc_weak, Cm.sc_cells, Cm.sc_one, Cm.sc_back1, Cm.sc_tok1, seval]
      refine callE_pure hpa (by rfl) (by rfl) (by first | rfl | simp -implicitDefEqProofs only [push_cast, Tm.kc_weak, Tm.kc_tok1, Tm.uc_weak, Tm.uc_tok1, Cm.mc_weak, Cm.mc_tok1, Cm.sc_weak, Cm.sc_tok1, seval]) (by decide) (by first | rfl | simp -implicitDefEqProofs only [push_cast, Tm.kc_weak, Tm.kc_tok1, Tm.uc_weak, Tm.uc_tok1, Cm.mc_weak, Cm.mc_tok1, Cm.sc_weak, Cm.sc_tok1, seval]) (fun _ => by first | rfl | simp -implicitDefEqProofs only [push_cast, Tm.kc_weak, Tm.kc_tok1, Tm.uc_weak, Tm.uc_tok1, Cm.mc_weak, Cm.mc_tok1, Cm.sc_weak, Cm.sc_tok1, seval]) (by first | rfl | simp [gdOk, newToks]) ?_
      simp -implicitDefEqProofs only [push_cast, Tm.kc_weak, Tm.kc_cells, Tm.kc_one, Tm.kc_back1, Tm.kc_tok1, Tm.uc_weak, Tm.uc_cells, Tm.uc_one, Tm.uc_back1, Tm.uc_tok1, Cm.mc_weak, Cm.mc_cells, Cm.mc_one, Cm.mc_back1, Cm.mc_tok1, Cm.sc_weak, Cm.sc_cells, Cm.sc_one, Cm.sc_back1, Cm.sc_tok1, seval]
      refine callE_box hcl [0] [] (by rfl) (by rfl) (by rfl) (by rfl) (by rfl) (by rfl) (fun i j cs h1 h2 => by (rcases i with _ | _ | _ | i <;> simp at h1 h2 <;> (subst h1; subst h2; exact ⟨_, rfl, (by (repeat' (first | exact wkL_nil | refine wkL_cons ?_ ?_)); all_goals (first | exact .inl ⟨_, _, _, _, rfl, rfl, rfl⟩ | exact .inr (.inr (.inr (.inr (.inl ⟨_, _, _, rfl, rfl, rfl⟩)))) | exact .inr (.inr (.inr (.inr (.inr (.inl ⟨_, _, _, _, rfl, rfl, rfl⟩))))) | exact .inr (.inr (.inr (.inr (.inr (.inr ⟨_, _, rfl, rfl, rfl⟩))))) | exact .inr (.inl rfl) | exact .inr (.inr (.inl ⟨_, _, _, rfl, rfl, rfl⟩))))⟩))) (by simp [PS.lv, lkp_hit, lkp_miss, lkp_nil]) (by (repeat' (first | exact wkL_nil | refine wkL_cons ?_ ?_)); all_goals (first | exact .inl ⟨_, _, _, rfl, rfl, rfl⟩ | exact .inr (.inl rfl) | exact .inr (.inr (.inl ⟨_, _, _, _, rfl, rfl, rfl⟩)) | exact .inr (.inr (.inr (.inl ⟨_, _, _, rfl, rfl, rfl, (wkL_get (by (repeat' (first | exact wkL_nil | refine wkL_cons ?_ ?_)); all_goals (first | exact .inl ⟨_, _, _, rfl, rfl, rfl⟩ | exact .inr rfl))).2⟩))) | exact .inr (.inr (.inr (.inr (.inl ⟨_, _, rfl, rfl, rfl⟩)))) | exact .inr (.inr (.inr (.inr (.inr ⟨_, _, rfl, rfl, wkL_get (by (repeat' (first | exact wkL_nil | refine wkL_cons ?_ ?_)); all_goals (first | exact .inr rfl | exact .inl ⟨_, _, rfl, rfl, rfl⟩))⟩)))))) (by decide) (by simp) (by rfl) (by simp [tokLt1]) (fun _ => by rfl) (by first | rfl | simp [gdOk, newToks]) ?_
      simp -implicitDefEqProofs only [push_cast, Tm.kc_weak, Tm.kc_cells, Tm.kc_one, Tm.kc_back1, Tm.kc_tok1, Tm.uc_weak, Tm.uc_cells, Tm.uc_one, Tm.uc_back1, Tm.uc_tok1, Cm.mc_weak, Cm.mc_cells, Cm.mc_one, Cm.mc_back1, Cm.mc_tok1, Cm.sc_weak, Cm.sc_cells, Cm.sc_one, Cm.sc_back1, Cm.sc_tok1, e1, seval]
      refine callE_pure hms (by rfl) (by rfl) (by first | rfl | simp -implicitDefEqProofs only [push_cast, Tm.kc_weak, Tm.kc_tok1, Tm.uc_weak, Tm.uc_tok1, Cm.mc_weak, Cm.mc_tok1, Cm.sc_weak, Cm.sc_tok1, seval]) (by decide) (by first | rfl | simp -implicitDefEqProofs only [push_cast, Tm.kc_weak, Tm.kc_tok1, Tm.uc_weak, Tm.uc_tok1, Cm.mc_weak, Cm.mc_tok1, Cm.sc_weak, Cm.sc_tok1, seval]) (fun _ => by first | rfl | simp -implicitDefEqProofs only [push_cast, Tm.kc_weak, Tm.kc_tok1, Tm.uc_weak, Tm.uc_tok1, Cm.mc_weak, Cm.mc_tok1, Cm.sc_weak, Cm.sc_tok1, seval]) (by first | rfl | simp [gdOk, newToks]) ?_
      simp -implicitDefEqProofs only [push_cast, Tm.kc_weak, Tm.kc_cells, Tm.kc_one, Tm.kc_back1, Tm.kc_tok1, Tm.uc_weak, Tm.uc_cells, Tm.uc_one, Tm.uc_back1, Tm.uc_tok1, Cm.mc_weak, Cm.mc_cells, Cm.mc_one, Cm.mc_back1, Cm.mc_tok1, Cm.sc_weak, Cm.sc_cells, Cm.sc_one, Cm.sc_back1, Cm.sc_tok1, seval]
      refine callE_p hmy ?_
      simp -implicitDefEqProofs only [push_cast, Tm.kc_weak, Tm.kc_cells, Tm.kc_one, Tm.kc_back1, Tm.kc_tok1, Tm.uc_weak, Tm.uc_cells, Tm.uc_one, Tm.uc_back1, Tm.uc_tok1, Cm.mc_weak, Cm.mc_cells, Cm.mc_one, Cm.mc_back1, Cm.mc_tok1, Cm.sc_weak, Cm.sc_cells, Cm.sc_one, Cm.sc_back1, Cm.sc_tok1, seval]
      refine callE_p ha ?_
      simp -implicitDefEqProofs only [push_cast, Tm.kc_weak, Tm.kc_cells, Tm.kc_one, Tm.kc_back1, Tm.kc_tok1, Tm.uc_weak, Tm.uc_cells, Tm.uc_one, Tm.uc_back1, Tm.uc_tok1, Cm.mc_weak, Cm.mc_cells, Cm.mc_one, Cm.mc_back1, Cm.mc_tok1, Cm.sc_weak, Cm.sc_cells, Cm.sc_one, Cm.sc_back1, Cm.sc_tok1, fa_eq, fa_kt, fa_eg, seval]
      simp [mngd]
    · have e1 : (j == 1) = false := by simpa using hj1
      have e2 : decide (j = 1) = false := by simpa using hj1
      cases hg : getU t.ups j with
      | none =>
        have hh : ¬ t.has j = true := by rw [Tm.has, hg]; simp [hj1]
        rw [ofS, if_neg hh, e2] at hof
        simp only [Fa.pv] at hof
        rw [hg] at hpa
        simp only [Option.getD_none, Option.isSome_none] at hpa
        refine callE_pure hof (by rfl) (by rfl) (by first | rfl | simp -implicitDefEqProofs only [push_cast, Tm.kc_weak, Tm.kc_tok1, Tm.uc_weak, Tm.uc_tok1, Cm.mc_weak, Cm.mc_tok1, Cm.sc_weak, Cm.sc_tok1, seval]) (by decide) (by first | rfl | simp -implicitDefEqProofs only [push_cast, Tm.kc_weak, Tm.kc_tok1, Tm.uc_weak, Tm.uc_tok1, Cm.mc_weak, Cm.mc_tok1, Cm.sc_weak, Cm.sc_tok1, seval]) (fun _ => by first | rfl | simp -implicitDefEqProofs only [push_cast, Tm.kc_weak, Tm.kc_tok1, Tm.uc_weak, Tm.uc_tok1, Cm.mc_weak, Cm.mc_tok1, Cm.sc_weak, Cm.sc_tok1, seval]) (by first | rfl | simp [gdOk, newToks]) ?_
        simp -implicitDefEqProofs only [push_cast, Tm.kc_weak, Tm.kc_cells, Tm.kc_one, Tm.kc_back1, Tm.kc_tok1, Tm.uc_weak, Tm.uc_cells, Tm.uc_one, Tm.uc_back1, Tm.uc_tok1, Cm.mc_weak, Cm.mc_cells, Cm.mc_one, Cm.mc_back1, Cm.mc_tok1, Cm.sc_weak, Cm.sc_cells, Cm.sc_one, Cm.sc_back1, Cm.sc_tok1, seval]
        refine callE_pure hpa (by rfl) (by rfl) (by first | rfl | simp -implicitDefEqProofs only [push_cast, Tm.kc_weak, Tm.kc_tok1, Tm.uc_weak, Tm.uc_tok1, Cm.mc_weak, Cm.mc_tok1, Cm.sc_weak, Cm.sc_tok1, seval]) (by decide) (by first | rfl | simp -implicitDefEqProofs only [push_cast, Tm.kc_weak, Tm.kc_tok1, Tm.uc_weak, Tm.uc_tok1, Cm.mc_weak, Cm.mc_tok1, Cm.sc_weak, Cm.sc_tok1, seval]) (fun _ => by first | rfl | simp -implicitDefEqProofs only [push_cast, Tm.kc_weak, Tm.kc_tok1, Tm.uc_weak, Tm.uc_tok1, Cm.mc_weak, Cm.mc_tok1, Cm.sc_weak, Cm.sc_tok1, seval]) (by first | rfl | simp [gdOk, newToks]) ?_
        simp -implicitDefEqProofs only [push_cast, Tm.kc_weak, Tm.kc_cells, Tm.kc_one, Tm.kc_back1, Tm.kc_tok1, Tm.uc_weak, Tm.uc_cells, Tm.uc_one, Tm.uc_back1, Tm.uc_tok1, Cm.mc_weak, Cm.mc_cells, Cm.mc_one, Cm.mc_back1, Cm.mc_tok1, Cm.sc_weak, Cm.sc_cells, Cm.sc_one, Cm.sc_back1, Cm.sc_tok1, seval]
        refine callE_box hcl [0] [] (by rfl) (by rfl) (by rfl) (by rfl) (by rfl) (by rfl) (fun i j cs h1 h2 => by (rcases i with _ | _ | _ | i <;> simp at h1 h2 <;> (subst h1; subst h2; exact ⟨_, rfl, (by (repeat' (first | exact wkL_nil | refine wkL_cons ?_ ?_)); all_goals (first | exact .inl ⟨_, _, _, _, rfl, rfl, rfl⟩ | exact .inr (.inr (.inr (.inr (.inl ⟨_, _, _, rfl, rfl, rfl⟩)))) | exact .inr (.inr (.inr (.inr (.inr (.inl ⟨_, _, _, _, rfl, rfl, rfl⟩))))) | exact .inr (.inr (.inr (.inr (.inr (.inr ⟨_, _, rfl, rfl, rfl⟩))))) | exact .inr (.inl rfl) | exact .inr (.inr (.inl ⟨_, _, _, rfl, rfl, rfl⟩))))⟩))) (by simp [PS.lv, lkp_hit, lkp_miss, lkp_nil]) (by (repeat' (first | exact wkL_nil | refine wkL_cons ?_ ?_)); all_goals (first | exact .inl ⟨_, _, _, rfl, rfl, rfl⟩ | exact .inr (.inl rfl) | exact .inr (.inr (.inl ⟨_, _, _, _, rfl, rfl, rfl⟩)) | exact .inr (.inr (.inr (.inl ⟨_, _, _, rfl, rfl, rfl, (wkL_get (by (repeat' (first | exact wkL_nil | refine wkL_cons ?_ ?_)); all_goals (first | exact .inl ⟨_, _, _, rfl, rfl, rfl⟩ | exact .inr rfl))).2⟩))) | exact .inr (.inr (.inr (.inr (.inl ⟨_, _, rfl, rfl, rfl⟩)))) | exact .inr (.inr (.inr (.inr (.inr ⟨_, _, rfl, rfl, wkL_get (by (repeat' (first | exact wkL_nil | refine wkL_cons ?_ ?_)); all_goals (first | exact .inr rfl | exact .inl ⟨_, _, rfl, rfl, rfl⟩))⟩)))))) (by decide) (by simp) (by rfl) (by simp [tokLt1]) (fun _ => by rfl) (by first | rfl | simp [gdOk, newToks]) ?_
        simp -implicitDefEqProofs only [push_cast, Tm.kc_weak, Tm.kc_cells, Tm.kc_one, Tm.kc_back1, Tm.kc_tok1, Tm.uc_weak, Tm.uc_cells, Tm.uc_one, Tm.uc_back1, Tm.uc_tok1, Cm.mc_weak, Cm.mc_cells, Cm.mc_one, Cm.mc_back1, Cm.mc_tok1, Cm.sc_weak, Cm.sc_cells, Cm.sc_one, Cm.sc_back1, Cm.sc_tok1, e1, seval]
        refine callE_p hmy ?_
        simp -implicitDefEqProofs only [push_cast, Tm.kc_weak, Tm.kc_cells, Tm.kc_one, Tm.kc_back1, Tm.kc_tok1, Tm.uc_weak, Tm.uc_cells, Tm.uc_one, Tm.uc_back1, Tm.uc_tok1, Cm.mc_weak, Cm.mc_cells, Cm.mc_one, Cm.mc_back1, Cm.mc_tok1, Cm.sc_weak, Cm.sc_cells, Cm.sc_one, Cm.sc_back1, Cm.sc_tok1, seval]
        refine callE_p ha ?_
        simp -implicitDefEqProofs only [push_cast, Tm.kc_weak, Tm.kc_cells, Tm.kc_one, Tm.kc_back1, Tm.kc_tok1, Tm.uc_weak, Tm.uc_cells, Tm.uc_one, Tm.uc_back1, Tm.uc_tok1, Cm.mc_weak, Cm.mc_cells, Cm.mc_one, Cm.mc_back1, Cm.mc_tok1, Cm.sc_weak, Cm.sc_cells, Cm.sc_one, Cm.sc_back1, Cm.sc_tok1, fa_eq, fa_kt, fa_eg, seval]
      | some p =>
        have hh : t.has j = true := by rw [Tm.has, hg]; rfl
        have hpr := hp p hg
        rw [ofS, if_pos hh, upOf, hg, e2] at hof
        simp only [Fa.pv, Option.getD_some, Option.isSome_some, Bool.true_and] at hof
        rw [hg] at hpa
        simp only [Option.getD_some, Option.isSome_some] at hpa
        have hms := mask_fs c hok cl p hcw (wf_u hpr)
        simp only [Cm.pv] at hms
        have hcp := clos12_fs cl p hpr.1 hpr.2
        refine callE_pure hof (by rfl) (by rfl) (by first | rfl | simp -implicitDefEqProofs only [push_cast, Tm.kc_weak, Tm.kc_tok1, Tm.uc_weak, Tm.uc_tok1, Cm.mc_weak, Cm.mc_tok1, Cm.sc_weak, Cm.sc_tok1, seval]) (by decide) (by first | rfl | simp -implicitDefEqProofs only [push_cast, Tm.kc_weak, Tm.kc_tok1, Tm.uc_weak, Tm.uc_tok1, Cm.mc_weak, Cm.mc_tok1, Cm.sc_weak, Cm.sc_tok1, seval]) (fun _ => by first | rfl | simp -implicitDefEqProofs only [push_cast, Tm.kc_weak, Tm.kc_tok1, Tm.uc_weak, Tm.uc_tok1, Cm.mc_weak, Cm.mc_tok1, Cm.sc_weak, Cm.sc_tok1, seval]) (by first | rfl | simp [gdOk, newToks]) ?_
        simp -implicitDefEqProofs only [push_cast, Tm.kc_weak, Tm.kc_cells, Tm.kc_one, Tm.kc_back1, Tm.kc_tok1, Tm.uc_weak, Tm.uc_cells, Tm.uc_one, Tm.uc_back1, Tm.uc_tok1, Cm.mc_weak, Cm.mc_cells, Cm.mc_one, Cm.mc_back1, Cm.mc_tok1, Cm.sc_weak, Cm.sc_cells, Cm.sc_one, Cm.sc_back1, Cm.sc_tok1, seval]
        refine callE_pure hpa (by rfl) (by rfl) (by first | rfl | simp -implicitDefEqProofs only [push_cast, Tm.kc_weak, Tm.kc_tok1, Tm.uc_weak, Tm.uc_tok1, Cm.mc_weak, Cm.mc_tok1, Cm.sc_weak, Cm.sc_tok1, seval]) (by decide) (by first | rfl | simp -implicitDefEqProofs only [push_cast, Tm.kc_weak, Tm.kc_tok1, Tm.uc_weak, Tm.uc_tok1, Cm.mc_weak, Cm.mc_tok1, Cm.sc_weak, Cm.sc_tok1, seval]) (fun _ => by first | rfl | simp -implicitDefEqProofs only [push_cast, Tm.kc_weak, Tm.kc_tok1, Tm.uc_weak, Tm.uc_tok1, Cm.mc_weak, Cm.mc_tok1, Cm.sc_weak, Cm.sc_tok1, seval]) (by first | rfl | simp [gdOk, newToks]) ?_
        simp -implicitDefEqProofs only [push_cast, Tm.kc_weak, Tm.kc_cells, Tm.kc_one, Tm.kc_back1, Tm.kc_tok1, Tm.uc_weak, Tm.uc_cells, Tm.uc_one, Tm.uc_back1, Tm.uc_tok1, Cm.mc_weak, Cm.mc_cells, Cm.mc_one, Cm.mc_back1, Cm.mc_tok1, Cm.sc_weak, Cm.sc_cells, Cm.sc_one, Cm.sc_back1, Cm.sc_tok1, seval]
        refine callE_box hcl [0] [] (by rfl) (by rfl) (by rfl) (by rfl) (by rfl) (by rfl) (fun i j cs h1 h2 => by (rcases i with _ | _ | _ | i <;> simp at h1 h2 <;> (subst h1; subst h2; exact ⟨_, rfl, (by (repeat' (first | exact wkL_nil | refine wkL_cons ?_ ?_)); all_goals (first | exact .inl ⟨_, _, _, _, rfl, rfl, rfl⟩ | exact .inr (.inr (.inr (.inr (.inl ⟨_, _, _, rfl, rfl, rfl⟩)))) | exact .inr (.inr (.inr (.inr (.inr (.inl ⟨_, _, _, _, rfl, rfl, rfl⟩))))) | exact .inr (.inr (.inr (.inr (.inr (.inr ⟨_, _, rfl, rfl, rfl⟩))))) | exact .inr (.inl rfl) | exact .inr (.inr (.inl ⟨_, _, _, rfl, rfl, rfl⟩))))⟩))) (by simp [PS.lv, lkp_hit, lkp_miss, lkp_nil]) (by (repeat' (first | exact wkL_nil | refine wkL_cons ?_ ?_)); all_goals (first | exact .inl ⟨_, _, _, rfl, rfl, rfl⟩ | exact .inr (.inl rfl) | exact .inr (.inr (.inl ⟨_, _, _, _, rfl, rfl, rfl⟩)) | exact .inr (.inr (.inr (.inl ⟨_, _, _, rfl, rfl, rfl, (wkL_get (by (repeat' (first | exact wkL_nil | refine wkL_cons ?_ ?_)); all_goals (first | exact .inl ⟨_, _, _, rfl, rfl, rfl⟩ | exact .inr rfl))).2⟩))) | exact .inr (.inr (.inr (.inr (.inl ⟨_, _, rfl, rfl, rfl⟩)))) | exact .inr (.inr (.inr (.inr (.inr ⟨_, _, rfl, rfl, wkL_get (by (repeat' (first | exact wkL_nil | refine wkL_cons ?_ ?_)); all_goals (first | exact .inr rfl | exact .inl ⟨_, _, rfl, rfl, rfl⟩))⟩)))))) (by decide) (by simp) (by rfl) (by simp [tokLt1]) (fun _ => by rfl) (by first | rfl | simp [gdOk, newToks]) ?_
        simp -implicitDefEqProofs only [push_cast, Tm.kc_weak, Tm.kc_cells, Tm.kc_one, Tm.kc_back1, Tm.kc_tok1, Tm.uc_weak, Tm.uc_cells, Tm.uc_one, Tm.uc_back1, Tm.uc_tok1, Cm.mc_weak, Cm.mc_cells, Cm.mc_one, Cm.mc_back1, Cm.mc_tok1, Cm.sc_weak, Cm.sc_cells, Cm.sc_one, Cm.sc_back1, Cm.sc_tok1, e1, seval]
        refine callE_pure hms (by rfl) (by rfl) (by first | rfl | simp -implicitDefEqProofs only [push_cast, Tm.kc_weak, Tm.kc_tok1, Tm.uc_weak, Tm.uc_tok1, Cm.mc_weak, Cm.mc_tok1, Cm.sc_weak, Cm.sc_tok1, seval]) (by decide) (by first | rfl | simp -implicitDefEqProofs only [push_cast, Tm.kc_weak, Tm.kc_tok1, Tm.uc_weak, Tm.uc_tok1, Cm.mc_weak, Cm.mc_tok1, Cm.sc_weak, Cm.sc_tok1, seval]) (fun _ => by first | rfl | simp -implicitDefEqProofs only [push_cast, Tm.kc_weak, Tm.kc_tok1, Tm.uc_weak, Tm.uc_tok1, Cm.mc_weak, Cm.mc_tok1, Cm.sc_weak, Cm.sc_tok1, seval]) (by first | rfl | simp [gdOk, newToks]) ?_
        simp -implicitDefEqProofs only [push_cast, Tm.kc_weak, Tm.kc_cells, Tm.kc_one, Tm.kc_back1, Tm.kc_tok1, Tm.uc_weak, Tm.uc_cells, Tm.uc_one, Tm.uc_back1, Tm.uc_tok1, Cm.mc_weak, Cm.mc_cells, Cm.mc_one, Cm.mc_back1, Cm.mc_tok1, Cm.sc_weak, Cm.sc_cells, Cm.sc_one, Cm.sc_back1, Cm.sc_tok1, seval]
        refine callE_box hcp [0] [] (by rfl) (by rfl) (by rfl) (by rfl) (by rfl) (by rfl) (fun i j cs h1 h2 => by (rcases i with _ | _ | _ | i <;> simp at h1 h2 <;> (subst h1; subst h2; exact ⟨_, rfl, (by (repeat' (first | exact wkL_nil | refine wkL_cons ?_ ?_)); all_goals (first | exact .inl ⟨_, _, _, _, rfl, rfl, rfl⟩ | exact .inr (.inr (.inr (.inr (.inl ⟨_, _, _, rfl, rfl, rfl⟩)))) | exact .inr (.inr (.inr (.inr (.inr (.inl ⟨_, _, _, _, rfl, rfl, rfl⟩))))) | exact .inr (.inr (.inr (.inr (.inr (.inr ⟨_, _, rfl, rfl, rfl⟩))))) | exact .inr (.inl rfl) | exact .inr (.inr (.inl ⟨_, _, _, rfl, rfl, rfl⟩))))⟩))) (by simp [PS.lv, lkp_hit, lkp_miss, lkp_nil]) (by (repeat' (first | exact wkL_nil | refine wkL_cons ?_ ?_)); all_goals (first | exact .inl ⟨_, _, _, rfl, rfl, rfl⟩ | exact .inr (.inl rfl) | exact .inr (.inr (.inl ⟨_, _, _, _, rfl, rfl, rfl⟩)) | exact .inr (.inr (.inr (.inl ⟨_, _, _, rfl, rfl, rfl, (wkL_get (by (repeat' (first | exact wkL_nil | refine wkL_cons ?_ ?_)); all_goals (first | exact .inl ⟨_, _, _, rfl, rfl, rfl⟩ | exact .inr rfl))).2⟩))) | exact .inr (.inr (.inr (.inr (.inl ⟨_, _, rfl, rfl, rfl⟩)))) | exact .inr (.inr (.inr (.inr (.inr ⟨_, _, rfl, rfl, wkL_get (by (repeat' (first | exact wkL_nil | refine wkL_cons ?_ ?_)); all_goals (first | exact .inr rfl | exact .inl ⟨_, _, rfl, rfl, rfl⟩))⟩)))))) (by decide) (by simp) (by rfl) (by simp [tokLt1]) (fun _ => by rfl) (by first | rfl | simp [gdOk, newToks]) ?_
        simp -implicitDefEqProofs only [push_cast, Tm.kc_weak, Tm.kc_cells, Tm.kc_one, Tm.kc_back1, Tm.kc_tok1, Tm.uc_weak, Tm.uc_cells, Tm.uc_one, Tm.uc_back1, Tm.uc_tok1, Cm.mc_weak, Cm.mc_cells, Cm.mc_one, Cm.mc_back1, Cm.mc_tok1, Cm.sc_weak, Cm.sc_cells, Cm.sc_one, Cm.sc_back1, Cm.sc_tok1, seval]
        refine callE_p hmy ?_
        simp -implicitDefEqProofs only [push_cast, Tm.kc_weak, Tm.kc_cells, Tm.kc_one, Tm.kc_back1, Tm.kc_tok1, Tm.uc_weak, Tm.uc_cells, Tm.uc_one, Tm.uc_back1, Tm.uc_tok1, Cm.mc_weak, Cm.mc_cells, Cm.mc_one, Cm.mc_back1, Cm.mc_tok1, Cm.sc_weak, Cm.sc_cells, Cm.sc_one, Cm.sc_back1, Cm.sc_tok1, seval]
        refine callE_p ha ?_
        simp -implicitDefEqProofs only [push_cast, Tm.kc_weak, Tm.kc_cells, Tm.kc_one, Tm.kc_back1, Tm.kc_tok1, Tm.uc_weak, Tm.uc_cells, Tm.uc_one, Tm.uc_back1, Tm.uc_tok1, Cm.mc_weak, Cm.mc_cells, Cm.mc_one, Cm.mc_back1, Cm.mc_tok1, Cm.sc_weak, Cm.sc_cells, Cm.sc_one, Cm.sc_back1, Cm.sc_tok1, fa_eq, fa_kt, fa_eg, seval]
        simp [mngd]
theorem facts_fs (l : List Wd) (s : List Sl) (hl : l.length ≤ 1000000000000000) (hs : s.length ≤ 1000000000000000) (cl : Int) (at' : UInt8) (i : Int) (hi : 0 ≤ i ∧ i < 4294967296) :
    Fsp Tryd.prog 3 [] 0 [.sl 2 (wdL l), .sl 3 (slL s), .int .i64 cl, .int .u8 at'.toNat, .int .u32 i] [] 0 (.bool true) := by
  by_cases h : l.length ≤ 12 ∧ s.length ≤ 12
  · by_cases hc : -1099511627776 ≤ cl ∧ cl ≤ 1099511627776
    · exact factsOk_fs l s cl at' i h hc hi
    · exact factsFar_fs l s (by omega) (by omega) cl at' i h (by omega)
  · exact factsNo_fs l s (by omega) (by omega) cl at' i h
end Go.Proofs.Sh

/- The law Alone. -/
set_option maxRecDepth 100000
set_option linter.unusedSimpArgs false
set_option linter.unusedVariables false
namespace Go.Proofs.Sh
open Go.Pv
/-- How many of the first clients it is that an id belongs to. -/
def nK (c : Int) (k : Nat) : Int := if 1 ≤ c ∧ c < k then 1 else 0
theorem mine_at {j c : Int} (k : Nat) (h : (clS j).2 = true) (hc : (clS j).1 = c) : mineB k j = (c != 0 && c == (k : Int)) := by
  unfold mineB
  rw [h, hc]
  rfl
theorem nK_own {c : Int} {k : Nat} (h0 : 0 ≤ c) (h : (c != 0 && c == (k : Int)) = true) : nK c (k + 1) = nK c k + 1 := by
  simp at h
  unfold nK
  rw [if_pos (by omega), if_neg (by omega)]; rfl
theorem nK_not {c : Int} {k : Nat} (h0 : 0 ≤ c) (h : (c != 0 && c == (k : Int)) = false) : nK c (k + 1) = nK c k := by
  unfold nK
  by_cases h1 : 1 ≤ c ∧ c < k
  · rw [if_pos h1, if_pos (by omega)]
  · rw [if_neg h1, if_neg]
    rintro ⟨h2, h3⟩
    have : c = k := by omega
    subst this
    simp at h
    omega
theorem nK_le (c : Int) (k : Nat) : 0 ≤ nK c k ∧ nK c k ≤ 1 := by unfold nK; split <;> omega
theorem nK_0 (c : Int) : nK c 0 = 0 := by
  unfold nK
  rw [if_neg]
  rintro ⟨h1, h2⟩
  have h3 : c < 0 := h2
  omega
structure Al where
  k : Nat
  h : k ≤ 10
def Al.st (t : Tm) (c : Cm) (j n0 : Int) (fr : Nat → Int) (a : Al) : PS := { n := 95, env := [(37, .int .i64 a.k), (13, .int .i64 (fr a.k)), (12, .int .i64 (nK n0 a.k)), (11, .int .u32 j), (9, .box 9 0), (7, .box 7 0), (6, .bool false)], objs := [(7, some [t.kc, t.uc]), (9, some [c.mc, c.sc])], live := [], nxt := 60 }
set_option maxHeartbeats 4000000 in
theorem aloneNo_fs (l : List Wd) (s : List Sl) (hl : l.length < 1000000000000001) (hs : s.length < 1000000000000001) (at' : UInt8) (h : ¬ (l.length ≤ 12 ∧ s.length ≤ 12)) :
    Fsp Tryd.prog 4 [] 0 [.sl 2 (wdL l), .sl 3 (slL s), .int .u8 at'.toNat] [] 0 (.bool true) := by
  have hm := made_fs l s hl hs
  have ha := awake_fs
  rw [madeR, if_neg h] at hm
  (refine Fsp.ofs (nx := 0) mixed Tryd.func4 rfl (by simp [Tryd.f4]) ?_; simp -implicitDefEqProofs only [push_cast, Tryd.f4, seval])
  refine callE_p hm ?_
  simp -implicitDefEqProofs only [push_cast, seval]
  refine callE_p ha ?_
  simp -implicitDefEqProofs only [push_cast, seval]
  all_goals (first | done | rfl | exact ⟨_, rfl, by simp [wkL, res2, res1, PV.weak, PV.el]⟩ | (simp [wkL, res2, res1, PV.weak, PV.el]; done))
set_option maxHeartbeats 8000000 in
theorem aloneOk_fs (l : List Wd) (s : List Sl) (at' : UInt8) (h : l.length ≤ 12 ∧ s.length ≤ 12) :
    Fsp Tryd.prog 4 [] 0 [.sl 2 (wdL l), .sl 3 (slL s), .int .u8 at'.toNat] [] 0 (.bool true) := by
  have hm := made_fs l s (by omega) (by omega)
  have ha := awake_fs
  rw [madeR, if_pos h] at hm
  have hw := wok l.length l rfl (by omega)
  have hok : CmOk (madeC (madeW l).2 s) := (madeC_ok (t := (madeW l).1) (ids := (madeW l).2) hw s (by omega)).1
  generalize hmw : madeW l = a at *
  obtain ⟨t, ids⟩ := a
  generalize madeC ids s = c at *
  have hil : ids.length = l.length + 1 := hw.l
  have hil0 : 0 < ids.length := by omega
  have hil1 : ids.length ≤ 13 := by omega
  simp only [Tm.pv, Cm.pv] at hm
  obtain ⟨u1, u2, u3, hgu, s0, s1⟩ := up_facts at'.toNat at'.toNat_lt ids hil0
  have hmem := sel_mem at'.toNat hil0
  have hj := hw.r _ hmem
  have hh := hw.h _ hmem
  (refine Fsp.ofs (nx := 0) mixed Tryd.func4 rfl (by simp [Tryd.f4]) ?_; simp -implicitDefEqProofs only [push_cast, Tryd.f4, seval])
  refine callE_pure hm (by rfl) (by rfl) (by first | rfl | simp -implicitDefEqProofs only [push_cast, Tm.kc_weak, Tm.kc_tok1, Tm.uc_weak, Tm.uc_tok1, Cm.mc_weak, Cm.mc_tok1, Cm.sc_weak, Cm.sc_tok1, seval]) (by decide) (by first | rfl | simp -implicitDefEqProofs only [push_cast, Tm.kc_weak, Tm.kc_tok1, Tm.uc_weak, Tm.uc_tok1, Cm.mc_weak, Cm.mc_tok1, Cm.sc_weak, Cm.sc_tok1, seval]) (fun _ => by first | rfl | simp -implicitDefEqProofs only [push_cast, Tm.kc_weak, Tm.kc_tok1, Tm.uc_weak, Tm.uc_tok1, Cm.mc_weak, Cm.mc_tok1, Cm.sc_weak, Cm.sc_tok1, seval]) (by first | rfl | simp [gdOk, newToks]) ?_
  simp -implicitDefEqProofs only [push_cast, Tm.kc_weak, Tm.kc_cells, Tm.kc_one, Tm.kc_back1, Tm.kc_tok1, Tm.uc_weak, Tm.uc_cells, Tm.uc_one, Tm.uc_back1, Tm.uc_tok1, Cm.mc_weak, Cm.mc_cells, Cm.mc_one, Cm.mc_back1, Cm.mc_tok1, Cm.sc_weak, Cm.sc_cells, Cm.sc_one, Cm.sc_back1, Cm.sc_tok1, u1, u2, us_length, hgu, seval]
  refine ⟨(by intro e; rw [Int.natCast_eq_zero] at e; rw [e] at hil0; exact absurd hil0 (by decide)), s0, s1, ?_⟩
  generalize ids.getD (at'.toNat % ids.length) 0 = j at *
  have hjr : 0 ≤ j ∧ j < 4294967296 := ⟨by omega, hj.2.1⟩
  have hp : ∀ p, getU t.ups j = some p → 0 ≤ p ∧ p < 4294967296 ∧ (clS p).2 = true ∧ 0 ≤ (clS p).1 := fun p hg => by
    have hr := hw.r p (hw.v _ (getU_some hg))
    refine ⟨by omega, hr.2.1, hr.2.2.1, ?_⟩
    by_cases e : p = 1
    · subst e; decide
    · have := (hr.2.2.2 e).1; omega
  have hj0 : 0 ≤ (clS j).1 := by
    by_cases e : j = 1
    · subst e; decide
    · have := (hj.2.2.2 e).1; omega
  have hn0 : nK (clS j).1 10 = if j = 1 then 0 else 1 := by
    unfold nK
    by_cases e : j = 1
    · subst e; rw [if_neg (by decide), if_pos rfl]
    · have := hj.2.2.2 e
      rw [if_pos (by omega), if_neg e]
  have hjt := hj.2.2.1
  generalize hq0 : (clS j).1 = n0 at *
  have hpa := parent_fs t j
  simp only [Tm.pv] at hpa
  cases hg : getU t.ups j with
  | none =>
    rw [hg] at hpa
    simp only [Option.getD_none, Option.isSome_none] at hpa
    refine loopC_of (α := Al) (Al.st t c j n0 (fun _ => 0)) (fun a => 10 - a.k) ⟨0, by decide⟩ ?_ ?_
    · (simp only [Al.st, nK_0]; exact Wk.at _ _ _ [(7, 36), (9, 40)] [] [] (by simp) (by simp [wkV, PV.el, PV.weak, PS.get, PS.obj, PS.lv, lkp_hit, lkp_miss, lkp_nil, lko, wkL, res1, Tm.kc_wkC, Tm.kc_weak, Tm.uc_wkC, Tm.uc_weak, Cm.mc_wkC, Cm.mc_weak, Cm.sc_wkC, Cm.sc_weak]) (by simp [PS.get, PS.obj, PS.lv, lkp_hit, lkp_miss, lkp_nil, lko, wkL, wkC_int, wkC_bool, wkC_sl, wkC_any, wkC_nilm, PV.weak, wkL, res1, Tm.kc_wkC, Tm.kc_weak, Tm.uc_wkC, Tm.uc_weak, Cm.mc_wkC, Cm.mc_weak, Cm.sc_wkC, Cm.sc_weak]))
    · rintro ⟨k, hk⟩
      have hof := of_fs .nilm .nilsl (.inl ⟨rfl, rfl⟩) t c hok false k j (mayT_nil k j) (wf_i (by omega)) hjr.1 hjr.2 (fun p hg' => by rw [hg] at hg'; cases hg')
      rw [ofS, if_pos hh, upOf, hg, mine_at k hjt hq0, show decide (j = 1) = (j == 1) from rfl] at hof
      simp only [Fa.pv, Option.getD_none, Option.isSome_none, Bool.false_and, Tm.pv, Cm.pv] at hof
      simp only [Al.st]
      simp -implicitDefEqProofs only [push_cast, seval]
      refine condC_split (fun g1 => ?_) (fun g1 => ?_)
      · have hlt : k < 10 := by simp at g1; omega
        have hwi : IntKind.i64.wrap ((k : Int) + 1) = ((k + 1 : Nat) : Int) := by (rw [wrap_i64_id (by omega) (by omega)]; rfl)
        have hle := nK_le n0 k
        have hwn : IntKind.i64.wrap (nK n0 k + 1) = nK n0 k + 1 := wrap_i64_id (by omega) (by omega)
        cases hb : (n0 != 0 && n0 == (k : Int))
        · rw [hb] at hof
          have hs := nK_not hj0 hb
          simp -implicitDefEqProofs only [push_cast, Tm.kc_weak, Tm.kc_cells, Tm.kc_one, Tm.kc_back1, Tm.kc_tok1, Tm.uc_weak, Tm.uc_cells, Tm.uc_one, Tm.uc_back1, Tm.uc_tok1, Cm.mc_weak, Cm.mc_cells, Cm.mc_one, Cm.mc_back1, Cm.mc_tok1, Cm.sc_weak, Cm.sc_cells, Cm.sc_one, Cm.sc_back1, Cm.sc_tok1, seval]
          refine callE_pure hof (by rfl) (by rfl) (by first | rfl | simp -implicitDefEqProofs only [push_cast, Tm.kc_weak, Tm.kc_tok1, Tm.uc_weak, Tm.uc_tok1, Cm.mc_weak, Cm.mc_tok1, Cm.sc_weak, Cm.sc_tok1, seval]) (by decide) (by first | rfl | simp -implicitDefEqProofs only [push_cast, Tm.kc_weak, Tm.kc_tok1, Tm.uc_weak, Tm.uc_tok1, Cm.mc_weak, Cm.mc_tok1, Cm.sc_weak, Cm.sc_tok1, seval]) (fun _ => by first | rfl | simp -implicitDefEqProofs only [push_cast, Tm.kc_weak, Tm.kc_tok1, Tm.uc_weak, Tm.uc_tok1, Cm.mc_weak, Cm.mc_tok1, Cm.sc_weak, Cm.sc_tok1, seval]) (by first | rfl | simp [gdOk, newToks]) ?_
          simp -implicitDefEqProofs only [push_cast, Tm.kc_weak, Tm.kc_cells, Tm.kc_one, Tm.kc_back1, Tm.kc_tok1, Tm.uc_weak, Tm.uc_cells, Tm.uc_one, Tm.uc_back1, Tm.uc_tok1, Cm.mc_weak, Cm.mc_cells, Cm.mc_one, Cm.mc_back1, Cm.mc_tok1, Cm.sc_weak, Cm.sc_cells, Cm.sc_one, Cm.sc_back1, Cm.sc_tok1, hwi, bne_self_eq_false, seval]
          refine ⟨⟨k + 1, hlt⟩, Nat.sub_lt_sub_left hlt (Nat.lt_succ_self k), ?_⟩
          (simp only [Al.st, hs]; exact Wk.at _ _ _ [(7, 7), (9, 9)] [] [] (by simp) (by simp [wkV, PV.el, PV.weak, PS.get, PS.obj, PS.lv, lkp_hit, lkp_miss, lkp_nil, lko, wkL, res1, Tm.kc_wkC, Tm.kc_weak, Tm.uc_wkC, Tm.uc_weak, Cm.mc_wkC, Cm.mc_weak, Cm.sc_wkC, Cm.sc_weak]) (by simp [PS.get, PS.obj, PS.lv, lkp_hit, lkp_miss, lkp_nil, lko, wkL, wkC_int, wkC_bool, wkC_sl, wkC_any, wkC_nilm, PV.weak, wkL, res1, Tm.kc_wkC, Tm.kc_weak, Tm.uc_wkC, Tm.uc_weak, Cm.mc_wkC, Cm.mc_weak, Cm.sc_wkC, Cm.sc_weak]))
        · rw [hb] at hof
          have hs := nK_own hj0 hb
          simp -implicitDefEqProofs only [push_cast, Tm.kc_weak, Tm.kc_cells, Tm.kc_one, Tm.kc_back1, Tm.kc_tok1, Tm.uc_weak, Tm.uc_cells, Tm.uc_one, Tm.uc_back1, Tm.uc_tok1, Cm.mc_weak, Cm.mc_cells, Cm.mc_one, Cm.mc_back1, Cm.mc_tok1, Cm.sc_weak, Cm.sc_cells, Cm.sc_one, Cm.sc_back1, Cm.sc_tok1, seval]
          refine callE_pure hof (by rfl) (by rfl) (by first | rfl | simp -implicitDefEqProofs only [push_cast, Tm.kc_weak, Tm.kc_tok1, Tm.uc_weak, Tm.uc_tok1, Cm.mc_weak, Cm.mc_tok1, Cm.sc_weak, Cm.sc_tok1, seval]) (by decide) (by first | rfl | simp -implicitDefEqProofs only [push_cast, Tm.kc_weak, Tm.kc_tok1, Tm.uc_weak, Tm.uc_tok1, Cm.mc_weak, Cm.mc_tok1, Cm.sc_weak, Cm.sc_tok1, seval]) (fun _ => by first | rfl | simp -implicitDefEqProofs only [push_cast, Tm.kc_weak, Tm.kc_tok1, Tm.uc_weak, Tm.uc_tok1, Cm.mc_weak, Cm.mc_tok1, Cm.sc_weak, Cm.sc_tok1, seval]) (by first | rfl | simp [gdOk, newToks]) ?_
          simp -implicitDefEqProofs only [push_cast, Tm.kc_weak, Tm.kc_cells, Tm.kc_one, Tm.kc_back1, Tm.kc_tok1, Tm.uc_weak, Tm.uc_cells, Tm.uc_one, Tm.uc_back1, Tm.uc_tok1, Cm.mc_weak, Cm.mc_cells, Cm.mc_one, Cm.mc_back1, Cm.mc_tok1, Cm.sc_weak, Cm.sc_cells, Cm.sc_one, Cm.sc_back1, Cm.sc_tok1, hwi, hwn, bne_self_eq_false, seval]
          refine ⟨⟨k + 1, hlt⟩, Nat.sub_lt_sub_left hlt (Nat.lt_succ_self k), ?_⟩
          (simp only [Al.st, hs]; exact Wk.at _ _ _ [(7, 7), (9, 9)] [] [] (by simp) (by simp [wkV, PV.el, PV.weak, PS.get, PS.obj, PS.lv, lkp_hit, lkp_miss, lkp_nil, lko, wkL, res1, Tm.kc_wkC, Tm.kc_weak, Tm.uc_wkC, Tm.uc_weak, Cm.mc_wkC, Cm.mc_weak, Cm.sc_wkC, Cm.sc_weak]) (by simp [PS.get, PS.obj, PS.lv, lkp_hit, lkp_miss, lkp_nil, lko, wkL, wkC_int, wkC_bool, wkC_sl, wkC_any, wkC_nilm, PV.weak, wkL, res1, Tm.kc_wkC, Tm.kc_weak, Tm.uc_wkC, Tm.uc_weak, Cm.mc_wkC, Cm.mc_weak, Cm.sc_wkC, Cm.sc_weak]))
      · have hke : k = 10 := by simp at g1; omega
        subst hke
        simp -implicitDefEqProofs only [push_cast, seval]
        refine callE_p ha ?_
        simp -implicitDefEqProofs only [push_cast, seval]
        rw [hn0]
        by_cases e : j = 1 <;> simp [e]
  | some p =>
    have hpr := hp p hg
    have hpt := hpr.2.2.1
    have hp0 := hpr.2.2.2
    generalize hqp : (clS p).1 = m0 at *
    rw [hg] at hpa
    simp only [Option.getD_some, Option.isSome_some] at hpa
    have hm0 := nK_le m0 10
    refine loopC_of (α := Al) (Al.st t c j n0 (nK m0)) (fun a => 10 - a.k) ⟨0, by decide⟩ ?_ ?_
    · (simp only [Al.st, nK_0]; exact Wk.at _ _ _ [(7, 36), (9, 40)] [] [] (by simp) (by simp [wkV, PV.el, PV.weak, PS.get, PS.obj, PS.lv, lkp_hit, lkp_miss, lkp_nil, lko, wkL, res1, Tm.kc_wkC, Tm.kc_weak, Tm.uc_wkC, Tm.uc_weak, Cm.mc_wkC, Cm.mc_weak, Cm.sc_wkC, Cm.sc_weak]) (by simp [PS.get, PS.obj, PS.lv, lkp_hit, lkp_miss, lkp_nil, lko, wkL, wkC_int, wkC_bool, wkC_sl, wkC_any, wkC_nilm, PV.weak, wkL, res1, Tm.kc_wkC, Tm.kc_weak, Tm.uc_wkC, Tm.uc_weak, Cm.mc_wkC, Cm.mc_weak, Cm.sc_wkC, Cm.sc_weak]))
    · rintro ⟨k, hk⟩
      have hof := of_fs .nilm .nilsl (.inl ⟨rfl, rfl⟩) t c hok false k j (mayT_nil k j) (wf_i (by omega)) hjr.1 hjr.2 (fun p' hg' => ⟨(hp p' hg').1, (hp p' hg').2.1⟩)
      rw [ofS, if_pos hh, upOf, hg, Option.getD_some, mine_at k hjt hq0, mine_at k hpt hqp, show decide (j = 1) = (j == 1) from rfl] at hof
      simp only [Fa.pv, Option.isSome_some, Bool.true_and, Tm.pv, Cm.pv] at hof
      have hop := of_fs .nilm .nilsl (.inl ⟨rfl, rfl⟩) t c hok false k p (mayT_nil k p) (wf_i (by omega)) hpr.1 hpr.2.1 (fun p' hg' => by
        have hr := hw.r p' (hw.v _ (getU_some hg'))
        exact ⟨by omega, hr.2.1⟩)
      have hopo : (ofS t c false k p).o = (m0 != 0 && m0 == (k : Int)) := by
        rw [← mine_at k hpt hqp, ofS]; split <;> rfl
      simp only [Tm.pv, Cm.pv] at hop
      generalize ofS t c false k p = fp at *
      obtain ⟨f1, f2, f3, f4, f5⟩ := fp
      simp only [Fa.pv] at hop hopo
      subst hopo
      simp only [Al.st]
      simp -implicitDefEqProofs only [push_cast, seval]
      refine condC_split (fun g1 => ?_) (fun g1 => ?_)
      · have hlt : k < 10 := by simp at g1; omega
        have hwi : IntKind.i64.wrap ((k : Int) + 1) = ((k + 1 : Nat) : Int) := by (rw [wrap_i64_id (by omega) (by omega)]; rfl)
        have hle := nK_le n0 k
        have hwn : IntKind.i64.wrap (nK n0 k + 1) = nK n0 k + 1 := wrap_i64_id (by omega) (by omega)
        have hlm := nK_le m0 k
        have hwm : IntKind.i64.wrap (nK m0 k + 1) = nK m0 k + 1 := wrap_i64_id (by omega) (by omega)
        cases hb : (n0 != 0 && n0 == (k : Int)) <;> cases hb2 : (m0 != 0 && m0 == (k : Int))
        · rw [hb, hb2] at hof
          rw [hb2] at hop
          have hs := nK_not hj0 hb
          have hs2 := nK_not hp0 hb2
          simp -implicitDefEqProofs only [push_cast, Tm.kc_weak, Tm.kc_cells, Tm.kc_one, Tm.kc_back1, Tm.kc_tok1, Tm.uc_weak, Tm.uc_cells, Tm.uc_one, Tm.uc_back1, Tm.uc_tok1, Cm.mc_weak, Cm.mc_cells, Cm.mc_one, Cm.mc_back1, Cm.mc_tok1, Cm.sc_weak, Cm.sc_cells, Cm.sc_one, Cm.sc_back1, Cm.sc_tok1, seval]
          refine callE_pure hof (by rfl) (by rfl) (by first | rfl | simp -implicitDefEqProofs only [push_cast, Tm.kc_weak, Tm.kc_tok1, Tm.uc_weak, Tm.uc_tok1, Cm.mc_weak, Cm.mc_tok1, Cm.sc_weak, Cm.sc_tok1, seval]) (by decide) (by first | rfl | simp -implicitDefEqProofs only [push_cast, Tm.kc_weak, Tm.kc_tok1, Tm.uc_weak, Tm.uc_tok1, Cm.mc_weak, Cm.mc_tok1, Cm.sc_weak, Cm.sc_tok1, seval]) (fun _ => by first | rfl | simp -implicitDefEqProofs only [push_cast, Tm.kc_weak, Tm.kc_tok1, Tm.uc_weak, Tm.uc_tok1, Cm.mc_weak, Cm.mc_tok1, Cm.sc_weak, Cm.sc_tok1, seval]) (by first | rfl | simp [gdOk, newToks]) ?_
          simp -implicitDefEqProofs only [push_cast, Tm.kc_weak, Tm.kc_cells, Tm.kc_one, Tm.kc_back1, Tm.kc_tok1, Tm.uc_weak, Tm.uc_cells, Tm.uc_one, Tm.uc_back1, Tm.uc_tok1, Cm.mc_weak, Cm.mc_cells, Cm.mc_one, Cm.mc_back1, Cm.mc_tok1, Cm.sc_weak, Cm.sc_cells, Cm.sc_one, Cm.sc_back1, Cm.sc_tok1, hwi, hwn, hwm, bne_self_eq_false, seval]
          refine ⟨⟨k + 1, hlt⟩, Nat.sub_lt_sub_left hlt (Nat.lt_succ_self k), ?_⟩
          (simp only [Al.st, hs, hs2]; exact Wk.at _ _ _ [(7, 7), (9, 9)] [] [] (by simp) (by simp [wkV, PV.el, PV.weak, PS.get, PS.obj, PS.lv, lkp_hit, lkp_miss, lkp_nil, lko, wkL, res1, Tm.kc_wkC, Tm.kc_weak, Tm.uc_wkC, Tm.uc_weak, Cm.mc_wkC, Cm.mc_weak, Cm.sc_wkC, Cm.sc_weak]) (by simp [PS.get, PS.obj, PS.lv, lkp_hit, lkp_miss, lkp_nil, lko, wkL, wkC_int, wkC_bool, wkC_sl, wkC_any, wkC_nilm, PV.weak, wkL, res1, Tm.kc_wkC, Tm.kc_weak, Tm.uc_wkC, Tm.uc_weak, Cm.mc_wkC, Cm.mc_weak, Cm.sc_wkC, Cm.sc_weak]))
        · rw [hb, hb2] at hof
          rw [hb2] at hop
          have hs := nK_not hj0 hb
          have hs2 := nK_own hp0 hb2
          simp -implicitDefEqProofs only [push_cast, Tm.kc_weak, Tm.kc_cells, Tm.kc_one, Tm.kc_back1, Tm.kc_tok1, Tm.uc_weak, Tm.uc_cells, Tm.uc_one, Tm.uc_back1, Tm.uc_tok1, Cm.mc_weak, Cm.mc_cells, Cm.mc_one, Cm.mc_back1, Cm.mc_tok1, Cm.sc_weak, Cm.sc_cells, Cm.sc_one, Cm.sc_back1, Cm.sc_tok1, seval]
          refine callE_pure hof (by rfl) (by rfl) (by first | rfl | simp -implicitDefEqProofs only [push_cast, Tm.kc_weak, Tm.kc_tok1, Tm.uc_weak, Tm.uc_tok1, Cm.mc_weak, Cm.mc_tok1, Cm.sc_weak, Cm.sc_tok1, seval]) (by decide) (by first | rfl | simp -implicitDefEqProofs only [push_cast, Tm.kc_weak, Tm.kc_tok1, Tm.uc_weak, Tm.uc_tok1, Cm.mc_weak, Cm.mc_tok1, Cm.sc_weak, Cm.sc_tok1, seval]) (fun _ => by first | rfl | simp -implicitDefEqProofs only [push_cast, Tm.kc_weak, Tm.kc_tok1, Tm.uc_weak, Tm.uc_tok1, Cm.mc_weak, Cm.mc_tok1, Cm.sc_weak, Cm.sc_tok1, seval]) (by first | rfl | simp [gdOk, newToks]) ?_
          simp -implicitDefEqProofs only [push_cast, Tm.kc_weak, Tm.kc_cells, Tm.kc_one, Tm.kc_back1, Tm.kc_tok1, Tm.uc_weak, Tm.uc_cells, Tm.uc_one, Tm.uc_back1, Tm.uc_tok1, Cm.mc_weak, Cm.mc_cells, Cm.mc_one, Cm.mc_back1, Cm.mc_tok1, Cm.sc_weak, Cm.sc_cells, Cm.sc_one, Cm.sc_back1, Cm.sc_tok1, hwi, hwn, hwm, bne_self_eq_false, seval]
          refine callE_pure hpa (by rfl) (by rfl) (by first | rfl | simp -implicitDefEqProofs only [push_cast, Tm.kc_weak, Tm.kc_tok1, Tm.uc_weak, Tm.uc_tok1, Cm.mc_weak, Cm.mc_tok1, Cm.sc_weak, Cm.sc_tok1, seval]) (by decide) (by first | rfl | simp -implicitDefEqProofs only [push_cast, Tm.kc_weak, Tm.kc_tok1, Tm.uc_weak, Tm.uc_tok1, Cm.mc_weak, Cm.mc_tok1, Cm.sc_weak, Cm.sc_tok1, seval]) (fun _ => by first | rfl | simp -implicitDefEqProofs only [push_cast, Tm.kc_weak, Tm.kc_tok1, Tm.uc_weak, Tm.uc_tok1, Cm.mc_weak, Cm.mc_tok1, Cm.sc_weak, Cm.sc_tok1, seval]) (by first | rfl | simp [gdOk, newToks]) ?_
          simp -implicitDefEqProofs only [push_cast, Tm.kc_weak, Tm.kc_cells, Tm.kc_one, Tm.kc_back1, Tm.kc_tok1, Tm.uc_weak, Tm.uc_cells, Tm.uc_one, Tm.uc_back1, Tm.uc_tok1, Cm.mc_weak, Cm.mc_cells, Cm.mc_one, Cm.mc_back1, Cm.mc_tok1, Cm.sc_weak, Cm.sc_cells, Cm.sc_one, Cm.sc_back1, Cm.sc_tok1, hwi, hwn, hwm, bne_self_eq_false, seval]
          refine callE_pure hop (by rfl) (by rfl) (by first | rfl | simp -implicitDefEqProofs only [push_cast, Tm.kc_weak, Tm.kc_tok1, Tm.uc_weak, Tm.uc_tok1, Cm.mc_weak, Cm.mc_tok1, Cm.sc_weak, Cm.sc_tok1, seval]) (by decide) (by first | rfl | simp -implicitDefEqProofs only [push_cast, Tm.kc_weak, Tm.kc_tok1, Tm.uc_weak, Tm.uc_tok1, Cm.mc_weak, Cm.mc_tok1, Cm.sc_weak, Cm.sc_tok1, seval]) (fun _ => by first | rfl | simp -implicitDefEqProofs only [push_cast, Tm.kc_weak, Tm.kc_tok1, Tm.uc_weak, Tm.uc_tok1, Cm.mc_weak, Cm.mc_tok1, Cm.sc_weak, Cm.sc_tok1, seval]) (by first | rfl | simp [gdOk, newToks]) ?_
          simp -implicitDefEqProofs only [push_cast, Tm.kc_weak, Tm.kc_cells, Tm.kc_one, Tm.kc_back1, Tm.kc_tok1, Tm.uc_weak, Tm.uc_cells, Tm.uc_one, Tm.uc_back1, Tm.uc_tok1, Cm.mc_weak, Cm.mc_cells, Cm.mc_one, Cm.mc_back1, Cm.mc_tok1, Cm.sc_weak, Cm.sc_cells, Cm.sc_one, Cm.sc_back1, Cm.sc_tok1, hwi, hwn, hwm, bne_self_eq_false, seval]
          refine ⟨⟨k + 1, hlt⟩, Nat.sub_lt_sub_left hlt (Nat.lt_succ_self k), ?_⟩
          (simp only [Al.st, hs, hs2]; exact Wk.at _ _ _ [(7, 7), (9, 9)] [] [] (by simp) (by simp [wkV, PV.el, PV.weak, PS.get, PS.obj, PS.lv, lkp_hit, lkp_miss, lkp_nil, lko, wkL, res1, Tm.kc_wkC, Tm.kc_weak, Tm.uc_wkC, Tm.uc_weak, Cm.mc_wkC, Cm.mc_weak, Cm.sc_wkC, Cm.sc_weak]) (by simp [PS.get, PS.obj, PS.lv, lkp_hit, lkp_miss, lkp_nil, lko, wkL, wkC_int, wkC_bool, wkC_sl, wkC_any, wkC_nilm, PV.weak, wkL, res1, Tm.kc_wkC, Tm.kc_weak, Tm.uc_wkC, Tm.uc_weak, Cm.mc_wkC, Cm.mc_weak, Cm.sc_wkC, Cm.sc_weak]))
        · rw [hb, hb2] at hof
          rw [hb2] at hop
          have hs := nK_own hj0 hb
          have hs2 := nK_not hp0 hb2
          simp -implicitDefEqProofs only [push_cast, Tm.kc_weak, Tm.kc_cells, Tm.kc_one, Tm.kc_back1, Tm.kc_tok1, Tm.uc_weak, Tm.uc_cells, Tm.uc_one, Tm.uc_back1, Tm.uc_tok1, Cm.mc_weak, Cm.mc_cells, Cm.mc_one, Cm.mc_back1, Cm.mc_tok1, Cm.sc_weak, Cm.sc_cells, Cm.sc_one, Cm.sc_back1, Cm.sc_tok1, seval]
          refine callE_pure hof (by rfl) (by rfl) (by first | rfl | simp -implicitDefEqProofs only [push_cast, Tm.kc_weak, Tm.kc_tok1, Tm.uc_weak, Tm.uc_tok1, Cm.mc_weak, Cm.mc_tok1, Cm.sc_weak, Cm.sc_tok1, seval]) (by decide) (by first | rfl | simp -implicitDefEqProofs only [push_cast, Tm.kc_weak, Tm.kc_tok1, Tm.uc_weak, Tm.uc_tok1, Cm.mc_weak, Cm.mc_tok1, Cm.sc_weak, Cm.sc_tok1, seval]) (fun _ => by first | rfl | simp -implicitDefEqProofs only [push_cast, Tm.kc_weak, Tm.kc_tok1, Tm.uc_weak, Tm.uc_tok1, Cm.mc_weak, Cm.mc_tok1, Cm.sc_weak, Cm.sc_tok1, seval]) (by first | rfl | simp [gdOk, newToks]) ?_
          simp -implicitDefEqProofs only [push_cast, Tm.kc_weak, Tm.kc_cells, Tm.kc_one, Tm.kc_back1, Tm.kc_tok1, Tm.uc_weak, Tm.uc_cells, Tm.uc_one, Tm.uc_back1, Tm.uc_tok1, Cm.mc_weak, Cm.mc_cells, Cm.mc_one, Cm.mc_back1, Cm.mc_tok1, Cm.sc_weak, Cm.sc_cells, Cm.sc_one, Cm.sc_back1, Cm.sc_tok1, hwi, hwn, hwm, bne_self_eq_false, seval]
          refine ⟨⟨k + 1, hlt⟩, Nat.sub_lt_sub_left hlt (Nat.lt_succ_self k), ?_⟩
          (simp only [Al.st, hs, hs2]; exact Wk.at _ _ _ [(7, 7), (9, 9)] [] [] (by simp) (by simp [wkV, PV.el, PV.weak, PS.get, PS.obj, PS.lv, lkp_hit, lkp_miss, lkp_nil, lko, wkL, res1, Tm.kc_wkC, Tm.kc_weak, Tm.uc_wkC, Tm.uc_weak, Cm.mc_wkC, Cm.mc_weak, Cm.sc_wkC, Cm.sc_weak]) (by simp [PS.get, PS.obj, PS.lv, lkp_hit, lkp_miss, lkp_nil, lko, wkL, wkC_int, wkC_bool, wkC_sl, wkC_any, wkC_nilm, PV.weak, wkL, res1, Tm.kc_wkC, Tm.kc_weak, Tm.uc_wkC, Tm.uc_weak, Cm.mc_wkC, Cm.mc_weak, Cm.sc_wkC, Cm.sc_weak]))
        · rw [hb, hb2] at hof
          rw [hb2] at hop
          have hs := nK_own hj0 hb
          have hs2 := nK_own hp0 hb2
          simp -implicitDefEqProofs only [push_cast, Tm.kc_weak, Tm.kc_cells, Tm.kc_one, Tm.kc_back1, Tm.kc_tok1, Tm.uc_weak, Tm.uc_cells, Tm.uc_one, Tm.uc_back1, Tm.uc_tok1, Cm.mc_weak, Cm.mc_cells, Cm.mc_one, Cm.mc_back1, Cm.mc_tok1, Cm.sc_weak, Cm.sc_cells, Cm.sc_one, Cm.sc_back1, Cm.sc_tok1, seval]
          refine callE_pure hof (by rfl) (by rfl) (by first | rfl | simp -implicitDefEqProofs only [push_cast, Tm.kc_weak, Tm.kc_tok1, Tm.uc_weak, Tm.uc_tok1, Cm.mc_weak, Cm.mc_tok1, Cm.sc_weak, Cm.sc_tok1, seval]) (by decide) (by first | rfl | simp -implicitDefEqProofs only [push_cast, Tm.kc_weak, Tm.kc_tok1, Tm.uc_weak, Tm.uc_tok1, Cm.mc_weak, Cm.mc_tok1, Cm.sc_weak, Cm.sc_tok1, seval]) (fun _ => by first | rfl | simp -implicitDefEqProofs only [push_cast, Tm.kc_weak, Tm.kc_tok1, Tm.uc_weak, Tm.uc_tok1, Cm.mc_weak, Cm.mc_tok1, Cm.sc_weak, Cm.sc_tok1, seval]) (by first | rfl | simp [gdOk, newToks]) ?_
          simp -implicitDefEqProofs only [push_cast, Tm.kc_weak, Tm.kc_cells, Tm.kc_one, Tm.kc_back1, Tm.kc_tok1, Tm.uc_weak, Tm.uc_cells, Tm.uc_one, Tm.uc_back1, Tm.uc_tok1, Cm.mc_weak, Cm.mc_cells, Cm.mc_one, Cm.mc_back1, Cm.mc_tok1, Cm.sc_weak, Cm.sc_cells, Cm.sc_one, Cm.sc_back1, Cm.sc_tok1, hwi, hwn, hwm, bne_self_eq_false, seval]
          refine callE_pure hpa (by rfl) (by rfl) (by first | rfl | simp -implicitDefEqProofs only [push_cast, Tm.kc_weak, Tm.kc_tok1, Tm.uc_weak, Tm.uc_tok1, Cm.mc_weak, Cm.mc_tok1, Cm.sc_weak, Cm.sc_tok1, seval]) (by decide) (by first | rfl | simp -implicitDefEqProofs only [push_cast, Tm.kc_weak, Tm.kc_tok1, Tm.uc_weak, Tm.uc_tok1, Cm.mc_weak, Cm.mc_tok1, Cm.sc_weak, Cm.sc_tok1, seval]) (fun _ => by first | rfl | simp -implicitDefEqProofs only [push_cast, Tm.kc_weak, Tm.kc_tok1, Tm.uc_weak, Tm.uc_tok1, Cm.mc_weak, Cm.mc_tok1, Cm.sc_weak, Cm.sc_tok1, seval]) (by first | rfl | simp [gdOk, newToks]) ?_
          simp -implicitDefEqProofs only [push_cast, Tm.kc_weak, Tm.kc_cells, Tm.kc_one, Tm.kc_back1, Tm.kc_tok1, Tm.uc_weak, Tm.uc_cells, Tm.uc_one, Tm.uc_back1, Tm.uc_tok1, Cm.mc_weak, Cm.mc_cells, Cm.mc_one, Cm.mc_back1, Cm.mc_tok1, Cm.sc_weak, Cm.sc_cells, Cm.sc_one, Cm.sc_back1, Cm.sc_tok1, hwi, hwn, hwm, bne_self_eq_false, seval]
          refine callE_pure hop (by rfl) (by rfl) (by first | rfl | simp -implicitDefEqProofs only [push_cast, Tm.kc_weak, Tm.kc_tok1, Tm.uc_weak, Tm.uc_tok1, Cm.mc_weak, Cm.mc_tok1, Cm.sc_weak, Cm.sc_tok1, seval]) (by decide) (by first | rfl | simp -implicitDefEqProofs only [push_cast, Tm.kc_weak, Tm.kc_tok1, Tm.uc_weak, Tm.uc_tok1, Cm.mc_weak, Cm.mc_tok1, Cm.sc_weak, Cm.sc_tok1, seval]) (fun _ => by first | rfl | simp -implicitDefEqProofs only [push_cast, Tm.kc_weak, Tm.kc_tok1, Tm.uc_weak, Tm.uc_tok1, Cm.mc_weak, Cm.mc_tok1, Cm.sc_weak, Cm.sc_tok1, seval]) (by first | rfl | simp [gdOk, newToks]) ?_
          simp -implicitDefEqProofs only [push_cast, Tm.kc_weak, Tm.kc_cells, Tm.kc_one, Tm.kc_back1, Tm.kc_tok1, Tm.uc_weak, Tm.uc_cells, Tm.uc_one, Tm.uc_back1, Tm.uc_tok1, Cm.mc_weak, Cm.mc_cells, Cm.mc_one, Cm.mc_back1, Cm.mc_tok1, Cm.sc_weak, Cm.sc_cells, Cm.sc_one, Cm.sc_back1, Cm.sc_tok1, hwi, hwn, hwm, bne_self_eq_false, seval]
          refine ⟨⟨k + 1, hlt⟩, Nat.sub_lt_sub_left hlt (Nat.lt_succ_self k), ?_⟩
          (simp only [Al.st, hs, hs2]; exact Wk.at _ _ _ [(7, 7), (9, 9)] [] [] (by simp) (by simp [wkV, PV.el, PV.weak, PS.get, PS.obj, PS.lv, lkp_hit, lkp_miss, lkp_nil, lko, wkL, res1, Tm.kc_wkC, Tm.kc_weak, Tm.uc_wkC, Tm.uc_weak, Cm.mc_wkC, Cm.mc_weak, Cm.sc_wkC, Cm.sc_weak]) (by simp [PS.get, PS.obj, PS.lv, lkp_hit, lkp_miss, lkp_nil, lko, wkL, wkC_int, wkC_bool, wkC_sl, wkC_any, wkC_nilm, PV.weak, wkL, res1, Tm.kc_wkC, Tm.kc_weak, Tm.uc_wkC, Tm.uc_weak, Cm.mc_wkC, Cm.mc_weak, Cm.sc_wkC, Cm.sc_weak]))
      · have hke : k = 10 := by simp at g1; omega
        subst hke
        simp -implicitDefEqProofs only [push_cast, seval]
        refine callE_p ha ?_
        simp -implicitDefEqProofs only [push_cast, seval]
        rw [hn0]
        by_cases e : j = 1 <;> simp [e, hm0.2]
theorem alone_fs (l : List Wd) (s : List Sl) (hl : l.length ≤ 1000000000000000) (hs : s.length ≤ 1000000000000000) (at' : UInt8) :
    Fsp Tryd.prog 4 [] 0 [.sl 2 (wdL l), .sl 3 (slL s), .int .u8 at'.toNat] [] 0 (.bool true) := by
  by_cases h : l.length ≤ 12 ∧ s.length ≤ 12
  · exact aloneOk_fs l s at' h
  · exact aloneNo_fs l s (by omega) (by omega) at' h
end Go.Proofs.Sh
