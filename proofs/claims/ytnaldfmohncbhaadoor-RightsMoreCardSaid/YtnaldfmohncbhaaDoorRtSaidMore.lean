/- RightsMore: the given statement, proved. No condition. -/
import Derived.Test.YtnaldfmohncbhaaDoorRtS
import Derived.Test.YtnaldfmohncbhaaDoorRtSeat
import Derived.Test.YtnaldfmohncbhaaDoorCards
import Derived.Test.YtnaldfmohncbhaaDoorTie
set_option maxRecDepth 100000
set_option linter.unusedVariables false
namespace Go.Proofs.YtnaldfmohncbhaaDoor
open Go.Pv Go.Proofs.Sh

theorem rightsMore_reads (os : Os) {H : Type} (enc : TypeId × Value → H) : ∃ places, DataW.whole enc Tryd.prog ((World.doorLaid Tryd.prog 400 os).forCall (fun _ _ => 0) ⟨#[], #[.int .i64 0, .agg #[.bool false, .bool false, .bool false, .bool false, .bool false], .agg #[.bool false, .bool false, .bool false, .bool false, .bool false]], []⟩).memory Tryd.f6.params.toList Rows.rightsMoreSpec.vars false #[.int .i64 0, .agg #[.bool false, .bool false, .bool false, .bool false, .bool false], .agg #[.bool false, .bool false, .bool false, .bool false, .bool false]].toList 8 = some ([.lit (.int .i64 0), .agg [.lit (.bool false), .lit (.bool false), .lit (.bool false), .lit (.bool false), .lit (.bool false)], .agg [.lit (.bool false), .lit (.bool false), .lit (.bool false), .lit (.bool false), .lit (.bool false)]], [], places) :=
  ⟨[], by kernel_rfl⟩
theorem rightsMore_lifted (os : Os) (started : os.Started) (H : Type) (enc : TypeId × Value → H) (F : Stop.Interp) :
    ReturnsInHanded {} Tryd.checked os 6 .any ((OpenSpec.ofChange Rows.rightsMoreSpec).preRow enc Tryd.prog Tryd.f6 [] false laidV) (((OpenSpec.ofChange Rows.rightsMoreSpec).at F).post enc Tryd.prog Tryd.f6 false true false false) := by
  obtain ⟨places, hx⟩ := rightsMore_reads os enc
  refine lawRow (C := Tryd.checked) (s0 := Rows.rightsMoreSpec) (s := OpenSpec.ofChange Rows.rightsMoreSpec) (t := 4) (Gs := [dOne (dInt .i64), dFaG, dFaG]) own started (by kernel_rfl) Tryd.func6
    (witness_row_atRef (enc := enc) (C := Tryd.checked) false (World.doorLaid Tryd.prog 400 os) #[.int .i64 0, .agg #[.bool false, .bool false, .bool false, .bool false, .bool false], .agg #[.bool false, .bool false, .bool false, .bool false, .bool false]] rfl (by kernel_rfl) (by kernel_rfl) (by kernel_rfl)
      (OpenSpec.preRow_of_cond 8 hx (by kernel_rfl) (fun k hk => by cases hk) (by kernel_rfl) (door_met os _)))
    (.cons 3 _ _ _ (.ofC (DecD.int (k := .i64) (by kernel_rfl)) (.inr (.inr (.inl ⟨.i64, by kernel_rfl⟩)))) (.cons 39 _ _ _ decEdFaG (.cons 39 _ _ _ decEdFaG .nil))) rfl rfl rfl rfl Tryd.underlying4 ?_ laidOut (by kernel_rfl) glOf ?_
  · intro ds h
    match ds, h with
    | [_, _, _], _ => exact ⟨rfl, rfl, rfl⟩
  · rintro ds qs hcond hwt ⟨d0, _, p0, _, rfl, rfl, g0, d1, _, p1, _, rfl, rfl, g1, d2, _, p2, _, rfl, rfl, g2, rfl, rfl⟩
    rw [Tryd.params6] at hwt
    obtain ⟨w0, hwt⟩ := weach hwt
    obtain ⟨w1, hwt⟩ := weach hwt
    obtain ⟨w2, hwt⟩ := weach hwt
    obtain ⟨x0, e0, rfl, v0⟩ := g0
    cases e0
    obtain ⟨x1, rfl⟩ := dfa_of g1
    obtain ⟨x2, rfl⟩ := dfa_of g2
    exact more_fs x0 x1 x2

theorem rightsMore_holds : Rows.RightsMoreSaid :=
  OpenClaim.holds_of_cond 6 Tryd.f6 rfl rfl rfl rfl rfl rfl rfl ⟨rfl, rfl, rfl, rfl, rfl⟩ rfl rfl rfl rfl rfl (by kernel_rfl) Tryd.func6 (by kernel_rfl)
    (of_decide_eq_true (by kernel_rfl)) (by unfold Func.isWrapper; first | (rw [if_pos (by decide +kernel)]; kernel_rfl) | (rw [if_neg (by decide +kernel)]; exact ⟨rfl, rfl⟩))
    (fun os started H enc _ F => by rw [OpenClaim.pre_eq_preRow]; exact rightsMore_lifted os started H enc F)

theorem rightsMore_card_holds : Rows.RightsMoreCardSaid :=
  Claim7.holds_tied_plain_at .later [] [.data] true (true, "9975fee9cb326bd0d3c16e69b0a9e91ac2f5f2f4c15af73037674246e727d7cc") false
    rightsMore_holds (fun _ h => by cases h) (by kernel_rfl) (fun _ h => by cases h) rightsMore_row_tie rfl ⟨rfl, rfl⟩ (by kernel_rfl) rfl
    (fun f fn hf hfn => by
      obtain rfl : f = 6 := Option.some.inj ((show Tryd.prog.funcNamed Rows.rightsMoreRow.func = some 6 by kernel_rfl).symm.trans hf) |>.symm
      obtain rfl : fn = Tryd.f6 := (Option.some.inj (Tryd.func6.symm.trans hfn)).symm
      exact ⟨by kernel_rfl, fun j t ht => by
        rw [Tryd.params6] at ht
        have hm : t ∈ [3, 39, 39] := by simpa using Array.mem_of_getElem? ht
        have hall : ([3, 39, 39].all fun u => !Tryd.prog.wantsStandIn u) = true := by kernel_rfl
        exact (show Tryd.prog.wantsStandIn t = false by simpa using List.all_eq_true.1 hall t hm)⟩)
    (by kernel_rfl)
end Go.Proofs.YtnaldfmohncbhaaDoor
