/- RightsNeeds: the given statement, proved. No condition. -/
import Derived.Test.YtnaldfmohncbhaaDoorRtQ
import Derived.Test.YtnaldfmohncbhaaDoorRtSeat
import Derived.Test.YtnaldfmohncbhaaDoorCards
import Derived.Test.YtnaldfmohncbhaaDoorTie
set_option maxRecDepth 100000
set_option linter.unusedVariables false
namespace Go.Proofs.YtnaldfmohncbhaaDoor
open Go.Pv Go.Proofs.Sh

theorem rightsNeeds_reads (os : Os) {H : Type} (enc : TypeId × Value → H) : ∃ places, DataW.whole enc Tryd.prog ((World.doorLaid Tryd.prog 400 os).forCall (fun _ _ => 0) ⟨#[], #[.int .i64 0], []⟩).memory Tryd.f8.params.toList Rows.rightsNeedsSpec.vars false #[.int .i64 0].toList 8 = some ([.lit (.int .i64 0)], [], places) :=
  ⟨[], by kernel_rfl⟩
theorem rightsNeeds_lifted (os : Os) (started : os.Started) (H : Type) (enc : TypeId × Value → H) (F : Stop.Interp) :
    ReturnsInHanded {} Tryd.checked os 8 .any ((OpenSpec.ofChange Rows.rightsNeedsSpec).preRow enc Tryd.prog Tryd.f8 [] false laidV) (((OpenSpec.ofChange Rows.rightsNeedsSpec).at F).post enc Tryd.prog Tryd.f8 false true false false) := by
  obtain ⟨places, hx⟩ := rightsNeeds_reads os enc
  refine lawRow (C := Tryd.checked) (s0 := Rows.rightsNeedsSpec) (s := OpenSpec.ofChange Rows.rightsNeedsSpec) (t := 4) (Gs := [dOne (dInt .i64)]) own started (by kernel_rfl) Tryd.func8
    (witness_row_atRef (enc := enc) (C := Tryd.checked) false (World.doorLaid Tryd.prog 400 os) #[.int .i64 0] rfl (by kernel_rfl) (by kernel_rfl) (by kernel_rfl)
      (OpenSpec.preRow_of_cond 8 hx (by kernel_rfl) (fun k hk => by cases hk) (by kernel_rfl) (door_met os _)))
    (.cons 3 _ _ _ (.ofC (DecD.int (k := .i64) (by kernel_rfl)) (.inr (.inr (.inl ⟨.i64, by kernel_rfl⟩)))) .nil) rfl rfl rfl rfl Tryd.underlying4 ?_ laidOut (by kernel_rfl) glOf ?_
  · intro ds h
    match ds, h with
    | [_], _ => exact ⟨rfl, rfl, rfl⟩
  · rintro ds qs hcond hwt ⟨d0, _, p0, _, rfl, rfl, g0, rfl, rfl⟩
    rw [Tryd.params8] at hwt
    obtain ⟨w0, hwt⟩ := weach hwt
    obtain ⟨x0, e0, rfl, v0⟩ := g0
    cases e0
    exact needsL_fs x0

theorem rightsNeeds_holds : Rows.RightsNeedsSaid :=
  OpenClaim.holds_of_cond 8 Tryd.f8 rfl rfl rfl rfl rfl rfl rfl ⟨rfl, rfl, rfl, rfl, rfl⟩ rfl rfl rfl rfl rfl (by kernel_rfl) Tryd.func8 (by kernel_rfl)
    (of_decide_eq_true (by kernel_rfl)) (by unfold Func.isWrapper; first | (rw [if_pos (by decide +kernel)]; kernel_rfl) | (rw [if_neg (by decide +kernel)]; exact ⟨rfl, rfl⟩))
    (fun os started H enc _ F => by rw [OpenClaim.pre_eq_preRow]; exact rightsNeeds_lifted os started H enc F)

theorem rightsNeeds_card_holds : Rows.RightsNeedsCardSaid :=
  Claim7.holds_tied_plain_at .later [] [.data, .listed, .data] true (true, "9975fee9cb326bd0d3c16e69b0a9e91ac2f5f2f4c15af73037674246e727d7cc") false
    rightsNeeds_holds (fun _ h => by cases h) (by kernel_rfl) (fun _ h => by cases h) rightsNeeds_row_tie rfl ⟨rfl, rfl⟩ (by kernel_rfl) rfl
    (fun f fn hf hfn => by
      obtain rfl : f = 8 := Option.some.inj ((show Tryd.prog.funcNamed Rows.rightsNeedsRow.func = some 8 by kernel_rfl).symm.trans hf) |>.symm
      obtain rfl : fn = Tryd.f8 := (Option.some.inj (Tryd.func8.symm.trans hfn)).symm
      exact ⟨by kernel_rfl, fun j t ht => by
        rw [Tryd.params8] at ht
        have hm : t ∈ [3] := by simpa using Array.mem_of_getElem? ht
        have hall : ([3].all fun u => !Tryd.prog.wantsStandIn u) = true := by kernel_rfl
        exact (show Tryd.prog.wantsStandIn t = false by simpa using List.all_eq_true.1 hall t hm)⟩)
    (by kernel_rfl)
end Go.Proofs.YtnaldfmohncbhaaDoor
