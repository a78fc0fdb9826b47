/- RightsAsked: the given statement, proved. No condition. -/
import Derived.Test.YtnaldfmohncbhaaDoorRtT
import Derived.Test.YtnaldfmohncbhaaDoorRtSeat
import Derived.Test.YtnaldfmohncbhaaDoorCards
import Derived.Test.YtnaldfmohncbhaaDoorTie
set_option maxRecDepth 100000
set_option linter.unusedVariables false
namespace Go.Proofs.YtnaldfmohncbhaaDoor
open Go.Pv Go.Proofs.Sh

theorem rightsAsked_reads (os : Os) {H : Type} (enc : TypeId × Value → H) : ∃ places, DataW.whole enc Tryd.prog ((World.doorLaid Tryd.prog 400 os).forCall (fun _ _ => 0) ⟨#[], #[.int .u8 0, .int .u8 0, .int .u32 0, .int .u32 0], []⟩).memory Tryd.f7.params.toList Rows.rightsAskedSpec.vars false #[.int .u8 0, .int .u8 0, .int .u32 0, .int .u32 0].toList 8 = some ([.lit (.int .u8 0), .lit (.int .u8 0), .lit (.int .u32 0), .lit (.int .u32 0)], [], places) :=
  ⟨[], by kernel_rfl⟩
theorem rightsAsked_lifted (os : Os) (started : os.Started) (H : Type) (enc : TypeId × Value → H) (F : Stop.Interp) :
    ReturnsInHanded {} Tryd.checked os 7 .any ((OpenSpec.ofChange Rows.rightsAskedSpec).preRow enc Tryd.prog Tryd.f7 [] false laidV) (((OpenSpec.ofChange Rows.rightsAskedSpec).at F).post enc Tryd.prog Tryd.f7 false true false false) := by
  obtain ⟨places, hx⟩ := rightsAsked_reads os enc
  refine lawRow (C := Tryd.checked) (s0 := Rows.rightsAskedSpec) (s := OpenSpec.ofChange Rows.rightsAskedSpec) (t := 4) (Gs := [dOne (dInt .u8), dOne (dInt .u8), dOne (dInt .u32), dOne (dInt .u32)]) own started (by kernel_rfl) Tryd.func7
    (witness_row_atRef (enc := enc) (C := Tryd.checked) false (World.doorLaid Tryd.prog 400 os) #[.int .u8 0, .int .u8 0, .int .u32 0, .int .u32 0] rfl (by kernel_rfl) (by kernel_rfl) (by kernel_rfl)
      (OpenSpec.preRow_of_cond 8 hx (by kernel_rfl) (fun k hk => by cases hk) (by kernel_rfl) (door_met os _)))
    (.cons 5 _ _ _ (.ofC (DecD.int (k := .u8) (by kernel_rfl)) (.inr (.inr (.inl ⟨.u8, by kernel_rfl⟩)))) (.cons 5 _ _ _ (.ofC (DecD.int (k := .u8) (by kernel_rfl)) (.inr (.inr (.inl ⟨.u8, by kernel_rfl⟩)))) (.cons 60 _ _ _ (.ofC (DecD.int (k := .u32) (by kernel_rfl)) (.inr (.inr (.inl ⟨.u32, by kernel_rfl⟩)))) (.cons 24 _ _ _ (.ofC (DecD.int (k := .u32) (by kernel_rfl)) (.inr (.inr (.inl ⟨.u32, by kernel_rfl⟩)))) .nil)))) rfl rfl rfl rfl Tryd.underlying4 ?_ laidOut (by kernel_rfl) glOf ?_
  · intro ds h
    match ds, h with
    | [_, _, _, _], _ => exact ⟨rfl, rfl, rfl⟩
  · rintro ds qs hcond hwt ⟨d0, _, p0, _, rfl, rfl, g0, d1, _, p1, _, rfl, rfl, g1, d2, _, p2, _, rfl, rfl, g2, d3, _, p3, _, rfl, rfl, g3, rfl, rfl⟩
    rw [Tryd.params7] at hwt
    obtain ⟨w0, hwt⟩ := weach hwt
    obtain ⟨w1, hwt⟩ := weach hwt
    obtain ⟨w2, hwt⟩ := weach hwt
    obtain ⟨w3, hwt⟩ := weach hwt
    obtain ⟨x0, e0, rfl, v0⟩ := g0
    cases e0
    obtain ⟨x1, e1, rfl, v1⟩ := g1
    cases e1
    obtain ⟨x2, e2, rfl, v2⟩ := g2
    cases e2
    obtain ⟨x3, e3, rfl, v3⟩ := g3
    cases e3
    obtain ⟨y0, rfl⟩ := nat_u8 v0
    obtain ⟨y1, rfl⟩ := nat_u8 v1
    exact asked_fs y0 y1 x2 x3 (u32_wf v2) (u32_wf v3)

theorem rightsAsked_holds : Rows.RightsAskedSaid :=
  OpenClaim.holds_of_cond 7 Tryd.f7 rfl rfl rfl rfl rfl rfl rfl ⟨rfl, rfl, rfl, rfl, rfl⟩ rfl rfl rfl rfl rfl (by kernel_rfl) Tryd.func7 (by kernel_rfl)
    (of_decide_eq_true (by kernel_rfl)) (by unfold Func.isWrapper; first | (rw [if_pos (by decide +kernel)]; kernel_rfl) | (rw [if_neg (by decide +kernel)]; exact ⟨rfl, rfl⟩))
    (fun os started H enc _ F => by rw [OpenClaim.pre_eq_preRow]; exact rightsAsked_lifted os started H enc F)

theorem rightsAsked_card_holds : Rows.RightsAskedCardSaid :=
  Claim7.holds_tied_plain_at .later [] [.data] true (true, "9975fee9cb326bd0d3c16e69b0a9e91ac2f5f2f4c15af73037674246e727d7cc") false
    rightsAsked_holds (fun _ h => by cases h) (by kernel_rfl) (fun _ h => by cases h) rightsAsked_row_tie rfl ⟨rfl, rfl⟩ (by kernel_rfl) rfl
    (fun f fn hf hfn => by
      obtain rfl : f = 7 := Option.some.inj ((show Tryd.prog.funcNamed Rows.rightsAskedRow.func = some 7 by kernel_rfl).symm.trans hf) |>.symm
      obtain rfl : fn = Tryd.f7 := (Option.some.inj (Tryd.func7.symm.trans hfn)).symm
      exact ⟨by kernel_rfl, fun j t ht => by
        rw [Tryd.params7] at ht
        have hm : t ∈ [5, 5, 60, 24] := by simpa using Array.mem_of_getElem? ht
        have hall : ([5, 5, 60, 24].all fun u => !Tryd.prog.wantsStandIn u) = true := by kernel_rfl
        exact (show Tryd.prog.wantsStandIn t = false by simpa using List.all_eq_true.1 hall t hm)⟩)
    (by kernel_rfl)
end Go.Proofs.YtnaldfmohncbhaaDoor
