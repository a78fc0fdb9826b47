/- RightsAlone: the given statement, proved. No condition. -/
import Derived.Test.YtnaldfmohncbhaaDoorRtS
import Derived.Test.YtnaldfmohncbhaaDoorRtSeat
import Derived.Test.YtnaldfmohncbhaaDoorCards
import Derived.Test.YtnaldfmohncbhaaDoorTie
set_option maxRecDepth 100000
set_option linter.unusedVariables false
namespace Go.Proofs.YtnaldfmohncbhaaDoor
open Go.Pv Go.Proofs.Sh

theorem rightsAlone_reads (os : Os) {H : Type} (enc : TypeId × Value → H) : ∃ places, DataW.whole enc Tryd.prog ((World.doorLaid Tryd.prog 400 os).forCall (fun _ _ => 0) ⟨#[], #[.slice none 0 0, .slice none 0 0, .int .u8 0], []⟩).memory Tryd.f4.params.toList Rows.rightsAloneSpec.vars false #[.slice none 0 0, .slice none 0 0, .int .u8 0].toList 8 = some ([.nil, .nil, .lit (.int .u8 0)], [], places) :=
  ⟨[], by kernel_rfl⟩
theorem rightsAlone_lifted (os : Os) (started : os.Started) (H : Type) (enc : TypeId × Value → H) (F : Stop.Interp) :
    ReturnsInHanded {} Tryd.checked os 4 .any ((OpenSpec.ofChange Rows.rightsAloneSpec).preRow enc Tryd.prog Tryd.f4 [] false laidV) (((OpenSpec.ofChange Rows.rightsAloneSpec).at F).post enc Tryd.prog Tryd.f4 false true false false) := by
  obtain ⟨places, hx⟩ := rightsAlone_reads os enc
  refine lawRow (C := Tryd.checked) (s0 := Rows.rightsAloneSpec) (s := OpenSpec.ofChange Rows.rightsAloneSpec) (t := 4) (Gs := [dOne (dSl 2 dWdG), dOne (dSl 3 dSeG), dOne (dInt .u8)]) own started (by kernel_rfl) Tryd.func4
    (witness_row_atRef (enc := enc) (C := Tryd.checked) false (World.doorLaid Tryd.prog 400 os) #[.slice none 0 0, .slice none 0 0, .int .u8 0] rfl (by kernel_rfl) (by kernel_rfl) (by kernel_rfl)
      (OpenSpec.preRow_of_cond 8 hx (by kernel_rfl) (fun k hk => by cases hk) (by kernel_rfl) (door_met os _)))
    (.cons 22 _ _ _ decEdWdGs (.cons 23 _ _ _ decEdSeGs (.cons 5 _ _ _ (.ofC (DecD.int (k := .u8) (by kernel_rfl)) (.inr (.inr (.inl ⟨.u8, by kernel_rfl⟩)))) .nil))) rfl rfl rfl rfl Tryd.underlying4 ?_ laidOut (by kernel_rfl) glOf ?_
  · intro ds h
    match ds, h with
    | [_, _, _], _ => exact ⟨rfl, rfl, rfl⟩
  · rintro ds qs hcond hwt ⟨d0, _, p0, _, rfl, rfl, g0, d1, _, p1, _, rfl, rfl, g1, d2, _, p2, _, rfl, rfl, g2, rfl, rfl⟩
    rw [Tryd.params4] at hwt
    obtain ⟨w0, hwt⟩ := weach hwt
    obtain ⟨w1, hwt⟩ := weach hwt
    obtain ⟨w2, hwt⟩ := weach hwt
    obtain ⟨x0, e0, q0⟩ := dwds_of g0
    cases e0
    have q0 := q0 w0
    obtain ⟨x1, e1, q1⟩ := dsels_of g1
    cases e1
    have q1 := q1 w1
    obtain ⟨x2, e2, rfl, v2⟩ := g2
    cases e2
    obtain ⟨y2, rfl⟩ := nat_u8 v2
    exact alone_fs x0 x1 q0 q1 y2

theorem rightsAlone_holds : Rows.RightsAloneSaid :=
  OpenClaim.holds_of_cond 4 Tryd.f4 rfl rfl rfl rfl rfl rfl rfl ⟨rfl, rfl, rfl, rfl, rfl⟩ rfl rfl rfl rfl rfl (by kernel_rfl) Tryd.func4 (by kernel_rfl)
    (of_decide_eq_true (by kernel_rfl)) (by unfold Func.isWrapper; first | (rw [if_pos (by decide +kernel)]; kernel_rfl) | (rw [if_neg (by decide +kernel)]; exact ⟨rfl, rfl⟩))
    (fun os started H enc _ F => by rw [OpenClaim.pre_eq_preRow]; exact rightsAlone_lifted os started H enc F)

theorem rightsAlone_card_holds : Rows.RightsAloneCardSaid :=
  Claim7.holds_tied_plain_at .later [] [.data] true (true, "9975fee9cb326bd0d3c16e69b0a9e91ac2f5f2f4c15af73037674246e727d7cc") false
    rightsAlone_holds (fun _ h => by cases h) (by kernel_rfl) (fun _ h => by cases h) rightsAlone_row_tie rfl ⟨rfl, rfl⟩ (by kernel_rfl) rfl
    (fun f fn hf hfn => by
      obtain rfl : f = 4 := Option.some.inj ((show Tryd.prog.funcNamed Rows.rightsAloneRow.func = some 4 by kernel_rfl).symm.trans hf) |>.symm
      obtain rfl : fn = Tryd.f4 := (Option.some.inj (Tryd.func4.symm.trans hfn)).symm
      exact ⟨by kernel_rfl, fun j t ht => by
        rw [Tryd.params4] at ht
        have hm : t ∈ [22, 23, 5] := by simpa using Array.mem_of_getElem? ht
        have hall : ([22, 23, 5].all fun u => !Tryd.prog.wantsStandIn u) = true := by kernel_rfl
        exact (show Tryd.prog.wantsStandIn t = false by simpa using List.all_eq_true.1 hall t hm)⟩)
    (by kernel_rfl)
end Go.Proofs.YtnaldfmohncbhaaDoor
