/- TellChains: the given statement, proved. No condition. -/
import Derived.Test.YtafleenajffpkaaDoorTlTellChains
import Derived.Test.YtafleenajffpkaaDoorTlSeatL
import Derived.Test.YtafleenajffpkaaDoorCards
import Derived.Test.YtafleenajffpkaaDoorTie
set_option maxRecDepth 100000
namespace Go.Proofs.YtafleenajffpkaaDoor
open Go.Pv Go.Proofs.Sh

theorem tellChains_lifted (os : Os) (started : os.Started) (H : Type) (enc : TypeId × Value → H) :
    ReturnsInHanded {} Tryd.checked os 5 .any (fun w args => (Rows.tellChainsSpec.pre enc Tryd.prog Tryd.f5 [] false w args ∧ laidMetH Tryd.prog laidV w) ∧ sizedMet enc Tryd.prog Tryd.f5 (OpenSpec.ofChange Rows.tellChainsSpec) false w args)
      (Rows.tellChainsSpec.post enc Tryd.prog Tryd.f5 false true false false) := by
  refine lawInLaid (C := Tryd.checked) (t := 4) (Gs := [one1 (gSl 6 gOt)]) own started (by kernel_rfl) Tryd.func5
    (ChangeSpec.witness_shaped (enc := enc) (C := Tryd.checked) (os := os) (X := fun w _ => laidMetH Tryd.prog laidV w) false (World.doorLaid Tryd.prog 400 os) #[.slice none 0 0] 8 rfl (World.shaped_of_RefB (by kernel_rfl) (by kernel_rfl)) (by kernel_rfl) (by kernel_rfl) (by kernel_rfl) (door_met os _))
    (.cons 41 _ _ _ decOts .nil) rfl rfl Tryd.underlying4 ?_ laidOut (by kernel_rfl) glOf ?_
  · intro ds h
    match ds, h with
    | [_], _ => exact ⟨rfl, rfl, rfl⟩
  · rintro _ ⟨x0, _, rfl, hx0, rfl⟩
    obtain ⟨x0, rfl⟩ := ots_of hx0
    exact tellChains_fs x0

theorem tellChains_holds : Rows.TellChainsSaid :=
  OpenClaim.holds_of_wide 5 Tryd.f5 rfl rfl rfl rfl rfl rfl rfl ⟨rfl, rfl, rfl, rfl, rfl⟩ rfl rfl rfl rfl rfl (by kernel_rfl) Tryd.func5 (by kernel_rfl)
    (of_decide_eq_true (by kernel_rfl)) (by unfold Func.isWrapper; first | (rw [if_pos (by decide +kernel)]; kernel_rfl) | (rw [if_neg (by decide +kernel)]; exact ⟨rfl, rfl⟩))
    (fun os started H enc _ => tellChains_lifted os started H enc)

theorem tellChains_card_holds : Rows.TellChainsCardSaid :=
  Claim7.holds_tied_plain_at .later [] [.data, .listed, .data, .data] true (true, "5875827545007c748aecefaf921826f4ca07b7c037740d3e78f6fc75a262a6d3") false
    tellChains_holds (fun _ h => by cases h) (by kernel_rfl) (fun _ h => by cases h) tellChains_row_tie rfl ⟨rfl, rfl⟩ (by kernel_rfl) rfl
    (fun f fn hf hfn => by
      obtain rfl : f = 5 := Option.some.inj ((show Tryd.prog.funcNamed Rows.tellChainsRow.func = some 5 by kernel_rfl).symm.trans hf) |>.symm
      obtain rfl : fn = Tryd.f5 := (Option.some.inj (Tryd.func5.symm.trans hfn)).symm
      exact ⟨by kernel_rfl, fun j t ht => by
        rw [Tryd.params5] at ht
        have hm : t ∈ [41] := by simpa using Array.mem_of_getElem? ht
        have hall : ([41].all fun u => !Tryd.prog.wantsStandIn u) = true := by kernel_rfl
        exact (show Tryd.prog.wantsStandIn t = false by simpa using List.all_eq_true.1 hall t hm)⟩)
    (by kernel_rfl)
end Go.Proofs.YtafleenajffpkaaDoor
