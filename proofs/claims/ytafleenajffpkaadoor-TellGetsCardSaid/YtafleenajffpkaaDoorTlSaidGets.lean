/- TellGets: the given statement, proved. No condition. -/
import Derived.Test.YtafleenajffpkaaDoorTlTellGets
import Derived.Test.YtafleenajffpkaaDoorTlSeat
import Derived.Test.YtafleenajffpkaaDoorCards
import Derived.Test.YtafleenajffpkaaDoorTie
set_option maxRecDepth 100000
namespace Go.Proofs.YtafleenajffpkaaDoor
open Go.Pv Go.Proofs.Sh

theorem tellGets_lifted (os : Os) (started : os.Started) (H : Type) (enc : TypeId × Value → H) :
    ReturnsInHanded {} Tryd.checked os 3 .any (fun w args => (Rows.tellGetsSpec.pre enc Tryd.prog Tryd.f3 [] false w args ∧ laidMetH Tryd.prog laidV w) ∧ sizedMet enc Tryd.prog Tryd.f3 (OpenSpec.ofChange Rows.tellGetsSpec) false w args)
      (Rows.tellGetsSpec.post enc Tryd.prog Tryd.f3 false true false false) := by
  refine lawInLaid (C := Tryd.checked) (t := 4) (Gs := [one1 (gInt .i64), one1 gStr]) own started (by kernel_rfl) Tryd.func3
    (ChangeSpec.witness_shaped (enc := enc) (C := Tryd.checked) (os := os) (X := fun w _ => laidMetH Tryd.prog laidV w) false (World.doorLaid Tryd.prog 400 os) #[.int .i64 0, .string ⟨#[]⟩] 8 rfl (World.shaped_of_RefB (by kernel_rfl) (by kernel_rfl)) (by kernel_rfl) (by kernel_rfl) (by kernel_rfl) (door_met os _))
    (.cons 3 _ _ _ (.int (by kernel_rfl)) (.cons 9 _ _ _ (.str (by kernel_rfl)) .nil)) rfl rfl Tryd.underlying4 ?_ laidOut (by kernel_rfl) glOf ?_
  · intro ds h
    match ds, h with
    | [_, _], _ => exact ⟨rfl, rfl, rfl⟩
  · rintro _ ⟨_, _, rfl, ⟨x0, hx0, -⟩, ⟨_, _, rfl, ⟨x1, hx1, -⟩, rfl⟩⟩
    cases hx0; cases hx1
    exact tellGets_fs x0 x1

theorem tellGets_holds : Rows.TellGetsSaid :=
  OpenClaim.holds_of_wide 3 Tryd.f3 rfl rfl rfl rfl rfl rfl rfl ⟨rfl, rfl, rfl, rfl, rfl⟩ rfl rfl rfl rfl rfl (by kernel_rfl) Tryd.func3 (by kernel_rfl)
    (of_decide_eq_true (by kernel_rfl)) (by unfold Func.isWrapper; first | (rw [if_pos (by decide +kernel)]; kernel_rfl) | (rw [if_neg (by decide +kernel)]; exact ⟨rfl, rfl⟩))
    (fun os started H enc _ => tellGets_lifted os started H enc)

theorem tellGets_card_holds : Rows.TellGetsCardSaid :=
  Claim7.holds_tied_plain_at .later [] [.data, .listed, .data, .data] true (true, "5875827545007c748aecefaf921826f4ca07b7c037740d3e78f6fc75a262a6d3") false
    tellGets_holds (fun _ h => by cases h) (by kernel_rfl) (fun _ h => by cases h) tellGets_row_tie rfl ⟨rfl, rfl⟩ (by kernel_rfl) rfl
    (fun f fn hf hfn => by
      obtain rfl : f = 3 := Option.some.inj ((show Tryd.prog.funcNamed Rows.tellGetsRow.func = some 3 by kernel_rfl).symm.trans hf) |>.symm
      obtain rfl : fn = Tryd.f3 := (Option.some.inj (Tryd.func3.symm.trans hfn)).symm
      exact ⟨by kernel_rfl, fun j t ht => by
        rw [Tryd.params3] at ht
        have hm : t ∈ [3, 9] := by simpa using Array.mem_of_getElem? ht
        have hall : ([3, 9].all fun u => !Tryd.prog.wantsStandIn u) = true := by kernel_rfl
        exact (show Tryd.prog.wantsStandIn t = false by simpa using List.all_eq_true.1 hall t hm)⟩)
    (by kernel_rfl)
end Go.Proofs.YtafleenajffpkaaDoor
