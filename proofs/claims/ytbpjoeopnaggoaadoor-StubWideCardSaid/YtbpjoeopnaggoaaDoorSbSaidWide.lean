/- StubWide: the given statement, proved. No condition. -/
import Derived.Test.YtbpjoeopnaggoaaDoorSbWide
import Derived.Test.YtbpjoeopnaggoaaDoorSbSeat
import Derived.Test.YtbpjoeopnaggoaaDoorCards
import Derived.Test.YtbpjoeopnaggoaaDoorTie
set_option maxRecDepth 100000
namespace Go.Proofs.YtbpjoeopnaggoaaDoor
open Go.Pv Go.Proofs.Sh

theorem stubWide_lifted (os : Os) (started : os.Started) (H : Type) (enc : TypeId × Value → H) :
    ReturnsInHanded {} Tryd.checked os 3 .any (fun w args => (Rows.stubWideSpec.pre enc Tryd.prog Tryd.f3 [] false w args ∧ laidMetH Tryd.prog laidV w) ∧ sizedMet enc Tryd.prog Tryd.f3 (OpenSpec.ofChange Rows.stubWideSpec) false w args)
      (Rows.stubWideSpec.post enc Tryd.prog Tryd.f3 false true false false) := by
  refine lawInLaid (C := Tryd.checked) (t := 4) (Gs := [one1 (gInt .i64), one1 (gInt .i64)]) own started (by kernel_rfl) Tryd.func3
    (ChangeSpec.witness_shaped (enc := enc) (C := Tryd.checked) (os := os) (X := fun w _ => laidMetH Tryd.prog laidV w) false (World.doorLaid Tryd.prog 400 os) #[.int .i64 0, .int .i64 0] 8 rfl (World.shaped_of_RefB (by kernel_rfl) (by kernel_rfl)) (by kernel_rfl) (by kernel_rfl) (by kernel_rfl) (door_met os _))
    (.cons 3 _ _ _ (.int (by kernel_rfl)) (.cons 3 _ _ _ (.int (by kernel_rfl)) .nil)) rfl rfl Tryd.underlying4 ?_ laidOut (by kernel_rfl) glOf ?_
  · intro ds h
    match ds, h with
    | [_, _], _ => exact ⟨rfl, rfl, rfl⟩
  · rintro _ ⟨_, _, rfl, ⟨x0, hx0, -⟩, ⟨_, _, rfl, ⟨x1, hx1, -⟩, rfl⟩⟩
    cases hx0; cases hx1
    exact stubWide_fs x0 x1 


theorem stubWide_holds : Rows.StubWideSaid :=
  OpenClaim.holds_of_wide 3 Tryd.f3 rfl rfl rfl rfl rfl rfl rfl ⟨rfl, rfl, rfl, rfl, rfl⟩ rfl rfl rfl rfl rfl (by kernel_rfl) Tryd.func3 (by kernel_rfl)
    (of_decide_eq_true (by kernel_rfl)) (by unfold Func.isWrapper; first | (rw [if_pos (by decide +kernel)]; kernel_rfl) | (rw [if_neg (by decide +kernel)]; exact ⟨rfl, rfl⟩))
    (fun os started H enc _ => stubWide_lifted os started H enc)

theorem stubWide_card_holds : Rows.StubWideCardSaid :=
  Claim7.holds_tied_plain_at .later [] [.data, .listed, .data, .data] true (true, "b0f27f898b90f5db0f99a5da3175e688fc5bb262d7fa9e96bfb0d38f8489e16c") true
    stubWide_holds (fun _ h => by cases h) (by kernel_rfl) (fun _ h => by cases h) stubWide_row_tie rfl ⟨rfl, rfl⟩ (by kernel_rfl) rfl
    (fun f fn hf hfn => by
      obtain rfl : f = 3 := Option.some.inj ((show Tryd.prog.funcNamed Rows.stubWideRow.func = some 3 by kernel_rfl).symm.trans hf) |>.symm
      obtain rfl : fn = Tryd.f3 := (Option.some.inj (Tryd.func3.symm.trans hfn)).symm
      exact ⟨by kernel_rfl, fun j t ht => by
        rw [Tryd.params3] at ht
        have hm : t ∈ [3, 3] := by simpa using Array.mem_of_getElem? ht
        have hall : ([3, 3].all fun u => !Tryd.prog.wantsStandIn u) = true := by kernel_rfl
        exact (show Tryd.prog.wantsStandIn t = false by simpa using List.all_eq_true.1 hall t hm)⟩)
    (by kernel_rfl)
end Go.Proofs.YtbpjoeopnaggoaaDoor
