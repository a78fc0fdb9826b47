/- CodeAlone: the given statement, proved. No condition. -/
import Derived.Test.YtableoaobjecaaaDoorCdSaidBase
import Derived.Test.YtableoaobjecaaaDoorCdLaw2
import Derived.Test.YtableoaobjecaaaDoorCards
import Derived.Test.YtableoaobjecaaaDoorTie
set_option maxRecDepth 100000
namespace Go.Proofs.YtableoaobjecaaaDoor
open Go.Pv Go.Proofs.Cd

theorem codeAlone_lifted (os : Os) (started : os.Started) (H : Type) (enc : TypeId × Value → H) :
    ReturnsInHanded {} Tryd.checked os 6 .any (fun w args => (Rows.codeAloneSpec.pre enc Tryd.prog Tryd.f6 [] false w args ∧ laidMetH Tryd.prog laid2 w) ∧ sizedMet enc Tryd.prog Tryd.f6 (OpenSpec.ofChange Rows.codeAloneSpec) false w args)
      (Rows.codeAloneSpec.post enc Tryd.prog Tryd.f6 false true false false) := by
  refine lawInLaid (C := Tryd.checked) (t := 4) (Gs := [one1 (gInt .i64), one1 (gInt .i64)]) own started (by kernel_rfl) Tryd.func6
    (ChangeSpec.witness_shaped (enc := enc) (C := Tryd.checked) (os := os) (X := fun w _ => laidMetH Tryd.prog laid2 w) false (World.doorLaid Tryd.prog 400 os) #[.int .i64 0, .int .i64 0] 8 rfl (World.shaped_of_RefB (by kernel_rfl) (by kernel_rfl)) (by kernel_rfl) (by kernel_rfl) (by kernel_rfl) (door_met os _))
    (.cons 3 _ _ _ (.int Tryd.underlying3) (.cons 3 _ _ _ (.int Tryd.underlying3) .nil)) rfl rfl Tryd.underlying4 ?_ laidOut (by kernel_rfl) (glOf (by kernel_rfl) (by simp [laid2])) ?_
  · intro ds h
    match ds, h with
    | [_, _], _ => exact ⟨rfl, rfl, rfl⟩
  · rintro _ ⟨_, _, rfl, ⟨x0, hx0, -⟩, ⟨_, _, rfl, ⟨x1, hx1, -⟩, rfl⟩⟩
    cases hx0; cases hx1
    exact Go.Proofs.Cd.codeAlone_fs x0 x1

theorem codeAlone_holds : Rows.CodeAloneSaid :=
  OpenClaim.holds_of_wide 6 Tryd.f6 rfl rfl rfl rfl rfl rfl rfl ⟨rfl, rfl, rfl, rfl, rfl⟩ rfl rfl rfl rfl rfl (by kernel_rfl) Tryd.func6 (by kernel_rfl)
    (of_decide_eq_true (by kernel_rfl)) (by unfold Func.isWrapper; first | (rw [if_pos (by decide +kernel)]; kernel_rfl) | (rw [if_neg (by decide +kernel)]; exact ⟨rfl, rfl⟩))
    (fun os started H enc _ => codeAlone_lifted os started H enc)

theorem codeAlone_card_holds : Rows.CodeAloneCardSaid :=
  Claim7.holds_tied_plain_at .later [] [.listed, .data] true (true, "9e723c01afe4b273c7a5f3a67ec4233a8002f44a12126a14a2c7eacc84208c85") false
    codeAlone_holds (fun _ h => by cases h) (by kernel_rfl) (fun _ h => by cases h) codeAlone_row_tie rfl ⟨rfl, rfl⟩ (by kernel_rfl) rfl
    (fun f fn hf hfn => by
      obtain rfl : f = 6 := Option.some.inj ((show Tryd.prog.funcNamed Rows.codeAloneRow.func = some 6 by kernel_rfl).symm.trans hf) |>.symm
      obtain rfl : fn = Tryd.f6 := (Option.some.inj (Tryd.func6.symm.trans hfn)).symm
      exact ⟨by kernel_rfl, fun j t ht => by
        rw [Tryd.params6] at ht
        have hm : t ∈ [3, 3] := by simpa using Array.mem_of_getElem? ht
        have hall : ([3, 3].all fun u => !Tryd.prog.wantsStandIn u) = true := by kernel_rfl
        exact (show Tryd.prog.wantsStandIn t = false by simpa using List.all_eq_true.1 hall t hm)⟩)
    (by kernel_rfl)
end Go.Proofs.YtableoaobjecaaaDoor
