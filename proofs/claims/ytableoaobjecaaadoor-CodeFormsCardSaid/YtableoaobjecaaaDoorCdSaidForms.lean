/- CodeForms: the given statement, proved. No condition. -/
import Derived.Test.YtableoaobjecaaaDoorCdSaidBase
import Derived.Test.YtableoaobjecaaaDoorCdRunForms
import Derived.Test.YtableoaobjecaaaDoorCards
import Derived.Test.YtableoaobjecaaaDoorTie
set_option maxRecDepth 100000
namespace Go.Proofs.YtableoaobjecaaaDoor
open Go.Pv Go.Proofs.Cd
theorem codeForms_fs (n : Int) : Fsp Tryd.prog 7 [] 0 [.int .i64 n] [] 0 (.bool true) := by
  by_cases h1 : n < 1
  · exact lawForms_out n (.inl (by simpa using h1))
  by_cases h2 : 58 < n
  · exact lawForms_out n (.inr ⟨by simpa using h1, by simpa using h2⟩)
  · obtain ⟨k, rfl⟩ := Int.eq_ofNat_of_zero_le (show 0 ≤ n by omega)
    exact runForms k (by omega) (by omega)

theorem codeForms_lifted (os : Os) (started : os.Started) (H : Type) (enc : TypeId × Value → H) :
    ReturnsInHanded {} Tryd.checked os 7 .any (fun w args => (Rows.codeFormsSpec.pre enc Tryd.prog Tryd.f7 [] false w args ∧ laidMetH Tryd.prog laid2 w) ∧ sizedMet enc Tryd.prog Tryd.f7 (OpenSpec.ofChange Rows.codeFormsSpec) false w args)
      (Rows.codeFormsSpec.post enc Tryd.prog Tryd.f7 false true false false) := by
  refine lawInLaid (C := Tryd.checked) (t := 4) (Gs := [one1 (gInt .i64)]) own started (by kernel_rfl) Tryd.func7
    (ChangeSpec.witness_shaped (enc := enc) (C := Tryd.checked) (os := os) (X := fun w _ => laidMetH Tryd.prog laid2 w) false (World.doorLaid Tryd.prog 400 os) #[.int .i64 0] 8 rfl (World.shaped_of_RefB (by kernel_rfl) (by kernel_rfl)) (by kernel_rfl) (by kernel_rfl) (by kernel_rfl) (door_met os _))
    (.cons 3 _ _ _ (.int Tryd.underlying3) .nil) rfl rfl Tryd.underlying4 ?_ laidOut (by kernel_rfl) (glOf (by kernel_rfl) (by simp [laid2])) ?_
  · intro ds h
    match ds, h with
    | [_], _ => exact ⟨rfl, rfl, rfl⟩
  · rintro _ ⟨_, _, rfl, ⟨x0, hx0, -⟩, rfl⟩
    cases hx0
    exact codeForms_fs x0

theorem codeForms_holds : Rows.CodeFormsSaid :=
  OpenClaim.holds_of_wide 7 Tryd.f7 rfl rfl rfl rfl rfl rfl rfl ⟨rfl, rfl, rfl, rfl, rfl⟩ rfl rfl rfl rfl rfl (by kernel_rfl) Tryd.func7 (by kernel_rfl)
    (of_decide_eq_true (by kernel_rfl)) (by unfold Func.isWrapper; first | (rw [if_pos (by decide +kernel)]; kernel_rfl) | (rw [if_neg (by decide +kernel)]; exact ⟨rfl, rfl⟩))
    (fun os started H enc _ => codeForms_lifted os started H enc)

theorem codeForms_card_holds : Rows.CodeFormsCardSaid :=
  Claim7.holds_tied_plain_at .later [] [.listed, .data] true (true, "9e723c01afe4b273c7a5f3a67ec4233a8002f44a12126a14a2c7eacc84208c85") false
    codeForms_holds (fun _ h => by cases h) (by kernel_rfl) (fun _ h => by cases h) codeForms_row_tie rfl ⟨rfl, rfl⟩ (by kernel_rfl) rfl
    (fun f fn hf hfn => by
      obtain rfl : f = 7 := Option.some.inj ((show Tryd.prog.funcNamed Rows.codeFormsRow.func = some 7 by kernel_rfl).symm.trans hf) |>.symm
      obtain rfl : fn = Tryd.f7 := (Option.some.inj (Tryd.func7.symm.trans hfn)).symm
      exact ⟨by kernel_rfl, fun j t ht => by
        rw [Tryd.params7] at ht
        have hm : t ∈ [3] := by simpa using Array.mem_of_getElem? ht
        have hall : ([3].all fun u => !Tryd.prog.wantsStandIn u) = true := by kernel_rfl
        exact (show Tryd.prog.wantsStandIn t = false by simpa using List.all_eq_true.1 hall t hm)⟩)
    (by kernel_rfl)
end Go.Proofs.YtableoaobjecaaaDoor
