/- TellCuts: the given statement, proved. No condition. -/
import Derived.Test.YtafleenajffpkaaDoorTlTellCuts
import Derived.Test.YtafleenajffpkaaDoorTlSeat
import Derived.Test.YtafleenajffpkaaDoorCards
import Derived.Test.YtafleenajffpkaaDoorTie
set_option maxRecDepth 100000
namespace Go.Proofs.YtafleenajffpkaaDoor
open Go.Pv Go.Proofs.Sh

theorem nat_u16 {n : Int} (h : (Lit.int .u16 n).wf = true) : ∃ a : Nat, n = (a : Int) ∧ a < 65536 := by
  simp [Lit.wf] at h
  obtain ⟨h1, h2⟩ := h
  have h3 : IntKind.u16.min = 0 := by decide
  have h4 : IntKind.u16.max = 65535 := by decide
  exact ⟨n.toNat, by omega, by omega⟩
theorem tellCuts_lifted (os : Os) (started : os.Started) (H : Type) (enc : TypeId × Value → H) :
    ReturnsInHanded {} Tryd.checked os 6 .any (fun w args => (Rows.tellCutsSpec.pre enc Tryd.prog Tryd.f6 [] false w args ∧ laidMetH Tryd.prog laidV w) ∧ sizedMet enc Tryd.prog Tryd.f6 (OpenSpec.ofChange Rows.tellCutsSpec) false w args)
      (Rows.tellCutsSpec.post enc Tryd.prog Tryd.f6 false true false false) := by
  refine lawInLaid (C := Tryd.checked) (t := 4) (Gs := [one1 (gInt .i64), gOt, one1 (gInt .u16)]) own started (by kernel_rfl) Tryd.func6
    (ChangeSpec.witness_shaped (enc := enc) (C := Tryd.checked) (os := os) (X := fun w _ => laidMetH Tryd.prog laidV w) false (World.doorLaid Tryd.prog 400 os) #[.int .i64 0, .agg #[.int .i64 0, .int .i64 0, .int .i64 0, .slice none 0 0, .string ⟨#[]⟩, .slice none 0 0], .int .u16 0] 8 rfl (World.shaped_of_RefB (by kernel_rfl) (by kernel_rfl)) (by kernel_rfl) (by kernel_rfl) (by kernel_rfl) (door_met os _))
    (.cons 3 _ _ _ (.int (by kernel_rfl)) (.cons 25 _ _ _ decOt (.cons 43 _ _ _ (.int (by kernel_rfl)) .nil))) rfl rfl Tryd.underlying4 ?_ laidOut (by kernel_rfl) glOf ?_
  · intro ds h
    match ds, h with
    | [_, _, _], _ => exact ⟨rfl, rfl, rfl⟩
  · rintro _ ⟨_, _, rfl, ⟨x0, hx0, -⟩, ⟨x1, _, rfl, hx1, ⟨_, _, rfl, ⟨x2, hx2, w2⟩, rfl⟩⟩⟩
    cases hx0; obtain ⟨x1, rfl⟩ := ot_of hx1; cases hx2
    obtain ⟨y2, rfl, hy2⟩ := nat_u16 w2
    exact tellCuts_fs x0 x1 y2 hy2

theorem tellCuts_holds : Rows.TellCutsSaid :=
  OpenClaim.holds_of_wide 6 Tryd.f6 rfl rfl rfl rfl rfl rfl rfl ⟨rfl, rfl, rfl, rfl, rfl⟩ rfl rfl rfl rfl rfl (by kernel_rfl) Tryd.func6 (by kernel_rfl)
    (of_decide_eq_true (by kernel_rfl)) (by unfold Func.isWrapper; first | (rw [if_pos (by decide +kernel)]; kernel_rfl) | (rw [if_neg (by decide +kernel)]; exact ⟨rfl, rfl⟩))
    (fun os started H enc _ => tellCuts_lifted os started H enc)

theorem tellCuts_card_holds : Rows.TellCutsCardSaid :=
  Claim7.holds_tied_plain_at .later [] [.data, .listed, .data, .data] true (true, "5875827545007c748aecefaf921826f4ca07b7c037740d3e78f6fc75a262a6d3") false
    tellCuts_holds (fun _ h => by cases h) (by kernel_rfl) (fun _ h => by cases h) tellCuts_row_tie rfl ⟨rfl, rfl⟩ (by kernel_rfl) rfl
    (fun f fn hf hfn => by
      obtain rfl : f = 6 := Option.some.inj ((show Tryd.prog.funcNamed Rows.tellCutsRow.func = some 6 by kernel_rfl).symm.trans hf) |>.symm
      obtain rfl : fn = Tryd.f6 := (Option.some.inj (Tryd.func6.symm.trans hfn)).symm
      exact ⟨by kernel_rfl, fun j t ht => by
        rw [Tryd.params6] at ht
        have hm : t ∈ [3, 25, 43] := by simpa using Array.mem_of_getElem? ht
        have hall : ([3, 25, 43].all fun u => !Tryd.prog.wantsStandIn u) = true := by kernel_rfl
        exact (show Tryd.prog.wantsStandIn t = false by simpa using List.all_eq_true.1 hall t hm)⟩)
    (by kernel_rfl)
end Go.Proofs.YtafleenajffpkaaDoor
