/- TellNumbers: the given statement, proved. No condition. -/
import Derived.Test.YtafleenajffpkaaDoorTlTellNumbers
import Derived.Test.YtafleenajffpkaaDoorTlSeat
import Derived.Test.YtafleenajffpkaaDoorCards
import Derived.Test.YtafleenajffpkaaDoorTie
set_option maxRecDepth 100000
namespace Go.Proofs.YtafleenajffpkaaDoor
open Go.Pv Go.Proofs.Sh

theorem nat_u32 {n : Int} (h : (Lit.int .u32 n).wf = true) : ∃ a : Nat, n = (a : Int) ∧ a < 4294967296 := by
  simp [Lit.wf] at h
  obtain ⟨h1, h2⟩ := h
  have h3 : IntKind.u32.min = 0 := by decide
  have h4 : IntKind.u32.max = 4294967295 := by decide
  exact ⟨n.toNat, by omega, by omega⟩
theorem tellNumbers_lifted (os : Os) (started : os.Started) (H : Type) (enc : TypeId × Value → H) :
    ReturnsInHanded {} Tryd.checked os 7 .any (fun w args => (Rows.tellNumbersSpec.pre enc Tryd.prog Tryd.f7 [] false w args ∧ laidMetH Tryd.prog laidV w) ∧ sizedMet enc Tryd.prog Tryd.f7 (OpenSpec.ofChange Rows.tellNumbersSpec) false w args)
      (Rows.tellNumbersSpec.post enc Tryd.prog Tryd.f7 false true false false) := by
  refine lawInLaid (C := Tryd.checked) (t := 4) (Gs := [gOt, one1 (gInt .u32), one1 (gInt .u32)]) own started (by kernel_rfl) Tryd.func7
    (ChangeSpec.witness_shaped (enc := enc) (C := Tryd.checked) (os := os) (X := fun w _ => laidMetH Tryd.prog laidV w) false (World.doorLaid Tryd.prog 400 os) #[.agg #[.int .i64 0, .int .i64 0, .int .i64 0, .slice none 0 0, .string ⟨#[]⟩, .slice none 0 0], .int .u32 0, .int .u32 0] 8 rfl (World.shaped_of_RefB (by kernel_rfl) (by kernel_rfl)) (by kernel_rfl) (by kernel_rfl) (by kernel_rfl) (door_met os _))
    (.cons 25 _ _ _ decOt (.cons 45 _ _ _ (.int (by kernel_rfl)) (.cons 45 _ _ _ (.int (by kernel_rfl)) .nil))) rfl rfl Tryd.underlying4 ?_ laidOut (by kernel_rfl) glOf ?_
  · intro ds h
    match ds, h with
    | [_, _, _], _ => exact ⟨rfl, rfl, rfl⟩
  · rintro _ ⟨x0, _, rfl, hx0, ⟨_, _, rfl, ⟨x1, hx1, w1⟩, ⟨_, _, rfl, ⟨x2, hx2, w2⟩, rfl⟩⟩⟩
    obtain ⟨x0, rfl⟩ := ot_of hx0; cases hx1; cases hx2
    obtain ⟨y1, rfl, hy1⟩ := nat_u32 w1
    obtain ⟨y2, rfl, hy2⟩ := nat_u32 w2
    exact tellNumbers_fs x0 y1 y2 hy1 hy2

theorem tellNumbers_holds : Rows.TellNumbersSaid :=
  OpenClaim.holds_of_wide 7 Tryd.f7 rfl rfl rfl rfl rfl rfl rfl ⟨rfl, rfl, rfl, rfl, rfl⟩ rfl rfl rfl rfl rfl (by kernel_rfl) Tryd.func7 (by kernel_rfl)
    (of_decide_eq_true (by kernel_rfl)) (by unfold Func.isWrapper; first | (rw [if_pos (by decide +kernel)]; kernel_rfl) | (rw [if_neg (by decide +kernel)]; exact ⟨rfl, rfl⟩))
    (fun os started H enc _ => tellNumbers_lifted os started H enc)

theorem tellNumbers_card_holds : Rows.TellNumbersCardSaid :=
  Claim7.holds_tied_plain_at .later [] [.data, .listed, .data, .data] true (true, "5875827545007c748aecefaf921826f4ca07b7c037740d3e78f6fc75a262a6d3") false
    tellNumbers_holds (fun _ h => by cases h) (by kernel_rfl) (fun _ h => by cases h) tellNumbers_row_tie rfl ⟨rfl, rfl⟩ (by kernel_rfl) rfl
    (fun f fn hf hfn => by
      obtain rfl : f = 7 := Option.some.inj ((show Tryd.prog.funcNamed Rows.tellNumbersRow.func = some 7 by kernel_rfl).symm.trans hf) |>.symm
      obtain rfl : fn = Tryd.f7 := (Option.some.inj (Tryd.func7.symm.trans hfn)).symm
      exact ⟨by kernel_rfl, fun j t ht => by
        rw [Tryd.params7] at ht
        have hm : t ∈ [25, 45, 45] := by simpa using Array.mem_of_getElem? ht
        have hall : ([25, 45, 45].all fun u => !Tryd.prog.wantsStandIn u) = true := by kernel_rfl
        exact (show Tryd.prog.wantsStandIn t = false by simpa using List.all_eq_true.1 hall t hm)⟩)
    (by kernel_rfl)
end Go.Proofs.YtafleenajffpkaaDoor
