/- TellSame: the given statement, proved. No condition. -/
import Derived.Test.YtafleenajffpkaaDoorTlTellSame
import Derived.Test.YtafleenajffpkaaDoorTlSeat
import Derived.Test.YtafleenajffpkaaDoorCards
import Derived.Test.YtafleenajffpkaaDoorTie
set_option maxRecDepth 100000
namespace Go.Proofs.YtafleenajffpkaaDoor
open Go.Pv Go.Proofs.Sh

theorem ot_of2 {p : PV} (h : gOt p) : ∃ r : Ot, p = r.pv ∧ r.Wf := by
  obtain ⟨_, rfl, _, _, rfl, ⟨k, hk, wk⟩, _, _, rfl, ⟨c, hc, wc⟩, _, _, rfl, ⟨q, hq, wq⟩, _, _, rfl, hN, _, _, rfl, ⟨b, hb, -⟩, _, _, rfl, hL, rfl⟩ := h
  cases hk; cases hc; cases hq; cases hb
  obtain ⟨n, rfl, -⟩ := ints_of hN
  obtain ⟨l, rfl, -⟩ := ints_of hL
  exact ⟨⟨k, c, q, n, b, l⟩, rfl, wk, wc, wq⟩
theorem tellSame_lifted (os : Os) (started : os.Started) (H : Type) (enc : TypeId × Value → H) :
    ReturnsInHanded {} Tryd.checked os 9 .any (fun w args => (Rows.tellSameSpec.pre enc Tryd.prog Tryd.f9 [] false w args ∧ laidMetH Tryd.prog laidV w) ∧ sizedMet enc Tryd.prog Tryd.f9 (OpenSpec.ofChange Rows.tellSameSpec) false w args)
      (Rows.tellSameSpec.post enc Tryd.prog Tryd.f9 false true false false) := by
  refine lawInLaid (C := Tryd.checked) (t := 4) (Gs := [gOt, gOt]) own started (by kernel_rfl) Tryd.func9
    (ChangeSpec.witness_shaped (enc := enc) (C := Tryd.checked) (os := os) (X := fun w _ => laidMetH Tryd.prog laidV w) false (World.doorLaid Tryd.prog 400 os) #[.agg #[.int .i64 0, .int .i64 0, .int .i64 0, .slice none 0 0, .string ⟨#[]⟩, .slice none 0 0], .agg #[.int .i64 0, .int .i64 0, .int .i64 0, .slice none 0 0, .string ⟨#[]⟩, .slice none 0 0]] 8 rfl (World.shaped_of_RefB (by kernel_rfl) (by kernel_rfl)) (by kernel_rfl) (by kernel_rfl) (by kernel_rfl) (door_met os _))
    (.cons 25 _ _ _ decOt (.cons 25 _ _ _ decOt .nil)) rfl rfl Tryd.underlying4 ?_ laidOut (by kernel_rfl) glOf ?_
  · intro ds h
    match ds, h with
    | [_, _], _ => exact ⟨rfl, rfl, rfl⟩
  · rintro _ ⟨x0, _, rfl, hx0, ⟨x1, _, rfl, hx1, rfl⟩⟩
    obtain ⟨x0, rfl, wx0⟩ := ot_of2 hx0; obtain ⟨x1, rfl, wx1⟩ := ot_of2 hx1
    exact tellSameLaw_fs x0 x1 wx0 wx1

theorem tellSame_holds : Rows.TellSameSaid :=
  OpenClaim.holds_of_wide 9 Tryd.f9 rfl rfl rfl rfl rfl rfl rfl ⟨rfl, rfl, rfl, rfl, rfl⟩ rfl rfl rfl rfl rfl (by kernel_rfl) Tryd.func9 (by kernel_rfl)
    (of_decide_eq_true (by kernel_rfl)) (by unfold Func.isWrapper; first | (rw [if_pos (by decide +kernel)]; kernel_rfl) | (rw [if_neg (by decide +kernel)]; exact ⟨rfl, rfl⟩))
    (fun os started H enc _ => tellSame_lifted os started H enc)

theorem tellSame_card_holds : Rows.TellSameCardSaid :=
  Claim7.holds_tied_plain_at .later [] [.data, .listed, .data, .data] true (true, "5875827545007c748aecefaf921826f4ca07b7c037740d3e78f6fc75a262a6d3") false
    tellSame_holds (fun _ h => by cases h) (by kernel_rfl) (fun _ h => by cases h) tellSame_row_tie rfl ⟨rfl, rfl⟩ (by kernel_rfl) rfl
    (fun f fn hf hfn => by
      obtain rfl : f = 9 := Option.some.inj ((show Tryd.prog.funcNamed Rows.tellSameRow.func = some 9 by kernel_rfl).symm.trans hf) |>.symm
      obtain rfl : fn = Tryd.f9 := (Option.some.inj (Tryd.func9.symm.trans hfn)).symm
      exact ⟨by kernel_rfl, fun j t ht => by
        rw [Tryd.params9] at ht
        have hm : t ∈ [25, 25] := by simpa using Array.mem_of_getElem? ht
        have hall : ([25, 25].all fun u => !Tryd.prog.wantsStandIn u) = true := by kernel_rfl
        exact (show Tryd.prog.wantsStandIn t = false by simpa using List.all_eq_true.1 hall t hm)⟩)
    (by kernel_rfl)
end Go.Proofs.YtafleenajffpkaaDoor
