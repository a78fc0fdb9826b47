/- StreamFeeds: the given statement, proved. No condition. -/
import Derived.Test.YtplaaagcbleflaaDoorSxDies
import Derived.Test.YtplaaagcbleflaaDoorSxSeat
import Derived.Test.YtplaaagcbleflaaDoorCards
import Derived.Test.YtplaaagcbleflaaDoorTie
set_option maxRecDepth 100000
namespace Go.Proofs.YtplaaagcbleflaaDoor
open Go.Pv Go.Proofs.Sh

theorem streamFeeds_lifted (os : Os) (started : os.Started) (H : Type) (enc : TypeId × Value → H) :
    ReturnsInHanded {} Tryd.checked os 6 .any (fun w args => (Rows.streamFeedsSpec.pre enc Tryd.prog Tryd.f6 [] false w args ∧ laidMetH Tryd.prog laidV w) ∧ sizedMet enc Tryd.prog Tryd.f6 (OpenSpec.ofChange Rows.streamFeedsSpec) false w args)
      (Rows.streamFeedsSpec.post enc Tryd.prog Tryd.f6 false true false false) := by
  refine lawInLaid (C := Tryd.checked) (t := 4) (Gs := [one1 gStr]) own started (by kernel_rfl) Tryd.func6
    (ChangeSpec.witness_shaped (enc := enc) (C := Tryd.checked) (os := os) (X := fun w _ => laidMetH Tryd.prog laidV w) false (World.doorLaid Tryd.prog 400 os) #[.string ⟨#[]⟩] 8 rfl (World.shaped_of_RefB (by kernel_rfl) (by kernel_rfl)) (by kernel_rfl) (by kernel_rfl) (by kernel_rfl) (door_met os _))
    (.cons 9 _ _ _ (.str (by kernel_rfl)) .nil) rfl rfl Tryd.underlying4 ?_ laidOut (by kernel_rfl) glOf ?_
  · intro ds h
    match ds, h with
    | [_], _ => exact ⟨rfl, rfl, rfl⟩
  · rintro _ ⟨_, _, rfl, ⟨x0, hx0, -⟩, rfl⟩
    cases hx0
    exact streamFeeds_fs x0 


theorem streamFeeds_holds : Rows.StreamFeedsSaid :=
  OpenClaim.holds_of_wide 6 Tryd.f6 rfl rfl rfl rfl rfl rfl rfl ⟨rfl, rfl, rfl, rfl, rfl⟩ rfl rfl rfl rfl rfl (by kernel_rfl) Tryd.func6 (by kernel_rfl)
    (of_decide_eq_true (by kernel_rfl)) (by unfold Func.isWrapper; first | (rw [if_pos (by decide +kernel)]; kernel_rfl) | (rw [if_neg (by decide +kernel)]; exact ⟨rfl, rfl⟩))
    (fun os started H enc _ => streamFeeds_lifted os started H enc)

theorem streamFeeds_card_holds : Rows.StreamFeedsCardSaid :=
  Claim7.holds_tied_plain_at .later [] [.data, .listed, .data, .data] true (true, "b3c43b2d62158024e77209a9bbe207a23b9b11c8b51bdb8807d52182dffb55c2") true
    streamFeeds_holds (fun _ h => by cases h) (by kernel_rfl) (fun _ h => by cases h) streamFeeds_row_tie rfl ⟨rfl, rfl⟩ (by kernel_rfl) rfl
    (fun f fn hf hfn => by
      obtain rfl : f = 6 := Option.some.inj ((show Tryd.prog.funcNamed Rows.streamFeedsRow.func = some 6 by kernel_rfl).symm.trans hf) |>.symm
      obtain rfl : fn = Tryd.f6 := (Option.some.inj (Tryd.func6.symm.trans hfn)).symm
      exact ⟨by kernel_rfl, fun j t ht => by
        rw [Tryd.params6] at ht
        have hm : t ∈ [9] := by simpa using Array.mem_of_getElem? ht
        have hall : ([9].all fun u => !Tryd.prog.wantsStandIn u) = true := by kernel_rfl
        exact (show Tryd.prog.wantsStandIn t = false by simpa using List.all_eq_true.1 hall t hm)⟩)
    (by kernel_rfl)
end Go.Proofs.YtplaaagcbleflaaDoor
