/- StreamParts: the given statement, proved. No condition. -/
import Derived.Test.YtplaaagcbleflaaDoorSxDies
import Derived.Test.YtplaaagcbleflaaDoorSxSeat
import Derived.Test.YtplaaagcbleflaaDoorCards
import Derived.Test.YtplaaagcbleflaaDoorTie
set_option maxRecDepth 100000
namespace Go.Proofs.YtplaaagcbleflaaDoor
open Go.Pv Go.Proofs.Sh

theorem streamParts_lifted (os : Os) (started : os.Started) (H : Type) (enc : TypeId × Value → H) :
    ReturnsInHanded {} Tryd.checked os 7 .any (fun w args => (Rows.streamPartsSpec.pre enc Tryd.prog Tryd.f7 [] false w args ∧ laidMetH Tryd.prog laidV w) ∧ sizedMet enc Tryd.prog Tryd.f7 (OpenSpec.ofChange Rows.streamPartsSpec) false w args)
      (Rows.streamPartsSpec.post enc Tryd.prog Tryd.f7 false true false false) := by
  refine lawInLaid (C := Tryd.checked) (t := 4) (Gs := [one1 gStr, one1 (gSl 1 (one1 (gInt .u8)))]) own started (by kernel_rfl) Tryd.func7
    (ChangeSpec.witness_shaped (enc := enc) (C := Tryd.checked) (os := os) (X := fun w _ => laidMetH Tryd.prog laidV w) false (World.doorLaid Tryd.prog 400 os) #[.string ⟨#[]⟩, .slice none 0 0] 8 rfl (World.shaped_of_RefB (by kernel_rfl) (by kernel_rfl)) (by kernel_rfl) (by kernel_rfl) (by kernel_rfl) (door_met os _))
    (.cons 9 _ _ _ (.str (by kernel_rfl)) (.cons 34 _ _ _ decBys .nil)) rfl rfl Tryd.underlying4 ?_ laidOut (by kernel_rfl) glOf ?_
  · intro ds h
    match ds, h with
    | [_, _], _ => exact ⟨rfl, rfl, rfl⟩
  · rintro _ ⟨_, _, rfl, ⟨x0, hx0, -⟩, ⟨x1, _, rfl, hx1, rfl⟩⟩
    cases hx0; obtain ⟨x1, hu1, hl1, rfl⟩ := bys_of hx1
    exact streamParts_fs x0 x1 hu1 hl1


theorem streamParts_holds : Rows.StreamPartsSaid :=
  OpenClaim.holds_of_wide 7 Tryd.f7 rfl rfl rfl rfl rfl rfl rfl ⟨rfl, rfl, rfl, rfl, rfl⟩ rfl rfl rfl rfl rfl (by kernel_rfl) Tryd.func7 (by kernel_rfl)
    (of_decide_eq_true (by kernel_rfl)) (by unfold Func.isWrapper; first | (rw [if_pos (by decide +kernel)]; kernel_rfl) | (rw [if_neg (by decide +kernel)]; exact ⟨rfl, rfl⟩))
    (fun os started H enc _ => streamParts_lifted os started H enc)

theorem streamParts_card_holds : Rows.StreamPartsCardSaid :=
  Claim7.holds_tied_plain_at .later [] [.data, .listed, .data, .data] true (true, "b3c43b2d62158024e77209a9bbe207a23b9b11c8b51bdb8807d52182dffb55c2") true
    streamParts_holds (fun _ h => by cases h) (by kernel_rfl) (fun _ h => by cases h) streamParts_row_tie rfl ⟨rfl, rfl⟩ (by kernel_rfl) rfl
    (fun f fn hf hfn => by
      obtain rfl : f = 7 := Option.some.inj ((show Tryd.prog.funcNamed Rows.streamPartsRow.func = some 7 by kernel_rfl).symm.trans hf) |>.symm
      obtain rfl : fn = Tryd.f7 := (Option.some.inj (Tryd.func7.symm.trans hfn)).symm
      exact ⟨by kernel_rfl, fun j t ht => by
        rw [Tryd.params7] at ht
        have hm : t ∈ [9, 34] := by simpa using Array.mem_of_getElem? ht
        have hall : ([9, 34].all fun u => !Tryd.prog.wantsStandIn u) = true := by kernel_rfl
        exact (show Tryd.prog.wantsStandIn t = false by simpa using List.all_eq_true.1 hall t hm)⟩)
    (by kernel_rfl)
end Go.Proofs.YtplaaagcbleflaaDoor
