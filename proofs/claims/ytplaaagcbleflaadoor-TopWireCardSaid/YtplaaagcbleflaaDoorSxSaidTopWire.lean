/- TopWire: the given statement, proved. No condition. -/
import Derived.Test.YtplaaagcbleflaaDoorTwX
import Derived.Test.YtplaaagcbleflaaDoorSxSeatL
import Derived.Test.YtplaaagcbleflaaDoorCards
import Derived.Test.YtplaaagcbleflaaDoorTie
set_option maxRecDepth 100000
namespace Go.Proofs.YtplaaagcbleflaaDoor
open Go.Pv Go.Proofs.Sh

theorem topWire_lifted (os : Os) (started : os.Started) (H : Type) (enc : TypeId × Value → H) :
    ReturnsInHanded {} Tryd.checked os 5 .any (fun w args => (Rows.topWireSpec.pre enc Tryd.prog Tryd.f5 [] false w args ∧ laidMetH Tryd.prog laidV w) ∧ sizedMet enc Tryd.prog Tryd.f5 (OpenSpec.ofChange Rows.topWireSpec) false w args)
      (Rows.topWireSpec.post enc Tryd.prog Tryd.f5 false true false false) := by
  refine lawInLaid (C := Tryd.checked) (t := 4) (Gs := [one1 gBool, one1 (gSl 4 gRq), one1 (gSl 1 (one1 (gInt .u8))), one1 (gInt .u8)]) own started (by kernel_rfl) Tryd.func5
    (ChangeSpec.witness_shaped (enc := enc) (C := Tryd.checked) (os := os) (X := fun w _ => laidMetH Tryd.prog laidV w) false (World.doorLaid Tryd.prog 400 os) #[.bool false, .slice none 0 0, .slice none 0 0, .int .u8 0] 8 rfl (World.shaped_of_RefB (by kernel_rfl) (by kernel_rfl)) (by kernel_rfl) (by kernel_rfl) (by kernel_rfl) (door_met os _))
    (.cons 4 _ _ _ (.bool (by kernel_rfl)) (.cons 38 _ _ _ decRqs (.cons 34 _ _ _ decBys (.cons 5 _ _ _ (.int (by kernel_rfl)) .nil)))) rfl rfl Tryd.underlying4 ?_ laidOut (by kernel_rfl) glOf ?_
  · intro ds h
    match ds, h with
    | [_, _, _, _], _ => exact ⟨rfl, rfl, rfl⟩
  · rintro _ ⟨_, _, rfl, ⟨x0, hx0⟩, ⟨x1, _, rfl, hx1, ⟨x2, _, rfl, hx2, ⟨_, _, rfl, ⟨x3, hx3, w3⟩, rfl⟩⟩⟩⟩
    cases hx0; obtain ⟨x1, rfl⟩ := rqs_of hx1; obtain ⟨x2, hu2, hl2, rfl⟩ := bys_of hx2; cases hx3
    obtain ⟨y3, rfl, hy3⟩ := nat_u8 w3
    exact topWireX_fs x0 x1 x2 y3  hu2 hl2 hy3


theorem topWire_holds : Rows.TopWireSaid :=
  OpenClaim.holds_of_wide 5 Tryd.f5 rfl rfl rfl rfl rfl rfl rfl ⟨rfl, rfl, rfl, rfl, rfl⟩ rfl rfl rfl rfl rfl (by kernel_rfl) Tryd.func5 (by kernel_rfl)
    (of_decide_eq_true (by kernel_rfl)) (by unfold Func.isWrapper; first | (rw [if_pos (by decide +kernel)]; kernel_rfl) | (rw [if_neg (by decide +kernel)]; exact ⟨rfl, rfl⟩))
    (fun os started H enc _ => topWire_lifted os started H enc)

theorem topWire_card_holds : Rows.TopWireCardSaid :=
  Claim7.holds_tied_plain_at .later [] [.data, .listed, .data, .data] true (true, "b3c43b2d62158024e77209a9bbe207a23b9b11c8b51bdb8807d52182dffb55c2") true
    topWire_holds (fun _ h => by cases h) (by kernel_rfl) (fun _ h => by cases h) topWire_row_tie rfl ⟨rfl, rfl⟩ (by kernel_rfl) rfl
    (fun f fn hf hfn => by
      obtain rfl : f = 5 := Option.some.inj ((show Tryd.prog.funcNamed Rows.topWireRow.func = some 5 by kernel_rfl).symm.trans hf) |>.symm
      obtain rfl : fn = Tryd.f5 := (Option.some.inj (Tryd.func5.symm.trans hfn)).symm
      exact ⟨by kernel_rfl, fun j t ht => by
        rw [Tryd.params5] at ht
        have hm : t ∈ [4, 38, 34, 5] := by simpa using Array.mem_of_getElem? ht
        have hall : ([4, 38, 34, 5].all fun u => !Tryd.prog.wantsStandIn u) = true := by kernel_rfl
        exact (show Tryd.prog.wantsStandIn t = false by simpa using List.all_eq_true.1 hall t hm)⟩)
    (by kernel_rfl)
end Go.Proofs.YtplaaagcbleflaaDoor
