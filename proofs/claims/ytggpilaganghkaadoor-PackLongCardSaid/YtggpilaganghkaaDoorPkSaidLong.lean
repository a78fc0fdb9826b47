/- PackLong: the given statement, proved. No condition. -/
import Derived.Test.YtggpilaganghkaaDoorPkLong
import Derived.Test.YtggpilaganghkaaDoorPkBase
import Derived.Test.YtggpilaganghkaaDoorCards
import Derived.Test.YtggpilaganghkaaDoorTie
set_option maxRecDepth 100000
namespace Go.Proofs.YtggpilaganghkaaDoor
open Go.Pv Go.Proofs.Sh

theorem packLong_lifted (os : Os) (started : os.Started) (H : Type) (enc : TypeId × Value → H) :
    ReturnsInHanded {} Tryd.checked os 3 .any (fun w args => (Rows.packLongSpec.pre enc Tryd.prog Tryd.f3 [] false w args ∧ laidMetH Tryd.prog laidV w) ∧ sizedMet enc Tryd.prog Tryd.f3 (OpenSpec.ofChange Rows.packLongSpec) false w args)
      (Rows.packLongSpec.post enc Tryd.prog Tryd.f3 false true false false) := by
  refine lawInLaid (C := Tryd.checked) (t := 4) (Gs := []) own started (by kernel_rfl) Tryd.func3
    (ChangeSpec.witness_shaped (enc := enc) (C := Tryd.checked) (os := os) (X := fun w _ => laidMetH Tryd.prog laidV w) false (World.doorLaid Tryd.prog 400 os) #[] 8 rfl (World.shaped_of_RefB (by kernel_rfl) (by kernel_rfl)) (by kernel_rfl) (by kernel_rfl) (by kernel_rfl) (door_met os _))
    .nil rfl rfl Tryd.underlying4 ?_ laidOut (by kernel_rfl) glOf ?_
  · intro ds h
    match ds, h with
    | [], _ => exact ⟨rfl, rfl, rfl⟩
  · rintro _ rfl
    
    exact packLong_fs 

theorem packLong_holds : Rows.PackLongSaid :=
  OpenClaim.holds_of_wide 3 Tryd.f3 rfl rfl rfl rfl rfl rfl rfl ⟨rfl, rfl, rfl, rfl, rfl⟩ rfl rfl rfl rfl rfl (by kernel_rfl) Tryd.func3 (by kernel_rfl)
    (of_decide_eq_true (by kernel_rfl)) (by unfold Func.isWrapper; first | (rw [if_pos (by decide +kernel)]; kernel_rfl) | (rw [if_neg (by decide +kernel)]; exact ⟨rfl, rfl⟩))
    (fun os started H enc _ => packLong_lifted os started H enc)

theorem packLong_card_holds : Rows.PackLongCardSaid :=
  Claim7.holds_tied_plain_at .later [] [.data, .listed, .data, .data] true (true, "d7b7ec74b729f206fa59db2279d84841eb95da28c13569a9aa58d2fc06a234f4") false
    packLong_holds (fun _ h => by cases h) (by kernel_rfl) (fun _ h => by cases h) packLong_row_tie rfl ⟨rfl, rfl⟩ (by kernel_rfl) rfl
    (fun f fn hf hfn => by
      obtain rfl : f = 3 := Option.some.inj ((show Tryd.prog.funcNamed Rows.packLongRow.func = some 3 by kernel_rfl).symm.trans hf) |>.symm
      obtain rfl : fn = Tryd.f3 := (Option.some.inj (Tryd.func3.symm.trans hfn)).symm
      exact ⟨by kernel_rfl, fun j t ht => by
        rw [Tryd.params3] at ht
        have hm : t ∈ [] := by simpa using Array.mem_of_getElem? ht
        have hall : ([].all fun u => !Tryd.prog.wantsStandIn u) = true := by kernel_rfl
        exact (show Tryd.prog.wantsStandIn t = false by simpa using List.all_eq_true.1 hall t hm)⟩)
    (by kernel_rfl)
end Go.Proofs.YtggpilaganghkaaDoor
