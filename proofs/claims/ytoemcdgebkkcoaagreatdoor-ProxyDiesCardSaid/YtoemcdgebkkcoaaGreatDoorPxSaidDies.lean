/- ProxyDies: the given statement, proved. No condition. -/
import Derived.Test.YtoemcdgebkkcoaaGreatDoorPxDies
import Derived.Test.YtoemcdgebkkcoaaGreatDoorPxSeatZ
import Derived.Test.YtoemcdgebkkcoaaGreatDoorCards
import Derived.Test.YtoemcdgebkkcoaaGreatDoorTie
set_option maxRecDepth 100000
namespace Go.Proofs.YtoemcdgebkkcoaaGreatDoor
open Go.Pv Go.Proofs.Sh

theorem proxyDies_lifted (os : Os) (started : os.Started) (H : Type) (enc : TypeId × Value → H) :
    ReturnsInHanded {} Tryz.checked os 4 .any (fun w args => (Rows.proxyDiesSpec.pre enc Tryz.prog Tryz.f4 [] false w args ∧ laidMetH Tryz.prog laidV w) ∧ sizedMet enc Tryz.prog Tryz.f4 (OpenSpec.ofChange Rows.proxyDiesSpec) false w args)
      (Rows.proxyDiesSpec.post enc Tryz.prog Tryz.f4 false true false false) := by
  refine lawInLaid (C := Tryz.checked) (t := 4) (Gs := []) own started (by kernel_rfl) Tryz.func4
    (ChangeSpec.witness_shaped (enc := enc) (C := Tryz.checked) (os := os) (X := fun w _ => laidMetH Tryz.prog laidV w) false (World.doorLaid Tryz.prog 400 os) #[] 8 rfl (World.shaped_of_RefB (by kernel_rfl) (by kernel_rfl)) (by kernel_rfl) (by kernel_rfl) (by kernel_rfl) (door_met os _))
    .nil rfl rfl Tryz.underlying4 ?_ laidOut (by kernel_rfl) glOf ?_
  · intro ds h
    match ds, h with
    | [], _ => exact ⟨rfl, rfl, rfl⟩
  · rintro _ rfl
    
    exact dies_fs 

theorem proxyDies_holds : Rows.ProxyDiesSaid :=
  OpenClaim.holds_of_wide 4 Tryz.f4 rfl rfl rfl rfl rfl rfl rfl ⟨rfl, rfl, rfl, rfl, rfl⟩ rfl rfl rfl rfl rfl (by kernel_rfl) Tryz.func4 (by kernel_rfl)
    (of_decide_eq_true (by kernel_rfl)) (by unfold Func.isWrapper; first | (rw [if_pos (by decide +kernel)]; kernel_rfl) | (rw [if_neg (by decide +kernel)]; exact ⟨rfl, rfl⟩))
    (fun os started H enc _ => proxyDies_lifted os started H enc)

theorem proxyDies_card_holds : Rows.ProxyDiesCardSaid :=
  Claim7.holds_tied_plain_at .later [] [.data, .listed, .data, .data] true (true, "96bdd31037fbb8da275680d09ec0d880733ff5197ed64ebcd1203fbb20af3386") false
    proxyDies_holds (fun _ h => by cases h) (by kernel_rfl) (fun _ h => by cases h) proxyDies_row_tie rfl ⟨rfl, rfl⟩ (by kernel_rfl) rfl
    (fun f fn hf hfn => by
      obtain rfl : f = 4 := Option.some.inj ((show Tryz.prog.funcNamed Rows.proxyDiesRow.func = some 4 by kernel_rfl).symm.trans hf) |>.symm
      obtain rfl : fn = Tryz.f4 := (Option.some.inj (Tryz.func4.symm.trans hfn)).symm
      exact ⟨by kernel_rfl, fun j t ht => by
        rw [Tryz.params4] at ht
        have hm : t ∈ [] := by simpa using Array.mem_of_getElem? ht
        have hall : ([].all fun u => !Tryz.prog.wantsStandIn u) = true := by kernel_rfl
        exact (show Tryz.prog.wantsStandIn t = false by simpa using List.all_eq_true.1 hall t hm)⟩)
    (by kernel_rfl)
end Go.Proofs.YtoemcdgebkkcoaaGreatDoor
