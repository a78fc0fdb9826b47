/- ProxyNew: the given statement, proved. No condition. -/
import Derived.Test.YtoemcdgebkkcoaaDoorPxP
import Derived.Test.YtoemcdgebkkcoaaDoorPxSeat
import Derived.Test.YtoemcdgebkkcoaaDoorCards
import Derived.Test.YtoemcdgebkkcoaaDoorTie
set_option maxRecDepth 100000
namespace Go.Proofs.YtoemcdgebkkcoaaDoor
open Go.Pv Go.Proofs.Sh

theorem proxyNew_lifted (os : Os) (started : os.Started) (H : Type) (enc : TypeId × Value → H) :
    ReturnsInHanded {} Tryd.checked os 3 .any (fun w args => (Rows.proxyNewSpec.pre enc Tryd.prog Tryd.f3 [] false w args ∧ laidMetH Tryd.prog laidV w) ∧ sizedMet enc Tryd.prog Tryd.f3 (OpenSpec.ofChange Rows.proxyNewSpec) false w args)
      (Rows.proxyNewSpec.post enc Tryd.prog Tryd.f3 false true false false) := by
  refine lawInLaid (C := Tryd.checked) (t := 4) (Gs := [one1 gBool, one1 (gInt .i64), one1 (gInt .i64), one1 (gInt .i64), one1 gStr]) own started (by kernel_rfl) Tryd.func3
    (ChangeSpec.witness_shaped (enc := enc) (C := Tryd.checked) (os := os) (X := fun w _ => laidMetH Tryd.prog laidV w) false (World.doorLaid Tryd.prog 400 os) #[.bool false, .int .i64 0, .int .i64 0, .int .i64 0, .string ⟨#[]⟩] 8 rfl (World.shaped_of_RefB (by kernel_rfl) (by kernel_rfl)) (by kernel_rfl) (by kernel_rfl) (by kernel_rfl) (door_met os _))
    (.cons 4 _ _ _ (.bool Tryd.underlying4) (.cons 3 _ _ _ (.int Tryd.underlying3) (.cons 3 _ _ _ (.int Tryd.underlying3) (.cons 3 _ _ _ (.int Tryd.underlying3) (.cons 9 _ _ _ (.str Tryd.underlying9) .nil))))) rfl rfl Tryd.underlying4 ?_ laidOut (by kernel_rfl) glOf ?_
  · intro ds h
    match ds, h with
    | [_, _, _, _, _], _ => exact ⟨rfl, rfl, rfl⟩
  · rintro _ ⟨_, _, rfl, ⟨x0, hx0⟩, ⟨_, _, rfl, ⟨x1, hx1, -⟩, ⟨_, _, rfl, ⟨x2, hx2, -⟩, ⟨_, _, rfl, ⟨x3, hx3, -⟩, ⟨_, _, rfl, ⟨x4, hx4, -⟩, rfl⟩⟩⟩⟩⟩
    cases hx0; cases hx1; cases hx2; cases hx3; cases hx4
    exact proxyNew_fs x0 x1 x2 x3 x4

theorem proxyNew_holds : Rows.ProxyNewSaid :=
  OpenClaim.holds_of_wide 3 Tryd.f3 rfl rfl rfl rfl rfl rfl rfl ⟨rfl, rfl, rfl, rfl, rfl⟩ rfl rfl rfl rfl rfl (by kernel_rfl) Tryd.func3 (by kernel_rfl)
    (of_decide_eq_true (by kernel_rfl)) (by unfold Func.isWrapper; first | (rw [if_pos (by decide +kernel)]; kernel_rfl) | (rw [if_neg (by decide +kernel)]; exact ⟨rfl, rfl⟩))
    (fun os started H enc _ => proxyNew_lifted os started H enc)

theorem proxyNew_card_holds : Rows.ProxyNewCardSaid :=
  Claim7.holds_tied_plain_at .later [] [.data, .listed, .data] true (true, "90eb7994ffbf2a8877da7ab4bcc13cfda0a012dd9e68916e66dadf498fcb0883") false
    proxyNew_holds (fun _ h => by cases h) (by kernel_rfl) (fun _ h => by cases h) proxyNew_row_tie rfl ⟨rfl, rfl⟩ (by kernel_rfl) rfl
    (fun f fn hf hfn => by
      obtain rfl : f = 3 := Option.some.inj ((show Tryd.prog.funcNamed Rows.proxyNewRow.func = some 3 by kernel_rfl).symm.trans hf) |>.symm
      obtain rfl : fn = Tryd.f3 := (Option.some.inj (Tryd.func3.symm.trans hfn)).symm
      exact ⟨by kernel_rfl, fun j t ht => by
        rw [Tryd.params3] at ht
        have hm : t ∈ [4, 3, 3, 3, 9] := by simpa using Array.mem_of_getElem? ht
        have hall : ([4, 3, 3, 3, 9].all fun u => !Tryd.prog.wantsStandIn u) = true := by kernel_rfl
        exact (show Tryd.prog.wantsStandIn t = false by simpa using List.all_eq_true.1 hall t hm)⟩)
    (by kernel_rfl)
end Go.Proofs.YtoemcdgebkkcoaaDoor
