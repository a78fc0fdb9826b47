/- StreamBegins: the given statement, proved. No condition. -/
import Derived.Test.YtplaaagcbleflaaDoorSxBegins
import Derived.Test.YtplaaagcbleflaaDoorSxSeat
import Derived.Test.YtplaaagcbleflaaDoorCards
import Derived.Test.YtplaaagcbleflaaDoorTie
set_option maxRecDepth 100000
namespace Go.Proofs.YtplaaagcbleflaaDoor
open Go.Pv Go.Proofs.Sh

theorem streamBegins_lifted (os : Os) (started : os.Started) (H : Type) (enc : TypeId × Value → H) :
    ReturnsInHanded {} Tryd.checked os 4 .any (fun w args => (Rows.streamBeginsSpec.pre enc Tryd.prog Tryd.f4 [] false w args ∧ laidMetH Tryd.prog laidV w) ∧ sizedMet enc Tryd.prog Tryd.f4 (OpenSpec.ofChange Rows.streamBeginsSpec) false w args)
      (Rows.streamBeginsSpec.post enc Tryd.prog Tryd.f4 false true false false) := by
  refine lawInLaid (C := Tryd.checked) (t := 4) (Gs := [one1 (gInt .i64), gA4]) own started (by kernel_rfl) Tryd.func4
    (ChangeSpec.witness_shaped (enc := enc) (C := Tryd.checked) (os := os) (X := fun w _ => laidMetH Tryd.prog laidV w) false (World.doorLaid Tryd.prog 400 os) #[.int .i64 0, .agg #[.int .u8 0, .int .u8 0, .int .u8 0, .int .u8 0]] 8 rfl (World.shaped_of_RefB (by kernel_rfl) (by kernel_rfl)) (by kernel_rfl) (by kernel_rfl) (by kernel_rfl) (door_met os _))
    (.cons 3 _ _ _ (.int (by kernel_rfl)) (.cons 32 _ _ _ decA4 .nil)) rfl rfl Tryd.underlying4 ?_ laidOut (by kernel_rfl) glOf ?_
  · intro ds h
    match ds, h with
    | [_, _], _ => exact ⟨rfl, rfl, rfl⟩
  · rintro _ ⟨_, _, rfl, ⟨x0, hx0, -⟩, ⟨x1, _, rfl, hx1, rfl⟩⟩
    cases hx0; obtain ⟨p1, q1, r1, s1, hp1, hq1, hr1, hs1, rfl⟩ := a4_of hx1
    exact streamBegins_fs x0 p1 q1 r1 s1 hp1 hq1 hr1 hs1


theorem streamBegins_holds : Rows.StreamBeginsSaid :=
  OpenClaim.holds_of_wide 4 Tryd.f4 rfl rfl rfl rfl rfl rfl rfl ⟨rfl, rfl, rfl, rfl, rfl⟩ rfl rfl rfl rfl rfl (by kernel_rfl) Tryd.func4 (by kernel_rfl)
    (of_decide_eq_true (by kernel_rfl)) (by unfold Func.isWrapper; first | (rw [if_pos (by decide +kernel)]; kernel_rfl) | (rw [if_neg (by decide +kernel)]; exact ⟨rfl, rfl⟩))
    (fun os started H enc _ => streamBegins_lifted os started H enc)

theorem streamBegins_card_holds : Rows.StreamBeginsCardSaid :=
  Claim7.holds_tied_plain_at .later [] [.data, .listed, .data, .data] true (true, "b3c43b2d62158024e77209a9bbe207a23b9b11c8b51bdb8807d52182dffb55c2") true
    streamBegins_holds (fun _ h => by cases h) (by kernel_rfl) (fun _ h => by cases h) streamBegins_row_tie rfl ⟨rfl, rfl⟩ (by kernel_rfl) rfl
    (fun f fn hf hfn => by
      obtain rfl : f = 4 := Option.some.inj ((show Tryd.prog.funcNamed Rows.streamBeginsRow.func = some 4 by kernel_rfl).symm.trans hf) |>.symm
      obtain rfl : fn = Tryd.f4 := (Option.some.inj (Tryd.func4.symm.trans hfn)).symm
      exact ⟨by kernel_rfl, fun j t ht => by
        rw [Tryd.params4] at ht
        have hm : t ∈ [3, 32] := by simpa using Array.mem_of_getElem? ht
        have hall : ([3, 32].all fun u => !Tryd.prog.wantsStandIn u) = true := by kernel_rfl
        exact (show Tryd.prog.wantsStandIn t = false by simpa using List.all_eq_true.1 hall t hm)⟩)
    (by kernel_rfl)
end Go.Proofs.YtplaaagcbleflaaDoor
