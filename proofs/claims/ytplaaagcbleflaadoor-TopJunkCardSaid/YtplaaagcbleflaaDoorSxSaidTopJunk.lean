/- TopJunk: the given statement, proved. No condition. -/
import Derived.Test.YtplaaagcbleflaaDoorSxJunk
import Derived.Test.YtplaaagcbleflaaDoorSxSeat
import Derived.Test.YtplaaagcbleflaaDoorCards
import Derived.Test.YtplaaagcbleflaaDoorTie
set_option maxRecDepth 100000
namespace Go.Proofs.YtplaaagcbleflaaDoor
open Go.Pv Go.Proofs.Sh

theorem nat_u16 {n : Int} (h : (Lit.int .u16 n).wf = true) : ∃ a : Nat, n = (a : Int) ∧ a < 65536 := by
  simp [Lit.wf] at h
  obtain ⟨h1, h2⟩ := h
  have h3 : IntKind.u16.min = 0 := by decide
  have h4 : IntKind.u16.max = 65535 := by decide
  exact ⟨n.toNat, by omega, by omega⟩
theorem topJunk_lifted (os : Os) (started : os.Started) (H : Type) (enc : TypeId × Value → H) :
    ReturnsInHanded {} Tryd.checked os 3 .any (fun w args => (Rows.topJunkSpec.pre enc Tryd.prog Tryd.f3 [] false w args ∧ laidMetH Tryd.prog laidV w) ∧ sizedMet enc Tryd.prog Tryd.f3 (OpenSpec.ofChange Rows.topJunkSpec) false w args)
      (Rows.topJunkSpec.post enc Tryd.prog Tryd.f3 false true false false) := by
  refine lawInLaid (C := Tryd.checked) (t := 4) (Gs := [one1 gStr, one1 (gInt .u16), one1 gStr]) own started (by kernel_rfl) Tryd.func3
    (ChangeSpec.witness_shaped (enc := enc) (C := Tryd.checked) (os := os) (X := fun w _ => laidMetH Tryd.prog laidV w) false (World.doorLaid Tryd.prog 400 os) #[.string ⟨#[]⟩, .int .u16 0, .string ⟨#[]⟩] 8 rfl (World.shaped_of_RefB (by kernel_rfl) (by kernel_rfl)) (by kernel_rfl) (by kernel_rfl) (by kernel_rfl) (door_met os _))
    (.cons 9 _ _ _ (.str (by kernel_rfl)) (.cons 22 _ _ _ (.int (by kernel_rfl)) (.cons 9 _ _ _ (.str (by kernel_rfl)) .nil))) rfl rfl Tryd.underlying4 ?_ laidOut (by kernel_rfl) glOf ?_
  · intro ds h
    match ds, h with
    | [_, _, _], _ => exact ⟨rfl, rfl, rfl⟩
  · rintro _ ⟨_, _, rfl, ⟨x0, hx0, -⟩, ⟨_, _, rfl, ⟨x1, hx1, w1⟩, ⟨_, _, rfl, ⟨x2, hx2, -⟩, rfl⟩⟩⟩
    cases hx0; cases hx1; cases hx2
    obtain ⟨y1, rfl, hy1⟩ := nat_u16 w1
    exact topJunk_fs x0 y1 x2 hy1


theorem topJunk_holds : Rows.TopJunkSaid :=
  OpenClaim.holds_of_wide 3 Tryd.f3 rfl rfl rfl rfl rfl rfl rfl ⟨rfl, rfl, rfl, rfl, rfl⟩ rfl rfl rfl rfl rfl (by kernel_rfl) Tryd.func3 (by kernel_rfl)
    (of_decide_eq_true (by kernel_rfl)) (by unfold Func.isWrapper; first | (rw [if_pos (by decide +kernel)]; kernel_rfl) | (rw [if_neg (by decide +kernel)]; exact ⟨rfl, rfl⟩))
    (fun os started H enc _ => topJunk_lifted os started H enc)

theorem topJunk_card_holds : Rows.TopJunkCardSaid :=
  Claim7.holds_tied_plain_at .later [] [.data, .listed, .data, .data] true (true, "b3c43b2d62158024e77209a9bbe207a23b9b11c8b51bdb8807d52182dffb55c2") true
    topJunk_holds (fun _ h => by cases h) (by kernel_rfl) (fun _ h => by cases h) topJunk_row_tie rfl ⟨rfl, rfl⟩ (by kernel_rfl) rfl
    (fun f fn hf hfn => by
      obtain rfl : f = 3 := Option.some.inj ((show Tryd.prog.funcNamed Rows.topJunkRow.func = some 3 by kernel_rfl).symm.trans hf) |>.symm
      obtain rfl : fn = Tryd.f3 := (Option.some.inj (Tryd.func3.symm.trans hfn)).symm
      exact ⟨by kernel_rfl, fun j t ht => by
        rw [Tryd.params3] at ht
        have hm : t ∈ [9, 22, 9] := by simpa using Array.mem_of_getElem? ht
        have hall : ([9, 22, 9].all fun u => !Tryd.prog.wantsStandIn u) = true := by kernel_rfl
        exact (show Tryd.prog.wantsStandIn t = false by simpa using List.all_eq_true.1 hall t hm)⟩)
    (by kernel_rfl)
end Go.Proofs.YtplaaagcbleflaaDoor
