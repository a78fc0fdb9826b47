/- PackBack: the given statement, proved. No condition. -/
import Derived.Test.YtggpilaganghkaaDoorPkBack
import Derived.Test.YtggpilaganghkaaDoorPkBase
import Derived.Test.YtggpilaganghkaaDoorCards
import Derived.Test.YtggpilaganghkaaDoorTie
set_option maxRecDepth 100000
namespace Go.Proofs.YtggpilaganghkaaDoor
open Go.Pv Go.Proofs.Sh

theorem nat_u8 {n : Int} (h : (Lit.int .u8 n).wf = true) : ∃ a : Nat, n = (a : Int) ∧ a < 256 := by
  simp [Lit.wf] at h
  obtain ⟨h1, h2⟩ := h
  have h3 : IntKind.u8.min = 0 := by decide
  have h4 : IntKind.u8.max = 255 := by decide
  exact ⟨n.toNat, by omega, by omega⟩
theorem nat_u16 {n : Int} (h : (Lit.int .u16 n).wf = true) : ∃ a : Nat, n = (a : Int) ∧ a < 65536 := by
  simp [Lit.wf] at h
  obtain ⟨h1, h2⟩ := h
  have h3 : IntKind.u16.min = 0 := by decide
  have h4 : IntKind.u16.max = 65535 := by decide
  exact ⟨n.toNat, by omega, by omega⟩
theorem packBack_lifted (os : Os) (started : os.Started) (H : Type) (enc : TypeId × Value → H) :
    ReturnsInHanded {} Tryd.checked os 8 .any (fun w args => (Rows.packBackSpec.pre enc Tryd.prog Tryd.f8 [] false w args ∧ laidMetH Tryd.prog laidV w) ∧ sizedMet enc Tryd.prog Tryd.f8 (OpenSpec.ofChange Rows.packBackSpec) false w args)
      (Rows.packBackSpec.post enc Tryd.prog Tryd.f8 false true false false) := by
  refine lawInLaid (C := Tryd.checked) (t := 4) (Gs := [gRq, one1 (gInt .u8), one1 gStr]) own started (by kernel_rfl) Tryd.func8
    (ChangeSpec.witness_shaped (enc := enc) (C := Tryd.checked) (os := os) (X := fun w _ => laidMetH Tryd.prog laidV w) false (World.doorLaid Tryd.prog 400 os) #[.agg #[.int .i64 0, .slice none 0 0, .string ⟨#[]⟩, .slice none 0 0], .int .u8 0, .string ⟨#[]⟩] 8 rfl (World.shaped_of_RefB (by kernel_rfl) (by kernel_rfl)) (by kernel_rfl) (by kernel_rfl) (by kernel_rfl) (door_met os _))
    (.cons 25 _ _ _ decRq (.cons 5 _ _ _ (.int (by kernel_rfl)) (.cons 9 _ _ _ (.str Tryd.underlying9) .nil))) rfl rfl Tryd.underlying4 ?_ laidOut (by kernel_rfl) glOf ?_
  · intro ds h
    match ds, h with
    | [_, _, _], _ => exact ⟨rfl, rfl, rfl⟩
  · rintro _ ⟨x0, _, rfl, hx0, ⟨_, _, rfl, ⟨x1, hx1, w1⟩, ⟨_, _, rfl, ⟨x2, hx2, -⟩, rfl⟩⟩⟩
    obtain ⟨x0, rfl⟩ := rq_of hx0; cases hx1; cases hx2
    obtain ⟨y1, rfl, hy1⟩ := nat_u8 w1
    exact packBack_fs x0 y1 x2 hy1

theorem packBack_holds : Rows.PackBackSaid :=
  OpenClaim.holds_of_wide 8 Tryd.f8 rfl rfl rfl rfl rfl rfl rfl ⟨rfl, rfl, rfl, rfl, rfl⟩ rfl rfl rfl rfl rfl (by kernel_rfl) Tryd.func8 (by kernel_rfl)
    (of_decide_eq_true (by kernel_rfl)) (by unfold Func.isWrapper; first | (rw [if_pos (by decide +kernel)]; kernel_rfl) | (rw [if_neg (by decide +kernel)]; exact ⟨rfl, rfl⟩))
    (fun os started H enc _ => packBack_lifted os started H enc)

theorem packBack_card_holds : Rows.PackBackCardSaid :=
  Claim7.holds_tied_plain_at .later [] [.data, .listed, .data, .data] true (true, "d7b7ec74b729f206fa59db2279d84841eb95da28c13569a9aa58d2fc06a234f4") false
    packBack_holds (fun _ h => by cases h) (by kernel_rfl) (fun _ h => by cases h) packBack_row_tie rfl ⟨rfl, rfl⟩ (by kernel_rfl) rfl
    (fun f fn hf hfn => by
      obtain rfl : f = 8 := Option.some.inj ((show Tryd.prog.funcNamed Rows.packBackRow.func = some 8 by kernel_rfl).symm.trans hf) |>.symm
      obtain rfl : fn = Tryd.f8 := (Option.some.inj (Tryd.func8.symm.trans hfn)).symm
      exact ⟨by kernel_rfl, fun j t ht => by
        rw [Tryd.params8] at ht
        have hm : t ∈ [25, 5, 9] := by simpa using Array.mem_of_getElem? ht
        have hall : ([25, 5, 9].all fun u => !Tryd.prog.wantsStandIn u) = true := by kernel_rfl
        exact (show Tryd.prog.wantsStandIn t = false by simpa using List.all_eq_true.1 hall t hm)⟩)
    (by kernel_rfl)
end Go.Proofs.YtggpilaganghkaaDoor
