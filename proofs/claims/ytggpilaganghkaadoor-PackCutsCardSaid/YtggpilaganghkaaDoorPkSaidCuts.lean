/- PackCuts: the given statement, proved. No condition. -/
import Derived.Test.YtggpilaganghkaaDoorPkCuts
import Derived.Test.YtggpilaganghkaaDoorPkBase
import Derived.Test.YtggpilaganghkaaDoorCards
import Derived.Test.YtggpilaganghkaaDoorTie
set_option maxRecDepth 100000
namespace Go.Proofs.YtggpilaganghkaaDoor
open Go.Pv Go.Proofs.Sh

theorem nat_u8 {n : Int} (h : (Lit.int .u8 n).wf = true) : ∃ a : Nat, n = (a : Int) ∧ a < 256 := by
  simp [Lit.wf] at h
  obtain ⟨h1, h2⟩ := h
  have h3 : IntKind.u8.min = 0 := by decide
  have h4 : IntKind.u8.max = 255 := by decide
  exact ⟨n.toNat, by omega, by omega⟩
theorem nat_u16 {n : Int} (h : (Lit.int .u16 n).wf = true) : ∃ a : Nat, n = (a : Int) ∧ a < 65536 := by
  simp [Lit.wf] at h
  obtain ⟨h1, h2⟩ := h
  have h3 : IntKind.u16.min = 0 := by decide
  have h4 : IntKind.u16.max = 65535 := by decide
  exact ⟨n.toNat, by omega, by omega⟩
theorem packCuts_lifted (os : Os) (started : os.Started) (H : Type) (enc : TypeId × Value → H) :
    ReturnsInHanded {} Tryd.checked os 6 .any (fun w args => (Rows.packCutsSpec.pre enc Tryd.prog Tryd.f6 [] false w args ∧ laidMetH Tryd.prog laidV w) ∧ sizedMet enc Tryd.prog Tryd.f6 (OpenSpec.ofChange Rows.packCutsSpec) false w args)
      (Rows.packCutsSpec.post enc Tryd.prog Tryd.f6 false true false false) := by
  refine lawInLaid (C := Tryd.checked) (t := 4) (Gs := [gRq, one1 (gInt .u8), one1 (gInt .u16), one1 (gInt .u8)]) own started (by kernel_rfl) Tryd.func6
    (ChangeSpec.witness_shaped (enc := enc) (C := Tryd.checked) (os := os) (X := fun w _ => laidMetH Tryd.prog laidV w) false (World.doorLaid Tryd.prog 400 os) #[.agg #[.int .i64 0, .slice none 0 0, .string ⟨#[]⟩, .slice none 0 0], .int .u8 0, .int .u16 0, .int .u8 0] 8 rfl (World.shaped_of_RefB (by kernel_rfl) (by kernel_rfl)) (by kernel_rfl) (by kernel_rfl) (by kernel_rfl) (door_met os _))
    (.cons 25 _ _ _ decRq (.cons 5 _ _ _ (.int (by kernel_rfl)) (.cons 35 _ _ _ (.int (by kernel_rfl)) (.cons 5 _ _ _ (.int (by kernel_rfl)) .nil)))) rfl rfl Tryd.underlying4 ?_ laidOut (by kernel_rfl) glOf ?_
  · intro ds h
    match ds, h with
    | [_, _, _, _], _ => exact ⟨rfl, rfl, rfl⟩
  · rintro _ ⟨x0, _, rfl, hx0, ⟨_, _, rfl, ⟨x1, hx1, w1⟩, ⟨_, _, rfl, ⟨x2, hx2, w2⟩, ⟨_, _, rfl, ⟨x3, hx3, w3⟩, rfl⟩⟩⟩⟩
    obtain ⟨x0, rfl⟩ := rq_of hx0; cases hx1; cases hx2; cases hx3
    obtain ⟨y1, rfl, hy1⟩ := nat_u8 w1
    obtain ⟨y2, rfl, hy2⟩ := nat_u16 w2
    obtain ⟨y3, rfl, hy3⟩ := nat_u8 w3
    exact packCuts_fs x0 y1 y2 y3 hy1 hy2 hy3

theorem packCuts_holds : Rows.PackCutsSaid :=
  OpenClaim.holds_of_wide 6 Tryd.f6 rfl rfl rfl rfl rfl rfl rfl ⟨rfl, rfl, rfl, rfl, rfl⟩ rfl rfl rfl rfl rfl (by kernel_rfl) Tryd.func6 (by kernel_rfl)
    (of_decide_eq_true (by kernel_rfl)) (by unfold Func.isWrapper; first | (rw [if_pos (by decide +kernel)]; kernel_rfl) | (rw [if_neg (by decide +kernel)]; exact ⟨rfl, rfl⟩))
    (fun os started H enc _ => packCuts_lifted os started H enc)

theorem packCuts_card_holds : Rows.PackCutsCardSaid :=
  Claim7.holds_tied_plain_at .later [] [.data, .listed, .data, .data] true (true, "d7b7ec74b729f206fa59db2279d84841eb95da28c13569a9aa58d2fc06a234f4") false
    packCuts_holds (fun _ h => by cases h) (by kernel_rfl) (fun _ h => by cases h) packCuts_row_tie rfl ⟨rfl, rfl⟩ (by kernel_rfl) rfl
    (fun f fn hf hfn => by
      obtain rfl : f = 6 := Option.some.inj ((show Tryd.prog.funcNamed Rows.packCutsRow.func = some 6 by kernel_rfl).symm.trans hf) |>.symm
      obtain rfl : fn = Tryd.f6 := (Option.some.inj (Tryd.func6.symm.trans hfn)).symm
      exact ⟨by kernel_rfl, fun j t ht => by
        rw [Tryd.params6] at ht
        have hm : t ∈ [25, 5, 35, 5] := by simpa using Array.mem_of_getElem? ht
        have hall : ([25, 5, 35, 5].all fun u => !Tryd.prog.wantsStandIn u) = true := by kernel_rfl
        exact (show Tryd.prog.wantsStandIn t = false by simpa using List.all_eq_true.1 hall t hm)⟩)
    (by kernel_rfl)
end Go.Proofs.YtggpilaganghkaaDoor
