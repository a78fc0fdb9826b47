/- StubGets: the given statement, where what it reads is of bulk at most 1048576, proved. No condition. -/
import Derived.Test.YtbpjoeopnaggoaaDoorSbGets2
import Derived.Test.YtbpjoeopnaggoaaDoorSbSeatY
import Derived.Test.YtbpjoeopnaggoaaDoorCards
import Derived.Test.YtbpjoeopnaggoaaDoorTie
set_option maxRecDepth 100000
set_option linter.unusedVariables false
namespace Go.Proofs.YtbpjoeopnaggoaaDoor
open Go.Pv Go.Proofs.Sh

theorem stubGets_reads (os : Os) {H : Type} (enc : TypeId × Value → H) : ∃ places, DataW.whole enc Tryd.prog ((World.doorLaid Tryd.prog 400 os).forCall (fun _ _ => 0) ⟨#[], #[.int .u8 0, .slice none 0 0], []⟩).memory Tryd.f8.params.toList Rows.stubGetsSpec.vars false #[.int .u8 0, .slice none 0 0].toList 8 = some ([.lit (.int .u8 0), .nil], [], places) :=
  ⟨[], by kernel_rfl⟩
theorem stubGets_lifted (os : Os) (started : os.Started) (H : Type) (enc : TypeId × Value → H) (F : Stop.Interp) :
    ReturnsInHanded {} Tryd.checked os 8 .any ((Rows.OpenSpec.upto Rows.stubGetsSpec).preRow enc Tryd.prog Tryd.f8 [] false laidV) (((Rows.OpenSpec.upto Rows.stubGetsSpec).at F).post enc Tryd.prog Tryd.f8 false true false false) := by
  obtain ⟨places, hx⟩ := stubGets_reads os enc
  refine lawRow (C := Tryd.checked) (s0 := Rows.stubGetsSpec) (s := Rows.OpenSpec.upto Rows.stubGetsSpec) (t := 4) (Gs := [dOne (dInt .u8), dOne (dSl 2 dActG)]) own started (by kernel_rfl) Tryd.func8
    (witness_row_atRef (enc := enc) (C := Tryd.checked) false (World.doorLaid Tryd.prog 400 os) #[.int .u8 0, .slice none 0 0] rfl (by kernel_rfl) (by kernel_rfl) (by kernel_rfl)
      (OpenSpec.preRow_of_cond 8 hx (by kernel_rfl) (fun k hk => by cases hk; kernel_rfl) (by kernel_rfl) (door_met os _)))
    (.cons 5 _ _ _ (.ofC (DecD.int (k := .u8) (by kernel_rfl)) (.inr (.inr (.inl ⟨.u8, by kernel_rfl⟩)))) (.cons 27 _ _ _ decEActs .nil)) rfl rfl rfl rfl Tryd.underlying4 ?_ laidOut (by kernel_rfl) glOf ?_
  · intro ds h
    match ds, h with
    | [_, _], _ => exact ⟨rfl, rfl, rfl⟩
  · rintro ds qs hcond hwt ⟨d0, _, p0, _, rfl, rfl, g0, d1, _, p1, _, rfl, rfl, g1, rfl, rfl⟩
    rw [Tryd.params8] at hwt
    obtain ⟨w0, hwt⟩ := weach hwt
    obtain ⟨w1, hwt⟩ := weach hwt
    obtain ⟨x0, e0, rfl, v0⟩ := g0
    cases e0
    obtain ⟨x1, e1, q1, b1⟩ := dacts_of g1
    cases e1
    have hk := of_decide_eq_true (hcond _ rfl)
    simp only [Rows.uptoBulkAll] at hk
    have hl := len_le fA (fun x => by simp only [fA]; omega) x1
    rw [fewN] at b1
    obtain ⟨k0, rfl, hk0⟩ := nat_u8 v0
    exact stubGets_fs k0 hk0 x1 (by rw [fewN]; omega) (by omega) q1

theorem stubGetsUpto_holds : Rows.StubGetsUptoSaid :=
  OpenClaim.holds_of_cond 8 Tryd.f8 rfl rfl rfl rfl rfl rfl rfl ⟨rfl, rfl, rfl, rfl, rfl⟩ rfl rfl rfl rfl rfl (by kernel_rfl) Tryd.func8 (by kernel_rfl)
    (of_decide_eq_true (by kernel_rfl)) (by unfold Func.isWrapper; first | (rw [if_pos (by decide +kernel)]; kernel_rfl) | (rw [if_neg (by decide +kernel)]; exact ⟨rfl, rfl⟩))
    (fun os started H enc _ F => by rw [OpenClaim.pre_eq_preRow]; exact stubGets_lifted os started H enc F)

theorem stubGetsUpto_card_holds : Rows.StubGetsUptoCardSaid :=
  Claim7.holds_tied_plain_at .later [] [.data, .listed, .data, .data] true (true, "b0f27f898b90f5db0f99a5da3175e688fc5bb262d7fa9e96bfb0d38f8489e16c") true
    stubGetsUpto_holds (fun _ h => by cases h) (by kernel_rfl) (fun _ h => by cases h) stubGetsUpto_row_tie rfl ⟨rfl, rfl⟩ (by kernel_rfl) rfl
    (fun f fn hf hfn => by
      obtain rfl : f = 8 := Option.some.inj ((show Tryd.prog.funcNamed Rows.stubGetsUptoRow.func = some 8 by kernel_rfl).symm.trans hf) |>.symm
      obtain rfl : fn = Tryd.f8 := (Option.some.inj (Tryd.func8.symm.trans hfn)).symm
      exact ⟨by kernel_rfl, fun j t ht => by
        rw [Tryd.params8] at ht
        have hm : t ∈ [5, 27] := by simpa using Array.mem_of_getElem? ht
        have hall : ([5, 27].all fun u => !Tryd.prog.wantsStandIn u) = true := by kernel_rfl
        exact (show Tryd.prog.wantsStandIn t = false by simpa using List.all_eq_true.1 hall t hm)⟩)
    (by kernel_rfl)
end Go.Proofs.YtbpjoeopnaggoaaDoor
