/- StubAsks: the given statement, where what it reads is of bulk at most 1048576, proved. No condition. -/
import Derived.Test.YtbpjoeopnaggoaaDoorSbSeatX
import Derived.Test.YtbpjoeopnaggoaaDoorCards
import Derived.Test.YtbpjoeopnaggoaaDoorTie
set_option maxRecDepth 100000
set_option linter.unusedVariables false
namespace Go.Proofs.YtbpjoeopnaggoaaDoor
open Go.Pv Go.Proofs.Sh

theorem stubAsks_reads (os : Os) {H : Type} (enc : TypeId × Value → H) : ∃ places, DataW.whole enc Tryd.prog ((World.doorLaid Tryd.prog 400 os).forCall (fun _ _ => 0) ⟨#[], #[.int .i64 0, .int .i64 0, .slice none 0 0, .slice none 0 0], []⟩).memory Tryd.f4.params.toList Rows.stubAsksSpec.vars false #[.int .i64 0, .int .i64 0, .slice none 0 0, .slice none 0 0].toList 8 = some ([.lit (.int .i64 0), .lit (.int .i64 0), .nil, .nil], [], places) :=
  ⟨[], by kernel_rfl⟩
theorem stubAsks_lifted (os : Os) (started : os.Started) (H : Type) (enc : TypeId × Value → H) (F : Stop.Interp) :
    ReturnsInHanded {} Tryd.checked os 4 .any ((Rows.OpenSpec.upto Rows.stubAsksSpec).preRow enc Tryd.prog Tryd.f4 [] false laidV) (((Rows.OpenSpec.upto Rows.stubAsksSpec).at F).post enc Tryd.prog Tryd.f4 false true false false) := by
  obtain ⟨places, hx⟩ := stubAsks_reads os enc
  refine lawRow (C := Tryd.checked) (s0 := Rows.stubAsksSpec) (s := Rows.OpenSpec.upto Rows.stubAsksSpec) (t := 4) (Gs := [dOne (dInt .i64), dOne (dInt .i64), dOne (dSl 1 (dOne (dSl 4 dRqG))), dOne (dSl 1 (dOne dBool))]) own started (by kernel_rfl) Tryd.func4
    (witness_row_atRef (enc := enc) (C := Tryd.checked) false (World.doorLaid Tryd.prog 400 os) #[.int .i64 0, .int .i64 0, .slice none 0 0, .slice none 0 0] rfl (by kernel_rfl) (by kernel_rfl) (by kernel_rfl)
      (OpenSpec.preRow_of_cond 8 hx (by kernel_rfl) (fun k hk => by cases hk; kernel_rfl) (by kernel_rfl) (door_met os _)))
    (.cons 3 _ _ _ (.ofC (DecD.int (k := .i64) (by kernel_rfl)) (.inr (.inr (.inl ⟨.i64, by kernel_rfl⟩)))) (.cons 3 _ _ _ (.ofC (DecD.int (k := .i64) (by kernel_rfl)) (.inr (.inr (.inl ⟨.i64, by kernel_rfl⟩)))) (.cons 25 _ _ _ decERqss (.cons 26 _ _ _ decEBools .nil)))) rfl rfl rfl rfl Tryd.underlying4 ?_ laidOut (by kernel_rfl) glOf ?_
  · intro ds h
    match ds, h with
    | [_, _, _, _], _ => exact ⟨rfl, rfl, rfl⟩
  · rintro ds qs hcond hwt ⟨d0, _, p0, _, rfl, rfl, g0, d1, _, p1, _, rfl, rfl, g1, d2, _, p2, _, rfl, rfl, g2, d3, _, p3, _, rfl, rfl, g3, rfl, rfl⟩
    rw [Tryd.params4] at hwt
    obtain ⟨w0, hwt⟩ := weach hwt
    obtain ⟨w1, hwt⟩ := weach hwt
    obtain ⟨w2, hwt⟩ := weach hwt
    obtain ⟨w3, hwt⟩ := weach hwt
    obtain ⟨x0, e0, rfl, v0⟩ := g0
    cases e0
    obtain ⟨x1, e1, rfl, v1⟩ := g1
    cases e1
    obtain ⟨x2, e2, b2⟩ := drqss_of g2
    cases e2
    obtain ⟨x3, e3, b3⟩ := dbools_of g3
    cases e3
    have hk := of_decide_eq_true (hcond _ rfl)
    simp only [Rows.uptoBulkAll] at hk
    have hl := len_le (fun X => 1 + frs X) (fun x => by omega) x2
    exact stubAsks_fs x0 x1 x2 x3 (by omega) (by omega) (by omega)

theorem stubAsksUpto_holds : Rows.StubAsksUptoSaid :=
  OpenClaim.holds_of_cond 4 Tryd.f4 rfl rfl rfl rfl rfl rfl rfl ⟨rfl, rfl, rfl, rfl, rfl⟩ rfl rfl rfl rfl rfl (by kernel_rfl) Tryd.func4 (by kernel_rfl)
    (of_decide_eq_true (by kernel_rfl)) (by unfold Func.isWrapper; first | (rw [if_pos (by decide +kernel)]; kernel_rfl) | (rw [if_neg (by decide +kernel)]; exact ⟨rfl, rfl⟩))
    (fun os started H enc _ F => by rw [OpenClaim.pre_eq_preRow]; exact stubAsks_lifted os started H enc F)

theorem stubAsksUpto_card_holds : Rows.StubAsksUptoCardSaid :=
  Claim7.holds_tied_plain_at .later [] [.data, .listed, .data, .data] true (true, "b0f27f898b90f5db0f99a5da3175e688fc5bb262d7fa9e96bfb0d38f8489e16c") true
    stubAsksUpto_holds (fun _ h => by cases h) (by kernel_rfl) (fun _ h => by cases h) stubAsksUpto_row_tie rfl ⟨rfl, rfl⟩ (by kernel_rfl) rfl
    (fun f fn hf hfn => by
      obtain rfl : f = 4 := Option.some.inj ((show Tryd.prog.funcNamed Rows.stubAsksUptoRow.func = some 4 by kernel_rfl).symm.trans hf) |>.symm
      obtain rfl : fn = Tryd.f4 := (Option.some.inj (Tryd.func4.symm.trans hfn)).symm
      exact ⟨by kernel_rfl, fun j t ht => by
        rw [Tryd.params4] at ht
        have hm : t ∈ [3, 3, 25, 26] := by simpa using Array.mem_of_getElem? ht
        have hall : ([3, 3, 25, 26].all fun u => !Tryd.prog.wantsStandIn u) = true := by kernel_rfl
        exact (show Tryd.prog.wantsStandIn t = false by simpa using List.all_eq_true.1 hall t hm)⟩)
    (by kernel_rfl)
end Go.Proofs.YtbpjoeopnaggoaaDoor
