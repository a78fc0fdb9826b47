/- TopBack: the given statement, proved. No condition. -/
import Derived.Test.YtbpjoeopnaggoaaDoorSbBack
import Derived.Test.YtbpjoeopnaggoaaDoorSbSeatT
import Derived.Test.YtbpjoeopnaggoaaDoorCards
import Derived.Test.YtbpjoeopnaggoaaDoorTie
set_option maxRecDepth 100000
set_option linter.unusedVariables false
namespace Go.Proofs.YtbpjoeopnaggoaaDoor
open Go.Pv Go.Proofs.Sh

theorem topBack_reads (os : Os) {H : Type} (enc : TypeId × Value → H) : ∃ places, DataW.whole enc Tryd.prog ((World.doorLaid Tryd.prog 400 os).forCall (fun _ _ => 0) ⟨#[], #[.bool false, .slice none 0 0, .slice none 0 0, .int .u8 0], []⟩).memory Tryd.f10.params.toList Rows.topBackSpec.vars false #[.bool false, .slice none 0 0, .slice none 0 0, .int .u8 0].toList 8 = some ([.lit (.bool false), .nil, .nil, .lit (.int .u8 0)], [], places) :=
  ⟨[], by kernel_rfl⟩
theorem topBack_lifted (os : Os) (started : os.Started) (H : Type) (enc : TypeId × Value → H) (F : Stop.Interp) :
    ReturnsInHanded {} Tryd.checked os 10 .any ((OpenSpec.ofChange Rows.topBackSpec).preRow enc Tryd.prog Tryd.f10 [] false laidV) (((OpenSpec.ofChange Rows.topBackSpec).at F).post enc Tryd.prog Tryd.f10 false true false false) := by
  obtain ⟨places, hx⟩ := topBack_reads os enc
  refine lawRow (C := Tryd.checked) (s0 := Rows.topBackSpec) (s := OpenSpec.ofChange Rows.topBackSpec) (t := 4) (Gs := [dOne dBool, dOne (dSl 5 dSdG), dOne (dSl 1 (dOne (dInt .u8))), dOne (dInt .u8)]) own started (by kernel_rfl) Tryd.func10
    (witness_row_atRef (enc := enc) (C := Tryd.checked) false (World.doorLaid Tryd.prog 400 os) #[.bool false, .slice none 0 0, .slice none 0 0, .int .u8 0] rfl (by kernel_rfl) (by kernel_rfl) (by kernel_rfl)
      (OpenSpec.preRow_of_cond 8 hx (by kernel_rfl) (fun k hk => by cases hk) (by kernel_rfl) (door_met os _)))
    (.cons 4 _ _ _ (.ofC (.bool (by kernel_rfl)) (.inl (by kernel_rfl))) (.cons 77 _ _ _ decESds (.cons 61 _ _ _ decEBys (.cons 5 _ _ _ (.ofC (DecD.int (k := .u8) (by kernel_rfl)) (.inr (.inr (.inl ⟨.u8, by kernel_rfl⟩)))) .nil)))) rfl rfl rfl rfl Tryd.underlying4 ?_ laidOut (by kernel_rfl) glOf ?_
  · intro ds h
    match ds, h with
    | [_, _, _, _], _ => exact ⟨rfl, rfl, rfl⟩
  · rintro ds qs hcond hwt ⟨d0, _, p0, _, rfl, rfl, g0, d1, _, p1, _, rfl, rfl, g1, d2, _, p2, _, rfl, rfl, g2, d3, _, p3, _, rfl, rfl, g3, rfl, rfl⟩
    rw [Tryd.params10] at hwt
    obtain ⟨w0, hwt⟩ := weach hwt
    obtain ⟨w1, hwt⟩ := weach hwt
    obtain ⟨w2, hwt⟩ := weach hwt
    obtain ⟨w3, hwt⟩ := weach hwt
    obtain ⟨x0, e0, rfl⟩ := g0
    cases e0
    obtain ⟨x1, e1, q1, n1⟩ := dsds_of g1
    cases e1
    have q1 := q1 w1
    obtain ⟨x2, e2, u2, q2, b2⟩ := dbys_of g2
    cases e2
    have q2 := q2 w2
    obtain ⟨x3, e3, rfl, v3⟩ := g3
    cases e3
    obtain ⟨y3, rfl, h3⟩ := nat_u8 v3
    exact topBack_fs x0 x1 n1 q1 x2 u2 q2 y3 h3

theorem topBack_holds : Rows.TopBackSaid :=
  OpenClaim.holds_of_cond 10 Tryd.f10 rfl rfl rfl rfl rfl rfl rfl ⟨rfl, rfl, rfl, rfl, rfl⟩ rfl rfl rfl rfl rfl (by kernel_rfl) Tryd.func10 (by kernel_rfl)
    (of_decide_eq_true (by kernel_rfl)) (by unfold Func.isWrapper; first | (rw [if_pos (by decide +kernel)]; kernel_rfl) | (rw [if_neg (by decide +kernel)]; exact ⟨rfl, rfl⟩))
    (fun os started H enc _ F => by rw [OpenClaim.pre_eq_preRow]; exact topBack_lifted os started H enc F)

theorem topBack_card_holds : Rows.TopBackCardSaid :=
  Claim7.holds_tied_plain_at .later [] [.data, .listed, .data, .data] true (true, "b0f27f898b90f5db0f99a5da3175e688fc5bb262d7fa9e96bfb0d38f8489e16c") true
    topBack_holds (fun _ h => by cases h) (by kernel_rfl) (fun _ h => by cases h) topBack_row_tie rfl ⟨rfl, rfl⟩ (by kernel_rfl) rfl
    (fun f fn hf hfn => by
      obtain rfl : f = 10 := Option.some.inj ((show Tryd.prog.funcNamed Rows.topBackRow.func = some 10 by kernel_rfl).symm.trans hf) |>.symm
      obtain rfl : fn = Tryd.f10 := (Option.some.inj (Tryd.func10.symm.trans hfn)).symm
      exact ⟨by kernel_rfl, fun j t ht => by
        rw [Tryd.params10] at ht
        have hm : t ∈ [4, 77, 61, 5] := by simpa using Array.mem_of_getElem? ht
        have hall : ([4, 77, 61, 5].all fun u => !Tryd.prog.wantsStandIn u) = true := by kernel_rfl
        exact (show Tryd.prog.wantsStandIn t = false by simpa using List.all_eq_true.1 hall t hm)⟩)
    (by kernel_rfl)
end Go.Proofs.YtbpjoeopnaggoaaDoor
