/- ProxySends: the given statement, proved. No condition. -/
import Derived.Test.YtoemcdgebkkcoaaGreatDoorPxS4
import Derived.Test.YtoemcdgebkkcoaaGreatDoorPxSeatW
import Derived.Test.YtoemcdgebkkcoaaGreatDoorCards
import Derived.Test.YtoemcdgebkkcoaaGreatDoorTie
set_option maxRecDepth 100000
set_option linter.unusedVariables false
namespace Go.Proofs.YtoemcdgebkkcoaaGreatDoor
open Go.Pv Go.Proofs.Sh

theorem proxySends_reads (os : Os) {H : Type} (enc : TypeId × Value → H) : ∃ places, DataW.whole enc Tryz.prog ((World.doorLaid Tryz.prog 400 os).forCall (fun _ _ => 0) ⟨#[], #[.int .u8 0, .slice none 0 0, .string ⟨#[]⟩, .int .u16 0], []⟩).memory Tryz.f5.params.toList Rows.proxySendsSpec.vars false #[.int .u8 0, .slice none 0 0, .string ⟨#[]⟩, .int .u16 0].toList 8 = some ([.lit (.int .u8 0), .nil, .lit (.string []), .lit (.int .u16 0)], [], places) :=
  ⟨[], by kernel_rfl⟩
theorem proxySends_lifted (os : Os) (started : os.Started) (H : Type) (enc : TypeId × Value → H) (F : Stop.Interp) :
    ReturnsInHanded {} Tryz.checked os 5 .any ((OpenSpec.ofChange Rows.proxySendsSpec).preRow enc Tryz.prog Tryz.f5 [] false laidV) (((OpenSpec.ofChange Rows.proxySendsSpec).at F).post enc Tryz.prog Tryz.f5 false true false false) := by
  obtain ⟨places, hx⟩ := proxySends_reads os enc
  refine lawRow (C := Tryz.checked) (s0 := Rows.proxySendsSpec) (s := OpenSpec.ofChange Rows.proxySendsSpec) (t := 4) (Gs := [dOne (dInt .u8), dOne (dSl 4 dRqG), dOne dStr, dOne (dInt .u16)]) own started (by kernel_rfl) Tryz.func5
    (witness_row_atRef (enc := enc) (C := Tryz.checked) false (World.doorLaid Tryz.prog 400 os) #[.int .u8 0, .slice none 0 0, .string ⟨#[]⟩, .int .u16 0] rfl (by kernel_rfl) (by kernel_rfl) (by kernel_rfl)
      (OpenSpec.preRow_of_cond 8 hx (by kernel_rfl) (fun k hk => by cases hk) (by kernel_rfl) (door_met os _)))
    (.cons 5 _ _ _ (.ofC (DecD.int (k := .u8) (by kernel_rfl)) (.inr (.inr (.inl ⟨.u8, by kernel_rfl⟩)))) (.cons 22 _ _ _ decERqs (.cons 9 _ _ _ (.ofC (.str (by kernel_rfl)) (.inr (.inl (by kernel_rfl)))) (.cons 47 _ _ _ (.ofC (DecD.int (k := .u16) (by kernel_rfl)) (.inr (.inr (.inl ⟨.u16, by kernel_rfl⟩)))) .nil)))) rfl rfl rfl rfl Tryz.underlying4 ?_ laidOut (by kernel_rfl) glOf ?_
  · intro ds h
    match ds, h with
    | [_, _, _, _], _ => exact ⟨rfl, rfl, rfl⟩
  · rintro ds qs hcond hwt ⟨d0, _, p0, _, rfl, rfl, g0, d1, _, p1, _, rfl, rfl, g1, d2, _, p2, _, rfl, rfl, g2, d3, _, p3, _, rfl, rfl, g3, rfl, rfl⟩
    rw [Tryz.params5] at hwt
    obtain ⟨w0, hwt⟩ := weach hwt
    obtain ⟨w1, hwt⟩ := weach hwt
    obtain ⟨w2, hwt⟩ := weach hwt
    obtain ⟨w3, hwt⟩ := weach hwt
    obtain ⟨x0, e0, rfl, v0⟩ := g0
    cases e0
    obtain ⟨x1, e1, q1, b1⟩ := drqs_of g1
    cases e1
    have q1 := q1 w1
    obtain ⟨x2, e2, rfl, v2⟩ := g2
    cases e2
    obtain ⟨x3, e3, rfl, v3⟩ := g3
    cases e3
    obtain ⟨k0, rfl, hk0⟩ := nat_u8 v0
    obtain ⟨k3, rfl, hk3⟩ := nat_u16 v3
    exact sends_fs k0 k3 x1 x2 hk0 hk3 q1.1 q1.2

theorem proxySends_holds : Rows.ProxySendsSaid :=
  OpenClaim.holds_of_cond 5 Tryz.f5 rfl rfl rfl rfl rfl rfl rfl ⟨rfl, rfl, rfl, rfl, rfl⟩ rfl rfl rfl rfl rfl (by kernel_rfl) Tryz.func5 (by kernel_rfl)
    (of_decide_eq_true (by kernel_rfl)) (by unfold Func.isWrapper; first | (rw [if_pos (by decide +kernel)]; kernel_rfl) | (rw [if_neg (by decide +kernel)]; exact ⟨rfl, rfl⟩))
    (fun os started H enc _ F => by rw [OpenClaim.pre_eq_preRow]; exact proxySends_lifted os started H enc F)

theorem proxySends_card_holds : Rows.ProxySendsCardSaid :=
  Claim7.holds_tied_plain_at .later [] [.data, .listed, .data, .data] true (true, "96bdd31037fbb8da275680d09ec0d880733ff5197ed64ebcd1203fbb20af3386") false
    proxySends_holds (fun _ h => by cases h) (by kernel_rfl) (fun _ h => by cases h) proxySends_row_tie rfl ⟨rfl, rfl⟩ (by kernel_rfl) rfl
    (fun f fn hf hfn => by
      obtain rfl : f = 5 := Option.some.inj ((show Tryz.prog.funcNamed Rows.proxySendsRow.func = some 5 by kernel_rfl).symm.trans hf) |>.symm
      obtain rfl : fn = Tryz.f5 := (Option.some.inj (Tryz.func5.symm.trans hfn)).symm
      exact ⟨by kernel_rfl, fun j t ht => by
        rw [Tryz.params5] at ht
        have hm : t ∈ [5, 22, 9, 47] := by simpa using Array.mem_of_getElem? ht
        have hall : ([5, 22, 9, 47].all fun u => !Tryz.prog.wantsStandIn u) = true := by kernel_rfl
        exact (show Tryz.prog.wantsStandIn t = false by simpa using List.all_eq_true.1 hall t hm)⟩)
    (by kernel_rfl)
end Go.Proofs.YtoemcdgebkkcoaaGreatDoor
