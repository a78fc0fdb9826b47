/- LinkCalms: the given statement, proved. No condition. -/
import Derived.Test.YtjhkaanphpcepaaLkCalms
import Derived.Test.YtjhkaanphpcepaaRows
set_option maxRecDepth 100000
namespace Go.Proofs.Ytjhkaanphpcepaa
open Go.Pv Go.Proofs.Lk

theorem own : ownKnob Try.prog.godebug = none := by kernel_rfl
theorem laidOut : laidOutB Try.prog = true := by kernel_rfl
theorem nat_u8 {n : Int} (h : (Lit.int .u8 n).wf = true) : ∃ a : Nat, n = (a : Int) ∧ a < 256 := by
  simp [Lit.wf] at h
  obtain ⟨h1, h2⟩ := h
  have h3 : IntKind.u8.min = 0 := by decide
  have h4 : IntKind.u8.max = 255 := by decide
  exact ⟨n.toNat, by omega, by omega⟩
theorem u8s_of : ∀ {es : List PV}, (∀ p ∈ es, one1 (gInt .u8) p) → ∃ ps : List Nat, es = u8s ps ∧ ∀ p ∈ ps, p < 256
  | [], _ => ⟨[], rfl, fun p hp => (by cases hp)⟩
  | e :: es, h => by
    obtain ⟨n, hn, hw⟩ := h e (List.mem_cons_self ..)
    obtain ⟨a, rfl, ha⟩ := nat_u8 hw
    obtain ⟨ps, rfl, hp⟩ := u8s_of (es := es) (fun p hp => h p (List.mem_cons_of_mem _ hp))
    cases hn
    refine ⟨a :: ps, rfl, fun p hm => ?_⟩
    rcases List.mem_cons.1 hm with rfl | hm
    · exact ha
    · exact hp p hm
theorem decPicks : DecV Try.prog 34 (one1 (gSl 1 (one1 (gInt .u8)))) := by
  have := DecV.sl (P := Try.prog) (t := 34) (e := 5) (g := gInt .u8) (G := one1 (gInt .u8)) (by kernel_rfl) (.int (by kernel_rfl)) (by rw [show Try.prog.cellsOf 5 = 1 by kernel_rfl]; decide) (fun ps _ h => by obtain ⟨n, rfl, hw⟩ := h; exact ⟨.int .u8 n, rfl, n, rfl, hw⟩)
  rwa [show Try.prog.cellsOf 5 = 1 by kernel_rfl] at this
theorem decSizes : DecV Try.prog 39 (agg1 (gL (List.replicate 2 (gInt .u8)))) :=
  .agg (.arr (n := 2) (e := 5) (by kernel_rfl) (.int (by kernel_rfl)) (by kernel_rfl)) (.inr ⟨2, 5, by kernel_rfl⟩)

theorem linkCalms_lifted (os : Os) (started : os.Started) (H : Type) (enc : TypeId × Value → H) :
    ReturnsInHanded {} Try.checked os 7 .any (Rows.linkCalmsSpec.pre6 enc Try.prog Try.f7 [] false) (Rows.linkCalmsSpec.post enc Try.prog Try.f7 false true false false) := by
  refine lawIn (C := Try.checked) (t := 4) (Gs := [agg1 (gL (List.replicate 2 (gInt .u8))), one1 (gSl 1 (one1 (gInt .u8)))]) own started (by kernel_rfl) Try.func7
    (ChangeSpec.witness6 (enc := enc) (C := Try.checked) false ⟨#[], #[.agg #[.int .u8 0, .int .u8 0], .slice none 0 0], []⟩ 8 (by kernel_rfl) (by kernel_rfl) (by kernel_rfl) (by kernel_rfl))
    (.cons 39 _ _ _ decSizes (.cons 34 _ _ _ decPicks .nil)) rfl rfl Try.underlying4
    ?_ laidOut (by kernel_rfl) rfl ?_
  · intro ds h
    match ds, h with
    | [_, _], _ => exact ⟨rfl, rfl, rfl⟩
  · rintro _ ⟨_, _, rfl, ⟨qs, rfl, q1, r1, rfl, ⟨a, rfl, wa⟩, q2, r2, rfl, ⟨b, rfl, wb⟩, rfl⟩, _, _, rfl, ⟨es, hes, -, hall⟩, rfl⟩
    cases hes
    obtain ⟨a, rfl, ha⟩ := nat_u8 wa
    obtain ⟨b, rfl, hb⟩ := nat_u8 wb
    obtain ⟨ps, rfl, hps⟩ := u8s_of hall
    exact linkCalms_fs a b ps ha hb hps

theorem linkCalms_holds : Rows.LinkCalmsSaid :=
  OpenClaim.holds_of_wide 7 Try.f7 rfl rfl rfl rfl rfl rfl rfl ⟨rfl, rfl, rfl, rfl, rfl⟩ rfl rfl rfl rfl rfl (by kernel_rfl) Try.func7 (by kernel_rfl)
    (of_decide_eq_true (by kernel_rfl)) (by unfold Func.isWrapper; first | (rw [if_pos (by decide +kernel)]; kernel_rfl) | (rw [if_neg (by decide +kernel)]; exact ⟨rfl, rfl⟩))
    (fun os started H enc _ => linkCalms_lifted os started H enc)

end Go.Proofs.Ytjhkaanphpcepaa
