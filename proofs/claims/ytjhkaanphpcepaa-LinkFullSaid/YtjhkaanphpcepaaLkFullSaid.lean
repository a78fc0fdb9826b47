/- LinkFull: the given statement, proved. No condition. -/
import Derived.Test.YtjhkaanphpcepaaLkFull
import Derived.Test.YtjhkaanphpcepaaRows
set_option maxRecDepth 100000
namespace Go.Proofs.Ytjhkaanphpcepaa
open Go.Pv Go.Proofs.Lk

theorem wf_u8 {k : Int} (h : (Lit.int .u8 k).wf = true) : 0 ≤ k ∧ k ≤ 255 := by
  simp [Lit.wf] at h
  have e1 : IntKind.u8.min = 0 := by decide
  have e2 : IntKind.u8.max = 255 := by decide
  omega
theorem wf_u16 {k : Int} (h : (Lit.int .u16 k).wf = true) : 0 ≤ k ∧ k ≤ 65535 := by
  simp [Lit.wf] at h
  have e1 : IntKind.u16.min = 0 := by decide
  have e2 : IntKind.u16.max = 65535 := by decide
  omega
theorem own : ownKnob Try.prog.godebug = none := by kernel_rfl
theorem laidOut : laidOutB Try.prog = true := by kernel_rfl

theorem linkFull_lifted (os : Os) (started : os.Started) (H : Type) (enc : TypeId × Value → H) :
    ReturnsInHanded {} Try.checked os 4 .any (Rows.linkFullSpec.pre6 enc Try.prog Try.f4 [] false) (Rows.linkFullSpec.post enc Try.prog Try.f4 false true false false) := by
  refine lawIn (C := Try.checked) (t := 4) (Gs := [one1 (gInt .u8), one1 (gInt .u16)]) own started (by kernel_rfl) Try.func4
    (ChangeSpec.witness6 (enc := enc) (C := Try.checked) false ⟨#[], #[.int .u8 0, .int .u16 0], []⟩ 8 (by kernel_rfl) (by kernel_rfl) (by kernel_rfl) (by kernel_rfl))
    (.cons 5 _ _ _ (.int Try.underlying5) (.cons 25 _ _ _ (.int Try.underlying25) .nil)) rfl rfl Try.underlying4
    ?_ laidOut (by kernel_rfl) rfl ?_
  · intro ds h
    match ds, h with
    | [_, _], _ => exact ⟨rfl, rfl, rfl⟩
  · rintro _ ⟨_, _, rfl, ⟨k, hk, wk⟩, _, _, rfl, ⟨n, hn, wn⟩, rfl⟩
    cases hk; cases hn
    have h1 : 0 ≤ k ∧ k ≤ 255 := wf_u8 wk
    have h2 : 0 ≤ n ∧ n ≤ 65535 := wf_u16 wn
    exact linkFull_fs k n h1.1 h1.2 h2.1 h2.2

theorem linkFull_holds : Rows.LinkFullSaid :=
  OpenClaim.holds_of_wide 4 Try.f4 rfl rfl rfl rfl rfl rfl rfl ⟨rfl, rfl, rfl, rfl, rfl⟩ rfl rfl rfl rfl rfl (by kernel_rfl) Try.func4 (by kernel_rfl)
    (of_decide_eq_true (by kernel_rfl)) (by unfold Func.isWrapper; first | (rw [if_pos (by decide +kernel)]; kernel_rfl) | (rw [if_neg (by decide +kernel)]; exact ⟨rfl, rfl⟩))
    (fun os started H enc _ => linkFull_lifted os started H enc)

end Go.Proofs.Ytjhkaanphpcepaa
