/- LinkPackets: the given statement, proved. No condition. -/
import Derived.Test.YtjhkaanphpcepaaLkLaw
import Derived.Test.YtjhkaanphpcepaaRows
set_option maxRecDepth 100000
namespace Go.Proofs.Ytjhkaanphpcepaa
open Go.Pv Go.Proofs.Lk

theorem own : ownKnob Try.prog.godebug = none := by kernel_rfl
theorem laidOut : laidOutB Try.prog = true := by kernel_rfl

theorem linkPackets_lifted (os : Os) (started : os.Started) (H : Type) (enc : TypeId × Value → H) :
    ReturnsInHanded {} Try.checked os 3 .any (Rows.linkPacketsSpec.pre6 enc Try.prog Try.f3 [] false) (Rows.linkPacketsSpec.post enc Try.prog Try.f3 false true false false) := by
  refine lawIn (C := Try.checked) (t := 4) (Gs := [one1 (gInt .i64), one1 (gInt .i64), one1 (gInt .i64), one1 gStr]) own started (by kernel_rfl) Try.func3
    (ChangeSpec.witness6 (enc := enc) (C := Try.checked) false ⟨#[], #[.int .i64 0, .int .i64 0, .int .i64 0, .string ⟨#[]⟩], []⟩ 8 (by kernel_rfl) (by kernel_rfl) (by kernel_rfl) (by kernel_rfl))
    (.cons 3 _ _ _ (.int Try.underlying3) (.cons 3 _ _ _ (.int Try.underlying3) (.cons 3 _ _ _ (.int Try.underlying3) (.cons 9 _ _ _ (.str Try.underlying9) .nil)))) rfl rfl Try.underlying4
    ?_ laidOut (by kernel_rfl) ?_
  · intro ds h
    match ds, h with
    | [_, _, _, _], _ => exact ⟨rfl, rfl, rfl⟩
  · rintro _ ⟨_, _, rfl, ⟨k, hk, -⟩, _, _, rfl, ⟨n, hn, -⟩, _, _, rfl, ⟨a, ha, -⟩, _, _, rfl, ⟨b, hb, -⟩, rfl⟩
    cases hk; cases hn; cases ha; cases hb
    exact linkPackets_fs k n a b

theorem linkPackets_holds : Rows.LinkPacketsSaid :=
  OpenClaim.holds_of_wide 3 Try.f3 rfl rfl rfl rfl rfl rfl rfl ⟨rfl, rfl, rfl, rfl, rfl⟩ rfl rfl rfl rfl rfl (by kernel_rfl) Try.func3 (by kernel_rfl)
    (of_decide_eq_true (by kernel_rfl)) (by unfold Func.isWrapper; first | (rw [if_pos (by decide +kernel)]; kernel_rfl) | (rw [if_neg (by decide +kernel)]; exact ⟨rfl, rfl⟩))
    (fun os started H enc _ => linkPackets_lifted os started H enc)

end Go.Proofs.Ytjhkaanphpcepaa
