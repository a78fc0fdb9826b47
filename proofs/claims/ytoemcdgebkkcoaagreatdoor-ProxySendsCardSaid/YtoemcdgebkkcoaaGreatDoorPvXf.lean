/- The end of a function whose result lies in a box. Nothing of any program. -/
import Derived.Test.YtoemcdgebkkcoaaGreatDoorPvYb
namespace Go.Pv
variable [GTab]
theorem endK_cell {P : Program} {S : PS} {m a t id : Nat} {ps qs rs : List PV} {bs' : List (List PV)} (γ : List Nat) (ha : S.get a = .box id 0) (ho : S.obj id = some ps) (hl : ldOk P t ps) (hp : ldPV P t ps = .agg qs) (hr : wkL (res1 [] γ) qs rs)
    (g1 : γ.length = bs'.length) (g2 : nodupB γ = true) (g3 : (upto 0 m).all (fun i => γ[i]? == some i) = true)
    (hw : ∀ (i j : Nat) (ps : List PV), γ[i]? = some j → bs'[i]? = some ps → ∃ qs, S.obj j = some qs ∧ wkL (res1 [] γ) qs ps) : endK P m [.cell a t] bs' 0 (.agg rs) S := by
  have hs : resPV P S [.cell a t] = some [.agg qs] := by
    simp only [resPV, ha, ho, List.drop_zero, Option.map_some, hp]
  refine endK_box [] γ rfl rfl rfl g1 g2 g3 hw ⟨?_, by rw [hs]; rfl, ?_⟩
  · simp only [resOk, ha, ho, List.drop_zero, and_true]; exact hl
  · unfold resOf
    rw [hs]
    exact .inr ⟨qs, rfl, hr⟩
end Go.Pv
