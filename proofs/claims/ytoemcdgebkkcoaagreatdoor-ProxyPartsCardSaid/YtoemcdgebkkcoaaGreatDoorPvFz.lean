/- Abstract values: a box that is left as it is from a place of the code on. Nothing of any program. -/
import Derived.Test.YtoemcdgebkkcoaaGreatDoorPvZ
set_option linter.unusedSimpArgs false
set_option linter.unusedVariables false
set_option linter.unusedSectionVars false
namespace Go.Pv
variable [GTab]
theorem Wk.trans {m : Nat} {S T U : PS} (a : Wk m S T) (b : Wk m T U) : Wk m S U := by
  intro g tmps w hI hF hp
  obtain ⟨g1, h1, h2, h3⟩ := a g tmps w hI hF hp
  obtain ⟨g2, k1, k2, k3⟩ := b g1 tmps w h1 h2 (fun i hi => by rw [h3.pin i hi]; exact hp i hi)
  exact ⟨g2, k1, k2, h3.trans k3⟩
end Go.Pv
