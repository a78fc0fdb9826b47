/- Abstract values: contracts of the kit's as ours. Nothing of any program. -/
import Derived.Test.YtbjeagcnakdmnaaPvU
set_option linter.unusedSimpArgs false
set_option linter.unusedVariables false
set_option linter.unusedSectionVars false
namespace Go.Pv
open Go.RowKit (Below)
variable [GTab]

end Go.Pv
