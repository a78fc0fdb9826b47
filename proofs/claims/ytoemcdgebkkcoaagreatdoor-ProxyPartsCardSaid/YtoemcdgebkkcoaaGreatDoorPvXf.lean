/- The end of a function whose result lies in a box. Nothing of any program. -/
import Derived.Test.YtoemcdgebkkcoaaGreatDoorPvYb
namespace Go.Pv
variable [GTab]
end Go.Pv
