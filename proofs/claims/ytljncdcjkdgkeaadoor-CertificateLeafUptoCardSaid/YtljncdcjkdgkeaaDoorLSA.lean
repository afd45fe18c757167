/- Walk: newTableau. -/
import Derived.Test.YtljncdcjkdgkeaaDoorLN2
import Derived.Deep.CutBlock
import Derived.Deep.RegionLaw
set_option linter.unusedVariables false
set_option linter.unusedSimpArgs false
namespace Go.Proofs.YtljncdcjkdgkeaaDoor.Lp
open Go.RowKit Go.Proofs.YtljncdcjkdgkeaaDoor.Big Go.Proofs.YtljncdcjkdgkeaaDoor.Rt

end Go.Proofs.YtljncdcjkdgkeaaDoor.Lp
