/- Joined texts: Append0. -/
import Derived.Deep.AppendLies
import Derived.WalkKit
set_option linter.unusedVariables false
set_option linter.unusedSimpArgs false
/- append of nothing. -/
namespace Go.Chalk
open Go.RowKit
section
variable {P:Program} (w:World)
end
end Go.Chalk
