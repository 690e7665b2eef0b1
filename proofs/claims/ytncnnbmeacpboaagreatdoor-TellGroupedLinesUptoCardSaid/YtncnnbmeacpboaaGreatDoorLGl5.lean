/- Joined texts: IterB. -/
import Derived.Test.YtncnnbmeacpboaaGreatDoorN12
set_option linter.unusedVariables false
set_option linter.unusedSimpArgs false
/- A block, in an activation of a function that is known. -/
namespace Go.Chalk
open Go.RowKit
end Go.Chalk
