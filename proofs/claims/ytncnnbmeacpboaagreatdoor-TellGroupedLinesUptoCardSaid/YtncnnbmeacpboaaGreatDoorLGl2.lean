/- Joined texts: GrdW, TruP. -/
import Derived.Test.YtncnnbmeacpboaaGreatDoorN06
set_option linter.unusedVariables false
set_option linter.unusedSimpArgs false
/- The plain law of the frame: its formulas are true exactly under the assignments of weeks. No program is named here. -/
namespace Go.Chalk
end Go.Chalk
/- The assignment of a week, as week.True builds it. No program is named here. -/
namespace Go.Chalk
end Go.Chalk
