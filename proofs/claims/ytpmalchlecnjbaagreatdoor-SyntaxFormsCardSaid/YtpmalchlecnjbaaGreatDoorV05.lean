/- Joined texts: AppendSrc. -/
import Derived.Test.YtpmalchlecnjbaaGreatDoorV04
import Derived.Test.YtpmalchlecnjbaaGreatDoorV03
set_option linter.unusedVariables false
set_option linter.unusedSimpArgs false
/- append(own, src...): whatever the source's length. -/
namespace Go.Chalk
open Go.RowKit
section
variable {P:Program} (w:World)
end
end Go.Chalk
