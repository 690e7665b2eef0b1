/- Joined texts: Elems, Elems2. -/
import Derived.Test.YtpmalchlecnjbaaGreatDoorV17
import Derived.Stop.RegionWithIn
import Derived.Lib.ItoaNum
import Derived.Laws.Concat
set_option linter.unusedVariables false
set_option linter.unusedSimpArgs false
/- school.row, school.elements, school.Count. -/
namespace Go.Proofs.YtpmalchlecnjbaaGreatDoor
open Go.RowKit Go.Chalk
attribute [local go_sem] Oper.semAt_some
end Go.Proofs.YtpmalchlecnjbaaGreatDoor
/- school.each over days and houses. -/
namespace Go.Proofs.YtpmalchlecnjbaaGreatDoor
open Go.RowKit Go.Chalk
attribute [local go_sem] Oper.semAt_some
end Go.Proofs.YtpmalchlecnjbaaGreatDoor
