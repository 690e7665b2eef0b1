/- Joined texts: Named. -/
import Derived.Test.YtpmalchlecnjbaaGreatDoorV21
import Derived.Test.YtpmalchlecnjbaaGreatDoorV25
import Derived.Test.YtpmalchlecnjbaaGreatDoorChecked
import Derived.Laws.Concat
import Derived.WalkKit
import Derived.Laws.EntriesVeiled
import Derived.WalkSpells
import Derived.WalkLawsBesides
set_option linter.unusedVariables false
set_option linter.unusedSimpArgs false
/- school.named. -/
namespace Go.Chalk
end Go.Chalk
namespace Go.Proofs.YtpmalchlecnjbaaGreatDoor
open Go.RowKit Go.Chalk
end Go.Proofs.YtpmalchlecnjbaaGreatDoor
