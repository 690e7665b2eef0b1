/- Joined texts: Same. -/
import Derived.Test.YtncnnbmeacpboaaGreatDoorN04
import Derived.Test.YtncnnbmeacpboaaGreatDoorProg
import Derived.Outline
import Derived.Deep.RegionLaw
import Derived.Deep.QuietTactic
import Derived.BigQuiet
set_option linter.unusedVariables false
set_option linter.unusedSimpArgs false
/- The references' Same and SameAll on constraints that are equal. -/
namespace Go.Proofs.YtncnnbmeacpboaaGreatDoor
open Go.RowKit Go.Chalk
end Go.Proofs.YtncnnbmeacpboaaGreatDoor
