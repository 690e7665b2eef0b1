/- Joined texts: Same. -/
import Derived.Test.YtjjkfgjnadaheaaGreatDoorB04
import Derived.Test.YtjjkfgjnadaheaaGreatDoorProg
import Derived.Outline
import Derived.Deep.RegionLaw
import Derived.Deep.QuietTactic
import Derived.BigQuiet
set_option linter.unusedVariables false
set_option linter.unusedSimpArgs false
/- The references' Same and SameAll on constraints that are equal. -/
namespace Go.Proofs.YtjjkfgjnadaheaaGreatDoor
open Go.RowKit Go.Chalk
end Go.Proofs.YtjjkfgjnadaheaaGreatDoor
