/- Joined texts: LinCheck, Bools. -/
import Derived.Test.YtncnnbmeacpboaaGreatDoorLGl4
import Derived.Test.YtncnnbmeacpboaaGreatDoorChecked
import Derived.Shelf.Abstract
import Derived.WalkLawsBesides
set_option linter.unusedVariables false
set_option linter.unusedSimpArgs false
/- lin.Check of a constraint that is well-formed. -/
namespace Go.Chalk
end Go.Chalk
namespace Go.Proofs.YtncnnbmeacpboaaGreatDoor
open Go.RowKit Go.Chalk
end Go.Proofs.YtncnnbmeacpboaaGreatDoor
/- Slices of bools; the value of a literal and of a constraint. -/
namespace Go.Chalk
open Go.RowKit
def dbools (xs:List Bool):List D:=xs.map D.bool
@[simp] theorem dbools_length (xs:List Bool):(dbools xs).length=xs.length:=by simp [dbools]
end Go.Chalk
namespace Go.Proofs.YtncnnbmeacpboaaGreatDoor
open Go.RowKit Go.Chalk
end Go.Proofs.YtncnnbmeacpboaaGreatDoor
