/- Parts of the proof. -/
import Derived.Test.YtncnnbmeacpboaaGreatDoorLWa4
import Derived.Test.YtncnnbmeacpboaaGreatDoorChecked
import Derived.Shelf.Abstract
set_option linter.unusedVariables false
set_option linter.unusedSimpArgs false
namespace Go.aa
open Go.RowKit
def EU(xs:List Bool):List D:=xs.map D.bool
@[simp] theorem Ib(xs:List Bool):(EU xs).length=xs.length:=by simp[EU]
end Go.aa
