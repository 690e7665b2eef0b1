/- Joined texts: PArgs. -/
import Derived.Test.YtpmalchlecnjbaaGreatDoorV12
import Derived.Test.YtpmalchlecnjbaaGreatDoorV04
import Derived.Test.YtpmalchlecnjbaaGreatDoorChecked
import Derived.Test.YtpmalchlecnjbaaGreatDoorV39
set_option linter.unusedVariables false
set_option linter.unusedSimpArgs false
/- The Syntax laws' arguments: formulas, rules. (cut out of ZArgs) -/
namespace Go.Proofs.YtpmalchlecnjbaaGreatDoor
open Go.ChangeShapes Go.WideShapes Go.ChangeAt Go.RowKit Go.Chalk
def argTs:List TypeId:=[64,38,28,26,24,61,25,74,9,3,4]
theorem argTypes:plainTypes Tryz.prog argTs=true:=by kernel_rfl
section
variable {H:Type} {enc:TypeId×Value->H} {W:World} {base:Nat} {v:Value} {d:DataW H} {ps:List MemPlace} {sp:Nat->Bool} {held:Bool}
end
end Go.Proofs.YtpmalchlecnjbaaGreatDoor
