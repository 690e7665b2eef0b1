/- Joined texts: PCK0. -/
import Derived.Test.YtpmalchlecnjbaaGreatDoorB43
import Derived.Test.YtpmalchlecnjbaaGreatDoorB41
import Derived.Lay
import Derived.Deep.DeepWitnessRef
set_option linter.unusedVariables false
set_option linter.unusedSimpArgs false
/- The witness's world. (after ZCardKit) -/
namespace Go.Proofs.YtpmalchlecnjbaaGreatDoor
open Go.RowKit Go.Chalk
open Go.ChangeShapes Go.WideShapes Go.ChangeAt
noncomputable def firstCells:Array Value:=match DataW.lay Tryz.prog 168 0 Rows.laid_unicode_utf8_first with | some x=>x.1.toArray | none=>#[]
noncomputable def theW (os:Os):World :=
 { World.doorLaid Tryz.prog 4000 os with heap:=(World.doorLaid Tryz.prog 4000 os).heap.modify 9 fun
   | .cells _ t frozen=>.cells firstCells t frozen
   | o=>o }
end Go.Proofs.YtpmalchlecnjbaaGreatDoor
