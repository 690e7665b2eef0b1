/- Joined texts: PCK. -/
import Derived.Test.YtpmalchlecnjbaaGreatDoorB44
import Derived.Test.YtpmalchlecnjbaaGreatDoorB45
import Derived.Test.YtpmalchlecnjbaaGreatDoorB51
import Derived.Test.YtpmalchlecnjbaaGreatDoorB47
import Derived.Test.YtpmalchlecnjbaaGreatDoorB48
import Derived.Test.YtpmalchlecnjbaaGreatDoorB49
import Derived.Test.YtpmalchlecnjbaaGreatDoorB41
set_option linter.unusedVariables false
set_option linter.unusedSimpArgs false
/- What the Syntax laws' cards share: the witness's world. (after ZCardKit) -/
namespace Go.Proofs.YtpmalchlecnjbaaGreatDoor
open Go.RowKit Go.Chalk
open Go.ChangeShapes Go.WideShapes Go.ChangeAt
theorem theW_met (os:Os) (args:Array Value):laidMetH Tryz.prog Rows.syntaxFormsUptoRow.laid ((theW os).forCall (fun _ _=>0) ⟨#[],args,[]⟩).memory :=
 laidMetH_of_parts3 (fuel:=8) (laidMet_of_run' 8 (theW_run os args) (theW_once os args)) (theW_handles os args) (theW_funcs os args)
end Go.Proofs.YtpmalchlecnjbaaGreatDoor
