/- Joined texts: PCK3. -/
import Derived.Test.YtpmalchlecnjbaaGreatDoorB44
set_option linter.unusedVariables false
set_option linter.unusedSimpArgs false
/- The witness's world, theW_handles. -/
namespace Go.Proofs.YtpmalchlecnjbaaGreatDoor
open Go.RowKit Go.Chalk
open Go.ChangeShapes Go.WideShapes Go.ChangeAt
theorem theW_handles (os:Os) (args:Array Value):(Rows.syntaxFormsUptoRow.laid.filter fun x=>x.2.handleName?.isSome&&x.2.funcsIn?.isNone).all (handleAtB Tryz.prog (((theW os).forCall (fun _ _=>0) ⟨#[],args,[]⟩).memory))=true:=by kernel_rfl
end Go.Proofs.YtpmalchlecnjbaaGreatDoor
