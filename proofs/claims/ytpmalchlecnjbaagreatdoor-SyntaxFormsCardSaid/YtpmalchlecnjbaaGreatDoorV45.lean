/- Joined texts: PCK7. -/
import Derived.Test.YtpmalchlecnjbaaGreatDoorV43
set_option maxRecDepth 100000
set_option linter.unusedVariables false
set_option linter.unusedSimpArgs false
/- The witness's world, theW_rows. -/
namespace Go.Proofs.YtpmalchlecnjbaaGreatDoor
open Go.RowKit Go.Chalk
open Go.ChangeShapes Go.WideShapes Go.ChangeAt
theorem theW_rows (os:Os) (args:Array Value):(DataW.laidRun Tryz.prog (((theW os).forCall (fun _ _=>0) ⟨#[],args,[]⟩).memory) 8 ((Rows.syntaxFormsUptoRow.laid.filter fun x=>x.2.handleName?.isNone).map (·.1))).map (fun x=>laidRowsB Tryz.prog (((theW os).forCall (fun _ _=>0) ⟨#[],args,[]⟩).memory) x.2)=some true:=by kernel_rfl
end Go.Proofs.YtpmalchlecnjbaaGreatDoor
