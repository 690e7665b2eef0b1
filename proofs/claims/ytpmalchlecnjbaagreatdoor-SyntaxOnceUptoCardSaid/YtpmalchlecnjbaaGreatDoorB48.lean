/- Joined texts: PCK4. -/
import Derived.Test.YtpmalchlecnjbaaGreatDoorB44
set_option maxRecDepth 100000
set_option linter.unusedVariables false
set_option linter.unusedSimpArgs false
/- The witness's world, theW_funcs. -/
namespace Go.Proofs.YtpmalchlecnjbaaGreatDoor
open Go.RowKit Go.Chalk
open Go.ChangeShapes Go.WideShapes Go.ChangeAt
theorem theW_funcs (os:Os) (args:Array Value):funcsRun Tryz.prog (((theW os).forCall (fun _ _=>0) ⟨#[],args,[]⟩).memory) 8 ((funcsListed Rows.syntaxFormsUptoRow.laid).map (·.1))=some ((funcsListed Rows.syntaxFormsUptoRow.laid).map (·.2.funcsOut)):=by kernel_rfl
end Go.Proofs.YtpmalchlecnjbaaGreatDoor
