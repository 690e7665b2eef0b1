/- Joined texts: PCK5. -/
import Derived.Test.YtpmalchlecnjbaaGreatDoorV43
set_option linter.unusedVariables false
set_option linter.unusedSimpArgs false
/- The witness's world, theW_vars, theW_rest. -/
namespace Go.Proofs.YtpmalchlecnjbaaGreatDoor
open Go.RowKit Go.Chalk
open Go.ChangeShapes Go.WideShapes Go.ChangeAt
theorem theW_vars (os:Os) (args:Array Value):((theW os).forCall (fun _ _=>0) ⟨#[],args,[]⟩).variablesRefB Tryz.checked.prog=true:=by kernel_rfl
theorem theW_rest (os:Os) (args:Array Value):(((theW os).forCall (fun _ _=>0) ⟨#[],args,[]⟩).heap.toList.drop Tryz.checked.prog.globals.size).take ((begin Tryz.checked.prog (fun _ _=>0) default).world.heap.size - Tryz.checked.prog.globals.size) =
  (begin Tryz.checked.prog (fun _ _=>0) default).world.heap.toList.drop Tryz.checked.prog.globals.size:=by kernel_rfl
end Go.Proofs.YtpmalchlecnjbaaGreatDoor
