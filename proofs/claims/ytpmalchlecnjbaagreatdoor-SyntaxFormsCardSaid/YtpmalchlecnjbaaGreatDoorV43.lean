/- Joined texts: PCK0, PCK3, PCK4. -/
import Derived.Test.YtpmalchlecnjbaaGreatDoorV42
import Derived.Test.YtpmalchlecnjbaaGreatDoorV40
import Derived.Lay
import Derived.Deep.DeepWitnessRef
set_option maxRecDepth 100000
set_option linter.unusedVariables false
set_option linter.unusedSimpArgs false
/- The witness's world. (after ZCardKit) -/
namespace Go.Proofs.YtpmalchlecnjbaaGreatDoor
open Go.RowKit Go.Chalk
open Go.ChangeShapes Go.WideShapes Go.ChangeAt
noncomputable def firstCells:Array Value:=match DataW.lay Tryz.prog 168 0 Rows.laid_unicode_utf8_first with | some x=>x.1.toArray | none=>#[]
noncomputable def theW (os:Os):World :=
 { World.doorLaid Tryz.prog 4000 os with heap:=(World.doorLaid Tryz.prog 4000 os).heap.modify 9 fun
   | .cells _ t frozen=>.cells firstCells t frozen
   | o=>o }
end Go.Proofs.YtpmalchlecnjbaaGreatDoor
/- The witness's world, theW_handles. -/
namespace Go.Proofs.YtpmalchlecnjbaaGreatDoor
open Go.RowKit Go.Chalk
open Go.ChangeShapes Go.WideShapes Go.ChangeAt
theorem theW_handles (os:Os) (args:Array Value):(Rows.syntaxFormsUptoRow.laid.filter fun x=>x.2.handleName?.isSome&&x.2.funcsIn?.isNone).all (handleAtB Tryz.prog (((theW os).forCall (fun _ _=>0) ⟨#[],args,[]⟩).memory))=true:=by kernel_rfl
end Go.Proofs.YtpmalchlecnjbaaGreatDoor
/- The witness's world, theW_funcs. -/
namespace Go.Proofs.YtpmalchlecnjbaaGreatDoor
open Go.RowKit Go.Chalk
open Go.ChangeShapes Go.WideShapes Go.ChangeAt
theorem theW_funcs (os:Os) (args:Array Value):funcsRun Tryz.prog (((theW os).forCall (fun _ _=>0) ⟨#[],args,[]⟩).memory) 8 ((funcsListed Rows.syntaxFormsUptoRow.laid).map (·.1))=some ((funcsListed Rows.syntaxFormsUptoRow.laid).map (·.2.funcsOut)):=by kernel_rfl
end Go.Proofs.YtpmalchlecnjbaaGreatDoor
