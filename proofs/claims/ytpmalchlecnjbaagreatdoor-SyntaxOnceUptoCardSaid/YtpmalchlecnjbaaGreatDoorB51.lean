/- Joined texts: PCK2. -/
import Derived.Test.YtpmalchlecnjbaaGreatDoorB50
import Derived.Test.YtpmalchlecnjbaaGreatDoorB46
set_option linter.unusedVariables false
set_option linter.unusedSimpArgs false
/- The witness's world, theW_once. -/
namespace Go.Proofs.YtpmalchlecnjbaaGreatDoor
open Go.RowKit Go.Chalk
open Go.ChangeShapes Go.WideShapes Go.ChangeAt
theorem theW_once (os:Os) (args:Array Value):(DataW.laidRun Tryz.prog (((theW os).forCall (fun _ _=>0) ⟨#[],args,[]⟩).memory) 8 ((Rows.syntaxFormsUptoRow.laid.filter fun x=>x.2.handleName?.isNone).map (·.1))).map (fun x=>decide x.2.Nodup&&laidRowsB Tryz.prog (((theW os).forCall (fun _ _=>0) ⟨#[],args,[]⟩).memory) x.2)=some true:=by
 have h1:=theW_nodup os args
 have h2:=theW_rows os args
 revert h1 h2
 generalize (DataW.laidRun Tryz.prog (((theW os).forCall (fun _ _=>0) ⟨#[],args,[]⟩).memory) 8 ((Rows.syntaxFormsUptoRow.laid.filter fun x=>x.2.handleName?.isNone).map (·.1)))=r
 intro h1 h2
 cases r with
 | none=>cases h1
 | some x=>simp only [Option.map_some,Option.some.injEq] at h1 h2 ⊢;rw [h1,h2];rfl
end Go.Proofs.YtpmalchlecnjbaaGreatDoor
