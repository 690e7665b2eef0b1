/- Joined texts: PCK6, PCK2, PCK. -/
import Derived.Test.YtpmalchlecnjbaaGreatDoorV43
import Derived.LaidOnce
import Derived.Test.YtpmalchlecnjbaaGreatDoorV45
import Derived.Test.YtpmalchlecnjbaaGreatDoorV44
import Derived.Test.YtpmalchlecnjbaaGreatDoorV46
import Derived.Test.YtpmalchlecnjbaaGreatDoorV40
set_option maxRecDepth 100000
set_option linter.unusedVariables false
set_option linter.unusedSimpArgs false
/- The witness's world, theW_nodup. -/
namespace Go.Proofs.YtpmalchlecnjbaaGreatDoor
open Go.RowKit Go.Chalk
open Go.ChangeShapes Go.WideShapes Go.ChangeAt
theorem theW_bits (os:Os) (args:Array Value):(DataW.laidRun Tryz.prog (((theW os).forCall (fun _ _=>0) ⟨#[],args,[]⟩).memory) 8 ((Rows.syntaxFormsUptoRow.laid.filter fun x=>x.2.handleName?.isNone).map (·.1))).map (fun x=>nodupBits 257 x.2 0)=some true:=by kernel_rfl
theorem theW_nodup (os:Os) (args:Array Value):(DataW.laidRun Tryz.prog (((theW os).forCall (fun _ _=>0) ⟨#[],args,[]⟩).memory) 8 ((Rows.syntaxFormsUptoRow.laid.filter fun x=>x.2.handleName?.isNone).map (·.1))).map (fun x=>decide x.2.Nodup)=some true:=by
 have h1:=theW_bits os args
 revert h1
 generalize (DataW.laidRun Tryz.prog (((theW os).forCall (fun _ _=>0) ⟨#[],args,[]⟩).memory) 8 ((Rows.syntaxFormsUptoRow.laid.filter fun x=>x.2.handleName?.isNone).map (·.1)))=r
 intro h1
 cases r with
 | none=>cases h1
 | some x =>
  simp only [Option.map_some,Option.some.injEq] at h1 ⊢
  exact decide_eq_true (nodupBits_sound h1).1
end Go.Proofs.YtpmalchlecnjbaaGreatDoor
/- The witness's world, theW_once. -/
namespace Go.Proofs.YtpmalchlecnjbaaGreatDoor
open Go.RowKit Go.Chalk
open Go.ChangeShapes Go.WideShapes Go.ChangeAt
theorem theW_once (os:Os) (args:Array Value):(DataW.laidRun Tryz.prog (((theW os).forCall (fun _ _=>0) ⟨#[],args,[]⟩).memory) 8 ((Rows.syntaxFormsUptoRow.laid.filter fun x=>x.2.handleName?.isNone).map (·.1))).map (fun x=>decide x.2.Nodup&&laidRowsB Tryz.prog (((theW os).forCall (fun _ _=>0) ⟨#[],args,[]⟩).memory) x.2)=some true:=by
 have h1:=theW_nodup os args
 have h2:=theW_rows os args
 revert h1 h2
 generalize (DataW.laidRun Tryz.prog (((theW os).forCall (fun _ _=>0) ⟨#[],args,[]⟩).memory) 8 ((Rows.syntaxFormsUptoRow.laid.filter fun x=>x.2.handleName?.isNone).map (·.1)))=r
 intro h1 h2
 cases r with
 | none=>cases h1
 | some x=>simp only [Option.map_some,Option.some.injEq] at h1 h2 ⊢;rw [h1,h2];rfl
end Go.Proofs.YtpmalchlecnjbaaGreatDoor
/- What the Syntax laws' cards share: the witness's world. (after ZCardKit) -/
namespace Go.Proofs.YtpmalchlecnjbaaGreatDoor
open Go.RowKit Go.Chalk
open Go.ChangeShapes Go.WideShapes Go.ChangeAt
theorem theW_met (os:Os) (args:Array Value):laidMetH Tryz.prog Rows.syntaxFormsUptoRow.laid ((theW os).forCall (fun _ _=>0) ⟨#[],args,[]⟩).memory :=
 laidMetH_of_parts3 (fuel:=8) (laidMet_of_run' 8 (theW_run os args) (theW_once os args)) (theW_handles os args) (theW_funcs os args)
end Go.Proofs.YtpmalchlecnjbaaGreatDoor
