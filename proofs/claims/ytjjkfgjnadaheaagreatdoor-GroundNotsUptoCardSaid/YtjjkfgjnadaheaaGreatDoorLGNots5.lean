/- Joined texts: CardMgnots. -/
import Derived.Test.YtjjkfgjnadaheaaGreatDoorB38
set_option maxRecDepth 100000
set_option linter.unusedVariables false
set_option linter.unusedSimpArgs false
/- GroundNots: the witness's world holds what the row lists. (printed by evalcard.py) -/
namespace Go.Proofs.YtjjkfgjnadaheaaGreatDoor
open Go.RowKit Go.Chalk Go.ChangeShapes Go.WideShapes Go.ChangeAt
theorem gnots_run (os:Os) (args:Array Value):(DataW.laidRun Tryz.prog (((theW os).forCall (fun _ _=>0) ⟨#[],args,[]⟩).memory) 8 ((Rows.groundNotsUptoRow.laid.filter fun x=>x.2.handleName?.isNone).map (·.1))).map (·.1)=some (Rows.groundNotsUptoRow.laid.filter fun x=>x.2.handleName?.isNone):=by kernel_rfl
theorem gnots_once (os:Os) (args:Array Value):(DataW.laidRun Tryz.prog (((theW os).forCall (fun _ _=>0) ⟨#[],args,[]⟩).memory) 8 ((Rows.groundNotsUptoRow.laid.filter fun x=>x.2.handleName?.isNone).map (·.1))).map (fun x=>decide x.2.Nodup&&laidRowsB Tryz.prog (((theW os).forCall (fun _ _=>0) ⟨#[],args,[]⟩).memory) x.2)=some true:=by kernel_rfl
theorem gnots_handles (os:Os) (args:Array Value):(Rows.groundNotsUptoRow.laid.filter fun x=>x.2.handleName?.isSome&&x.2.funcsIn?.isNone).all (handleAtB Tryz.prog (((theW os).forCall (fun _ _=>0) ⟨#[],args,[]⟩).memory))=true:=by kernel_rfl
theorem gnots_funcs (os:Os) (args:Array Value):funcsRun Tryz.prog (((theW os).forCall (fun _ _=>0) ⟨#[],args,[]⟩).memory) 8 ((funcsListed Rows.groundNotsUptoRow.laid).map (·.1))=some ((funcsListed Rows.groundNotsUptoRow.laid).map (·.2.funcsOut)):=by kernel_rfl
theorem gnots_met (os:Os) (args:Array Value):laidMetH Tryz.prog Rows.groundNotsUptoRow.laid ((theW os).forCall (fun _ _=>0) ⟨#[],args,[]⟩).memory :=
 laidMetH_of_parts3 (fuel:=8) (laidMet_of_run' 8 (gnots_run os args) (gnots_once os args)) (gnots_handles os args) (gnots_funcs os args)
end Go.Proofs.YtjjkfgjnadaheaaGreatDoor
