/- Joined texts: UCK. -/
import Derived.Test.YtncnnbmeacpboaaGreatDoorN36
import Derived.Test.YtncnnbmeacpboaaGreatDoorN35
import Derived.Test.YtncnnbmeacpboaaGreatDoorN23
import Derived.Lay
import Derived.Deep.DeepWitnessRef
set_option maxRecDepth 100000
set_option linter.unusedVariables false
set_option linter.unusedSimpArgs false
/- What the Tell laws' cards share. -/
namespace Go.Proofs.YtncnnbmeacpboaaGreatDoor
open Go.RowKit Go.Chalk
theorem itoa_at:ItoaAt:=fun i hi W=>(Tryz.strconv_Itoa_small i (by omega) W).mono (by
 rintro e w' ⟨h1,h2⟩
 exact ⟨h1,h2.symm⟩)
open Go.ChangeShapes Go.WideShapes Go.ChangeAt
noncomputable def firstCells:Array Value:=match DataW.lay Tryz.prog 259 0 Rows.laid_unicode_utf8_first with | some x=>x.1.toArray | none=>#[]
noncomputable def theW (os:Os):World :=
 { World.doorLaid Tryz.prog 4000 os with heap:=(World.doorLaid Tryz.prog 4000 os).heap.modify 9 fun
   | .cells _ t frozen=>.cells firstCells t frozen
   | o=>o }
theorem theW_run (os:Os) (args:Array Value):(DataW.laidRun Tryz.prog (((theW os).forCall (fun _ _=>0) ⟨#[],args,[]⟩).memory) 8 ((Rows.tellInjectiveUptoRow.laid.filter fun x=>x.2.handleName?.isNone).map (·.1))).map (·.1)=some (Rows.tellInjectiveUptoRow.laid.filter fun x=>x.2.handleName?.isNone):=by kernel_rfl
theorem theW_once (os:Os) (args:Array Value):(DataW.laidRun Tryz.prog (((theW os).forCall (fun _ _=>0) ⟨#[],args,[]⟩).memory) 8 ((Rows.tellInjectiveUptoRow.laid.filter fun x=>x.2.handleName?.isNone).map (·.1))).map (fun x=>decide x.2.Nodup&&laidRowsB Tryz.prog (((theW os).forCall (fun _ _=>0) ⟨#[],args,[]⟩).memory) x.2)=some true:=by kernel_rfl
theorem theW_handles (os:Os) (args:Array Value):(Rows.tellInjectiveUptoRow.laid.filter fun x=>x.2.handleName?.isSome&&x.2.funcsIn?.isNone).all (handleAtB Tryz.prog (((theW os).forCall (fun _ _=>0) ⟨#[],args,[]⟩).memory))=true:=by kernel_rfl
theorem theW_funcs (os:Os) (args:Array Value):funcsRun Tryz.prog (((theW os).forCall (fun _ _=>0) ⟨#[],args,[]⟩).memory) 8 ((funcsListed Rows.tellInjectiveUptoRow.laid).map (·.1))=some ((funcsListed Rows.tellInjectiveUptoRow.laid).map (·.2.funcsOut)):=by kernel_rfl
theorem theW_met (os:Os) (args:Array Value):laidMetH Tryz.prog Rows.tellInjectiveUptoRow.laid ((theW os).forCall (fun _ _=>0) ⟨#[],args,[]⟩).memory :=
 laidMetH_of_parts3 (fuel:=8) (laidMet_of_run' 8 (theW_run os args) (theW_once os args)) (theW_handles os args) (theW_funcs os args)
theorem theW_vars (os:Os) (args:Array Value):((theW os).forCall (fun _ _=>0) ⟨#[],args,[]⟩).variablesRefB Tryz.checked.prog=true:=by kernel_rfl
theorem theW_rest (os:Os) (args:Array Value):(((theW os).forCall (fun _ _=>0) ⟨#[],args,[]⟩).heap.toList.drop Tryz.checked.prog.globals.size).take ((begin Tryz.checked.prog (fun _ _=>0) default).world.heap.size - Tryz.checked.prog.globals.size) =
  (begin Tryz.checked.prog (fun _ _=>0) default).world.heap.toList.drop Tryz.checked.prog.globals.size:=by kernel_rfl
end Go.Proofs.YtncnnbmeacpboaaGreatDoor
