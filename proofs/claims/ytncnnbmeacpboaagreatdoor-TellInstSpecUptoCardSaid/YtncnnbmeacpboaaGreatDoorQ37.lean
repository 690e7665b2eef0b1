/- Parts of the proof. -/
import Derived.Test.YtncnnbmeacpboaaGreatDoorQ36
import Derived.Test.YtncnnbmeacpboaaGreatDoorQ35
import Derived.Lay
import Derived.Deep.DeepWitnessRef
set_option maxRecDepth 100000
set_option linter.unusedVariables false
set_option linter.unusedSimpArgs false
namespace Go.Proofs.YtncnnbmeacpboaaGreatDoor
open Go.RowKit Go.aa
theorem Ou:iL:=fun i hi W=>(Tryz.strconv_Itoa_small i (by omega) W).mono (by
 rintro e w' ⟨h1,h2⟩;exact⟨h1,h2.symm⟩)
end Go.Proofs.YtncnnbmeacpboaaGreatDoor
namespace Go.Proofs.YtncnnbmeacpboaaGreatDoor
open Go.RowKit Go.aa Go.ChangeShapes Go.WideShapes Go.ChangeAt
noncomputable def firstCells:Array Value:=match DataW.lay Tryz.prog 259 0 Rows.laid_unicode_utf8_first with|some x=>x.1.toArray|none=>#[]
noncomputable def xM(os:Os):World:=
 { World.doorLaid Tryz.prog 4000 os with heap:=(World.doorLaid Tryz.prog 4000 os).heap.modify 9 fun
   | .cells _ t frozen=>.cells firstCells t frozen
   |o=>o}
theorem MJ(os:Os)(args:Array Value):(DataW.laidRun Tryz.prog (((xM os).forCall (fun _ _=>0) ⟨#[],args,[]⟩).memory) 8 ((Rows.tellInjectiveUptoRow.laid.filter fun x=>x.2.handleName?.isNone).map (·.1))).map (·.1)=some (Rows.tellInjectiveUptoRow.laid.filter fun x=>x.2.handleName?.isNone):=by kernel_rfl
theorem IY(os:Os)(args:Array Value):(DataW.laidRun Tryz.prog (((xM os).forCall (fun _ _=>0) ⟨#[],args,[]⟩).memory) 8 ((Rows.tellInjectiveUptoRow.laid.filter fun x=>x.2.handleName?.isNone).map (·.1))).map (fun x=>decide x.2.Nodup&&laidRowsB Tryz.prog (((xM os).forCall (fun _ _=>0) ⟨#[],args,[]⟩).memory) x.2)=some true:=by kernel_rfl
theorem zQ(os:Os)(args:Array Value):(Rows.tellInjectiveUptoRow.laid.filter fun x=>x.2.handleName?.isSome&&x.2.funcsIn?.isNone).all (handleAtB Tryz.prog (((xM os).forCall (fun _ _=>0) ⟨#[],args,[]⟩).memory))=true:=by kernel_rfl
theorem EN(os:Os)(args:Array Value):funcsRun Tryz.prog (((xM os).forCall (fun _ _=>0) ⟨#[],args,[]⟩).memory) 8 ((funcsListed Rows.tellInjectiveUptoRow.laid).map (·.1))=some ((funcsListed Rows.tellInjectiveUptoRow.laid).map (·.2.funcsOut)):=by kernel_rfl
theorem MI(os:Os)(args:Array Value):laidMetH Tryz.prog Rows.tellInjectiveUptoRow.laid ((xM os).forCall (fun _ _=>0) ⟨#[],args,[]⟩).memory:=
 laidMetH_of_parts3 (fuel:=8) (laidMet_of_run' 8 (MJ os args) (IY os args)) (zQ os args) (EN os args)
theorem I1(os:Os)(args:Array Value):((xM os).forCall (fun _ _=>0) ⟨#[],args,[]⟩).variablesRefB Tryz.checked.prog=true:=by kernel_rfl
theorem IZ(os:Os)(args:Array Value):(((xM os).forCall (fun _ _=>0) ⟨#[],args,[]⟩).heap.toList.drop Tryz.checked.prog.globals.size).take ((begin Tryz.checked.prog (fun _ _=>0) default).world.heap.size-Tryz.checked.prog.globals.size)=
  (begin Tryz.checked.prog (fun _ _=>0) default).world.heap.toList.drop Tryz.checked.prog.globals.size:=by kernel_rfl
end Go.Proofs.YtncnnbmeacpboaaGreatDoor
