/- Joined texts: CardKit. -/
import Derived.Test.YtlfjjokcbeaekaaGreatDoorB22
import Derived.Test.YtlfjjokcbeaekaaGreatDoorB34
import Derived.Test.YtlfjjokcbeaekaaGreatDoorB23
import Derived.Lay
import Derived.Deep.DeepWitnessRef

/- What the Eval laws' cards share. -/
namespace Go.Proofs.YtlfjjokcbeaekaaGreatDoor
open Go.RowKit Go.Chalk
theorem itoa_at : ItoaAt := fun i hi W => (Tryz.strconv_Itoa_small i (by omega) W).mono (by
  rintro e w' ⟨h1, h2⟩
  exact ⟨h1, h2.symm⟩)
theorem Bnd.fit {b : Bnd} (h : b.toD.bulk ≤ 1048576) : b.name.length ≤ 4000000 := by
  simp only [Bnd.toD, D.bulk, bulks, bs_size] at h; omega
open Go.ChangeShapes Go.WideShapes Go.ChangeAt

/-- The table's cells. -/
noncomputable def firstCells : Array Value := match DataW.lay Tryz.prog 238 0 Rows.laid_unicode_utf8_first with | some x => x.1.toArray | none => #[]
/-- A world for the witness: as the program's own start leaves it, with the pinned table laid. -/
noncomputable def theW (os : Os) : World :=
  { World.doorLaid Tryz.prog 4000 os with heap := (World.doorLaid Tryz.prog 4000 os).heap.modify 10 fun
      | .cells _ t frozen => .cells firstCells t frozen
      | o => o }
theorem theW_met (os : Os) (args : Array Value) : laidMetH Tryz.prog Rows.evalConnectivesUptoRow.laid ((theW os).forCall (fun _ _ => 0) ⟨#[], args, []⟩).memory :=
  laidMetH_of_parts3 (fuel := 8) (laidMet_of_run' 8 (by kernel_rfl) (by kernel_rfl)) (by kernel_rfl) (by kernel_rfl)
theorem theW_vars (os : Os) (args : Array Value) : ((theW os).forCall (fun _ _ => 0) ⟨#[], args, []⟩).variablesRefB Tryz.checked.prog = true := by kernel_rfl
theorem theW_rest (os : Os) (args : Array Value) : (((theW os).forCall (fun _ _ => 0) ⟨#[], args, []⟩).heap.toList.drop Tryz.checked.prog.globals.size).take ((begin Tryz.checked.prog (fun _ _ => 0) default).world.heap.size - Tryz.checked.prog.globals.size) =
    (begin Tryz.checked.prog (fun _ _ => 0) default).world.heap.toList.drop Tryz.checked.prog.globals.size := by kernel_rfl
end Go.Proofs.YtlfjjokcbeaekaaGreatDoor
