/-
  DERIVED. GIVEN WITH THE SEED: THE CARDS: each row of YtjjkfgjnadaheaaGreatDoorRows.lean that lists a variable, with what it lists TIED to the program's text (the seventh form; the later family's looks); each row that meets fmt, with fmt's text TOLD by the authors' own Lean function (tested against real Go, not proved from fmt's source: count such statements apart). THE CARD IS WHAT COUNTS. Prove the row's statement (the work); the ties are given (YtjjkfgjnadaheaaGreatDoorTie.lean); close each card by the builder's one call (the guide's Derived/Test/ToyasCard.lean, 'card_holds'). Laid BY PROGRAM, IN A SANDBOX (cutbox-door.mjs). By AI agents, Wed Nov 11 2026. No macro, syntax, notation, axiom, sorry.
-/
import Derived.Test.YtjjkfgjnadaheaaGreatDoorRows
import GoSem.ClaimSeven
namespace Go.Proofs.YtjjkfgjnadaheaaGreatDoor
namespace Rows

/-- THE TIED CARD OF 'chalklinelaw10.GroundTrees'. -/
def groundTreesCard : Claim7 := { stood := { row := groundTreesRow, standIns := [], harness := (true, "d0e43b8d8b9b85dd5f39fabb366ef553b434895c685d21020fb9ae348231cc76"), looks := true }, kinds := [], alts := [], laidByText := true, laidKinds := [.data, .data, .data, .data, .mapped, .mapped, .mapped, .widerDeep, .data, .funcs, .funcs, .pinned], laidTests := true, laidLooks := .later }
def GroundTreesCardSaid : Prop := Claim7.holds Tryz.pinned (.plain (OpenSpec.ofChange groundTreesSpec)) groundTreesCard

/-- THE TIED CARD OF 'chalklinelaw10.GroundFrames'. -/
def groundFramesCard : Claim7 := { stood := { row := groundFramesRow, standIns := [], harness := (true, "d0e43b8d8b9b85dd5f39fabb366ef553b434895c685d21020fb9ae348231cc76"), looks := true }, kinds := [], alts := [], laidByText := true, laidKinds := [.data, .data, .data, .data, .mapped, .mapped, .mapped, .widerDeep, .data, .funcs, .funcs, .pinned], laidTests := true, laidLooks := .later }
def GroundFramesCardSaid : Prop := Claim7.holds Tryz.pinned (.plain (OpenSpec.ofChange groundFramesSpec)) groundFramesCard

/-- THE TIED CARD OF 'chalklinelaw10.GroundHolds'. -/
def groundHoldsCard : Claim7 := { stood := { row := groundHoldsRow, standIns := [], harness := (true, "d0e43b8d8b9b85dd5f39fabb366ef553b434895c685d21020fb9ae348231cc76"), looks := true }, kinds := [], alts := [], laidByText := true, laidKinds := [.data, .data, .data, .data, .mapped, .mapped, .mapped, .widerDeep, .data, .funcs, .funcs, .pinned], laidTests := true, laidLooks := .later }
def GroundHoldsCardSaid : Prop := Claim7.holds Tryz.pinned (.plain (OpenSpec.ofChange groundHoldsSpec)) groundHoldsCard

/-- THE TIED CARD OF 'chalklinelaw10.GroundOne'. -/
def groundOneCard : Claim7 := { stood := { row := groundOneRow, standIns := [], harness := (true, "d0e43b8d8b9b85dd5f39fabb366ef553b434895c685d21020fb9ae348231cc76"), looks := true }, kinds := [], alts := [], laidByText := true, laidKinds := [.data, .data, .data, .data, .mapped, .mapped, .mapped, .widerDeep, .data, .funcs, .funcs, .pinned], laidTests := true, laidLooks := .later }
def GroundOneCardSaid : Prop := Claim7.holds Tryz.pinned (.plain (OpenSpec.ofChange groundOneSpec)) groundOneCard

/-- THE TIED CARD OF 'chalklinelaw10.GroundWeeks'. -/
def groundWeeksCard : Claim7 := { stood := { row := groundWeeksRow, standIns := [], harness := (true, "d0e43b8d8b9b85dd5f39fabb366ef553b434895c685d21020fb9ae348231cc76"), looks := true }, kinds := [], alts := [], laidByText := true, laidKinds := [.data, .data, .data, .data, .mapped, .mapped, .mapped, .widerDeep, .data, .funcs, .funcs, .pinned], laidTests := true, laidLooks := .later }
def GroundWeeksCardSaid : Prop := Claim7.holds Tryz.pinned (.plain (OpenSpec.ofChange groundWeeksSpec)) groundWeeksCard

/-- THE TIED CARD OF 'chalklinelaw10.GroundNots'. -/
def groundNotsCard : Claim7 := { stood := { row := groundNotsRow, standIns := [], harness := (true, "d0e43b8d8b9b85dd5f39fabb366ef553b434895c685d21020fb9ae348231cc76"), looks := true }, kinds := [], alts := [], laidByText := true, laidKinds := [.data, .data, .data, .data, .mapped, .mapped, .mapped, .mapped, .widerDeep, .data, .funcs, .funcs, .pinned], laidTests := true, laidLooks := .later }
def GroundNotsCardSaid : Prop := Claim7.holds Tryz.pinned (.plain (OpenSpec.ofChange groundNotsSpec)) groundNotsCard

/-- THE TIED CARD OF 'chalklinelaw13.GateGround'. -/
def gateGroundCard : Claim7 := { stood := { row := gateGroundRow, standIns := [], harness := (true, "d0e43b8d8b9b85dd5f39fabb366ef553b434895c685d21020fb9ae348231cc76"), looks := true }, kinds := [], alts := [], laidByText := true, laidKinds := [.data, .data, .data, .data, .mapped, .mapped, .mapped, .widerDeep, .data, .funcs, .funcs, .pinned], laidTests := true, laidLooks := .later }
def GateGroundCardSaid : Prop := Claim7.holds Tryz.pinned (.plain (OpenSpec.ofChange gateGroundSpec)) gateGroundCard

/-- THE SECOND FORM's CARD OF 'chalklinelaw10.GroundTrees'. -/
def groundTreesUptoCard : Claim7 := { stood := { row := groundTreesUptoRow, standIns := [], harness := (true, "d0e43b8d8b9b85dd5f39fabb366ef553b434895c685d21020fb9ae348231cc76"), looks := true }, kinds := [], alts := [], laidByText := true, laidKinds := [.data, .data, .data, .data, .mapped, .mapped, .mapped, .widerDeep, .data, .funcs, .funcs, .pinned], laidTests := true, laidLooks := .later }
def GroundTreesUptoCardSaid : Prop := Claim7.holds Tryz.pinned (.plain (OpenSpec.upto groundTreesSpec)) groundTreesUptoCard

/-- THE SECOND FORM's CARD OF 'chalklinelaw10.GroundFrames'. -/
def groundFramesUptoCard : Claim7 := { stood := { row := groundFramesUptoRow, standIns := [], harness := (true, "d0e43b8d8b9b85dd5f39fabb366ef553b434895c685d21020fb9ae348231cc76"), looks := true }, kinds := [], alts := [], laidByText := true, laidKinds := [.data, .data, .data, .data, .mapped, .mapped, .mapped, .widerDeep, .data, .funcs, .funcs, .pinned], laidTests := true, laidLooks := .later }
def GroundFramesUptoCardSaid : Prop := Claim7.holds Tryz.pinned (.plain (OpenSpec.upto groundFramesSpec)) groundFramesUptoCard

/-- THE SECOND FORM's CARD OF 'chalklinelaw10.GroundHolds'. -/
def groundHoldsUptoCard : Claim7 := { stood := { row := groundHoldsUptoRow, standIns := [], harness := (true, "d0e43b8d8b9b85dd5f39fabb366ef553b434895c685d21020fb9ae348231cc76"), looks := true }, kinds := [], alts := [], laidByText := true, laidKinds := [.data, .data, .data, .data, .mapped, .mapped, .mapped, .widerDeep, .data, .funcs, .funcs, .pinned], laidTests := true, laidLooks := .later }
def GroundHoldsUptoCardSaid : Prop := Claim7.holds Tryz.pinned (.plain (OpenSpec.upto groundHoldsSpec)) groundHoldsUptoCard

/-- THE SECOND FORM's CARD OF 'chalklinelaw10.GroundOne'. -/
def groundOneUptoCard : Claim7 := { stood := { row := groundOneUptoRow, standIns := [], harness := (true, "d0e43b8d8b9b85dd5f39fabb366ef553b434895c685d21020fb9ae348231cc76"), looks := true }, kinds := [], alts := [], laidByText := true, laidKinds := [.data, .data, .data, .data, .mapped, .mapped, .mapped, .widerDeep, .data, .funcs, .funcs, .pinned], laidTests := true, laidLooks := .later }
def GroundOneUptoCardSaid : Prop := Claim7.holds Tryz.pinned (.plain (OpenSpec.upto groundOneSpec)) groundOneUptoCard

/-- THE SECOND FORM's CARD OF 'chalklinelaw10.GroundWeeks'. -/
def groundWeeksUptoCard : Claim7 := { stood := { row := groundWeeksUptoRow, standIns := [], harness := (true, "d0e43b8d8b9b85dd5f39fabb366ef553b434895c685d21020fb9ae348231cc76"), looks := true }, kinds := [], alts := [], laidByText := true, laidKinds := [.data, .data, .data, .data, .mapped, .mapped, .mapped, .widerDeep, .data, .funcs, .funcs, .pinned], laidTests := true, laidLooks := .later }
def GroundWeeksUptoCardSaid : Prop := Claim7.holds Tryz.pinned (.plain (OpenSpec.upto groundWeeksSpec)) groundWeeksUptoCard

/-- THE SECOND FORM's CARD OF 'chalklinelaw10.GroundNots'. -/
def groundNotsUptoCard : Claim7 := { stood := { row := groundNotsUptoRow, standIns := [], harness := (true, "d0e43b8d8b9b85dd5f39fabb366ef553b434895c685d21020fb9ae348231cc76"), looks := true }, kinds := [], alts := [], laidByText := true, laidKinds := [.data, .data, .data, .data, .mapped, .mapped, .mapped, .mapped, .widerDeep, .data, .funcs, .funcs, .pinned], laidTests := true, laidLooks := .later }
def GroundNotsUptoCardSaid : Prop := Claim7.holds Tryz.pinned (.plain (OpenSpec.upto groundNotsSpec)) groundNotsUptoCard

/-- THE SECOND FORM's CARD OF 'chalklinelaw13.GateGround'. -/
def gateGroundUptoCard : Claim7 := { stood := { row := gateGroundUptoRow, standIns := [], harness := (true, "d0e43b8d8b9b85dd5f39fabb366ef553b434895c685d21020fb9ae348231cc76"), looks := true }, kinds := [], alts := [], laidByText := true, laidKinds := [.data, .data, .data, .data, .mapped, .mapped, .mapped, .widerDeep, .data, .funcs, .funcs, .pinned], laidTests := true, laidLooks := .later }
def GateGroundUptoCardSaid : Prop := Claim7.holds Tryz.pinned (.plain (OpenSpec.upto gateGroundSpec)) gateGroundUptoCard
end Rows
end Go.Proofs.YtjjkfgjnadaheaaGreatDoor
