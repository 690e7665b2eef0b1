/-
  DERIVED. GIVEN WITH THE SEED: THE CARDS: each row of YtlfjjokcbeaekaaGreatDoorRows.lean that lists a variable, with what it lists TIED to the program's text (the seventh form; the later family's looks); each row that meets fmt, with fmt's text TOLD by the authors' own Lean function (tested against real Go, not proved from fmt's source: count such statements apart). THE CARD IS WHAT COUNTS. Prove the row's statement (the work); the ties are given (YtlfjjokcbeaekaaGreatDoorTie.lean); close each card by the builder's one call (the guide's Derived/Test/ToyasCard.lean, 'card_holds'). Laid BY PROGRAM, IN A SANDBOX (cutbox-door.mjs). By AI agents, Wed Nov 11 2026. No macro, syntax, notation, axiom, sorry.
-/
import Derived.Test.YtlfjjokcbeaekaaGreatDoorRows
import GoSem.ClaimSeven
namespace Go.Proofs.YtlfjjokcbeaekaaGreatDoor
namespace Rows

/-- THE TIED CARD OF 'chalklinelaw09.EvalConnectives'. -/
def evalConnectivesCard : Claim7 := { stood := { row := evalConnectivesRow, standIns := [], harness := (true, "859d152dcabbdc7e82adfc0b5ee50993e6976eaa4ec5d14d6fbfce1faa9d2d3e"), looks := false }, kinds := [], alts := [], laidByText := true, laidKinds := [.data, .data, .data, .data, .mapped, .mapped, .mapped, .widerDeep, .data, .funcs, .funcs, .pinned], laidTests := true, laidLooks := .later }
def EvalConnectivesCardSaid : Prop := Claim7.holds Tryz.pinned (.plain (OpenSpec.ofChange evalConnectivesSpec)) evalConnectivesCard

/-- THE TIED CARD OF 'chalklinelaw09.EvalQuantifiers'. -/
def evalQuantifiersCard : Claim7 := { stood := { row := evalQuantifiersRow, standIns := [], harness := (true, "859d152dcabbdc7e82adfc0b5ee50993e6976eaa4ec5d14d6fbfce1faa9d2d3e"), looks := false }, kinds := [], alts := [], laidByText := true, laidKinds := [.data, .data, .data, .data, .mapped, .mapped, .mapped, .widerDeep, .data, .funcs, .funcs, .pinned], laidTests := true, laidLooks := .later }
def EvalQuantifiersCardSaid : Prop := Claim7.holds Tryz.pinned (.plain (OpenSpec.ofChange evalQuantifiersSpec)) evalQuantifiersCard

/-- THE TIED CARD OF 'chalklinelaw09.EvalNestedQuantifiers'. -/
def evalNestedQuantifiersCard : Claim7 := { stood := { row := evalNestedQuantifiersRow, standIns := [], harness := (true, "859d152dcabbdc7e82adfc0b5ee50993e6976eaa4ec5d14d6fbfce1faa9d2d3e"), looks := false }, kinds := [], alts := [], laidByText := true, laidKinds := [.data, .data, .data, .data, .mapped, .mapped, .mapped, .widerDeep, .data, .funcs, .funcs, .pinned], laidTests := true, laidLooks := .later }
def EvalNestedQuantifiersCardSaid : Prop := Claim7.holds Tryz.pinned (.plain (OpenSpec.ofChange evalNestedQuantifiersSpec)) evalNestedQuantifiersCard

/-- THE TIED CARD OF 'chalklinelaw09.EvalStaticFormulas'. -/
def evalStaticFormulasCard : Claim7 := { stood := { row := evalStaticFormulasRow, standIns := [], harness := (true, "859d152dcabbdc7e82adfc0b5ee50993e6976eaa4ec5d14d6fbfce1faa9d2d3e"), looks := false }, kinds := [], alts := [], laidByText := true, laidKinds := [.data, .data, .data, .data, .mapped, .mapped, .mapped, .widerDeep, .data, .funcs, .funcs, .pinned], laidTests := true, laidLooks := .later }
def EvalStaticFormulasCardSaid : Prop := Claim7.holds Tryz.pinned (.plain (OpenSpec.ofChange evalStaticFormulasSpec)) evalStaticFormulasCard

/-- THE TIED CARD OF 'chalklinelaw09.EvalAdditive'. -/
def evalAdditiveCard : Claim7 := { stood := { row := evalAdditiveRow, standIns := [], harness := (true, "859d152dcabbdc7e82adfc0b5ee50993e6976eaa4ec5d14d6fbfce1faa9d2d3e"), looks := false }, kinds := [], alts := [], laidByText := true, laidKinds := [.data, .data, .data, .data, .mapped, .mapped, .mapped, .widerDeep, .data, .funcs, .funcs, .pinned], laidTests := true, laidLooks := .later }
def EvalAdditiveCardSaid : Prop := Claim7.holds Tryz.pinned (.plain (OpenSpec.ofChange evalAdditiveSpec)) evalAdditiveCard

/-- THE TIED CARD OF 'chalklinelaw09.EvalNnfEquivalent'. -/
def evalNnfEquivalentCard : Claim7 := { stood := { row := evalNnfEquivalentRow, standIns := [], harness := (true, "859d152dcabbdc7e82adfc0b5ee50993e6976eaa4ec5d14d6fbfce1faa9d2d3e"), looks := false }, kinds := [], alts := [], laidByText := true, laidKinds := [.data, .data, .data, .data, .mapped, .mapped, .mapped, .mapped, .widerDeep, .data, .funcs, .funcs, .pinned], laidTests := true, laidLooks := .later }
def EvalNnfEquivalentCardSaid : Prop := Claim7.holds Tryz.pinned (.plain (OpenSpec.ofChange evalNnfEquivalentSpec)) evalNnfEquivalentCard

/-- THE SECOND FORM's CARD OF 'chalklinelaw09.EvalConnectives'. -/
def evalConnectivesUptoCard : Claim7 := { stood := { row := evalConnectivesUptoRow, standIns := [], harness := (true, "859d152dcabbdc7e82adfc0b5ee50993e6976eaa4ec5d14d6fbfce1faa9d2d3e"), looks := false }, kinds := [], alts := [], laidByText := true, laidKinds := [.data, .data, .data, .data, .mapped, .mapped, .mapped, .widerDeep, .data, .funcs, .funcs, .pinned], laidTests := true, laidLooks := .later }
def EvalConnectivesUptoCardSaid : Prop := Claim7.holds Tryz.pinned (.plain (OpenSpec.upto evalConnectivesSpec)) evalConnectivesUptoCard

/-- THE SECOND FORM's CARD OF 'chalklinelaw09.EvalQuantifiers'. -/
def evalQuantifiersUptoCard : Claim7 := { stood := { row := evalQuantifiersUptoRow, standIns := [], harness := (true, "859d152dcabbdc7e82adfc0b5ee50993e6976eaa4ec5d14d6fbfce1faa9d2d3e"), looks := false }, kinds := [], alts := [], laidByText := true, laidKinds := [.data, .data, .data, .data, .mapped, .mapped, .mapped, .widerDeep, .data, .funcs, .funcs, .pinned], laidTests := true, laidLooks := .later }
def EvalQuantifiersUptoCardSaid : Prop := Claim7.holds Tryz.pinned (.plain (OpenSpec.upto evalQuantifiersSpec)) evalQuantifiersUptoCard

/-- THE SECOND FORM's CARD OF 'chalklinelaw09.EvalNestedQuantifiers'. -/
def evalNestedQuantifiersUptoCard : Claim7 := { stood := { row := evalNestedQuantifiersUptoRow, standIns := [], harness := (true, "859d152dcabbdc7e82adfc0b5ee50993e6976eaa4ec5d14d6fbfce1faa9d2d3e"), looks := false }, kinds := [], alts := [], laidByText := true, laidKinds := [.data, .data, .data, .data, .mapped, .mapped, .mapped, .widerDeep, .data, .funcs, .funcs, .pinned], laidTests := true, laidLooks := .later }
def EvalNestedQuantifiersUptoCardSaid : Prop := Claim7.holds Tryz.pinned (.plain (OpenSpec.upto evalNestedQuantifiersSpec)) evalNestedQuantifiersUptoCard

/-- THE SECOND FORM's CARD OF 'chalklinelaw09.EvalStaticFormulas'. -/
def evalStaticFormulasUptoCard : Claim7 := { stood := { row := evalStaticFormulasUptoRow, standIns := [], harness := (true, "859d152dcabbdc7e82adfc0b5ee50993e6976eaa4ec5d14d6fbfce1faa9d2d3e"), looks := false }, kinds := [], alts := [], laidByText := true, laidKinds := [.data, .data, .data, .data, .mapped, .mapped, .mapped, .widerDeep, .data, .funcs, .funcs, .pinned], laidTests := true, laidLooks := .later }
def EvalStaticFormulasUptoCardSaid : Prop := Claim7.holds Tryz.pinned (.plain (OpenSpec.upto evalStaticFormulasSpec)) evalStaticFormulasUptoCard

/-- THE SECOND FORM's CARD OF 'chalklinelaw09.EvalAdditive'. -/
def evalAdditiveUptoCard : Claim7 := { stood := { row := evalAdditiveUptoRow, standIns := [], harness := (true, "859d152dcabbdc7e82adfc0b5ee50993e6976eaa4ec5d14d6fbfce1faa9d2d3e"), looks := false }, kinds := [], alts := [], laidByText := true, laidKinds := [.data, .data, .data, .data, .mapped, .mapped, .mapped, .widerDeep, .data, .funcs, .funcs, .pinned], laidTests := true, laidLooks := .later }
def EvalAdditiveUptoCardSaid : Prop := Claim7.holds Tryz.pinned (.plain (OpenSpec.upto evalAdditiveSpec)) evalAdditiveUptoCard

/-- THE SECOND FORM's CARD OF 'chalklinelaw09.EvalNnfEquivalent'. -/
def evalNnfEquivalentUptoCard : Claim7 := { stood := { row := evalNnfEquivalentUptoRow, standIns := [], harness := (true, "859d152dcabbdc7e82adfc0b5ee50993e6976eaa4ec5d14d6fbfce1faa9d2d3e"), looks := false }, kinds := [], alts := [], laidByText := true, laidKinds := [.data, .data, .data, .data, .mapped, .mapped, .mapped, .mapped, .widerDeep, .data, .funcs, .funcs, .pinned], laidTests := true, laidLooks := .later }
def EvalNnfEquivalentUptoCardSaid : Prop := Claim7.holds Tryz.pinned (.plain (OpenSpec.upto evalNnfEquivalentSpec)) evalNnfEquivalentUptoCard
end Rows
end Go.Proofs.YtlfjjokcbeaekaaGreatDoor
