/-
  DERIVED. GIVEN WITH THE SEED: THE CARDS: each row of YtpmalchlecnjbaaGreatDoorRows.lean that lists a variable, with what it lists TIED to the program's text (the seventh form; the later family's looks); each row that meets fmt, with fmt's text TOLD by the authors' own Lean function (tested against real Go, not proved from fmt's source: count such statements apart). THE CARD IS WHAT COUNTS. Prove the row's statement (the work); the ties are given (YtpmalchlecnjbaaGreatDoorTie.lean); close each card by the builder's one call (the guide's Derived/Test/ToyasCard.lean, 'card_holds'). Laid BY PROGRAM, IN A SANDBOX (cutbox-door.mjs). By AI agents, Wed Nov 11 2026. No macro, syntax, notation, axiom, sorry.
-/
import Derived.Test.YtpmalchlecnjbaaGreatDoorRows
import GoSem.ClaimSeven
namespace Go.Proofs.YtpmalchlecnjbaaGreatDoor
namespace Rows

/-- THE TIED CARD OF 'chalklinelaw07.SyntaxForms'. -/
def syntaxFormsCard : Claim7 := { stood := { row := syntaxFormsRow, standIns := [], harness := (true, "45dc5d99de046a40a07964f4eaf951c11059584fd5cf80f258a179c0deed3bdf"), looks := true }, kinds := [], alts := [], laidByText := true, laidKinds := [.data, .data, .data, .data, .sentinel, .sentinel, .listed, .data, .mapped, .mapped, .mapped, .pinned], laidTests := true, laidLooks := .later }
def SyntaxFormsCardSaid : Prop := Claim7.holds Tryz.pinned (.plain (OpenSpec.ofChange syntaxFormsSpec)) syntaxFormsCard

/-- THE TIED CARD OF 'chalklinelaw07.SyntaxTexts'. -/
def syntaxTextsCard : Claim7 := { stood := { row := syntaxTextsRow, standIns := [], harness := (true, "45dc5d99de046a40a07964f4eaf951c11059584fd5cf80f258a179c0deed3bdf"), looks := true }, kinds := [], alts := [], laidByText := true, laidKinds := [.data, .data, .data, .data, .sentinel, .sentinel, .listed, .data, .mapped, .mapped, .mapped, .pinned], laidTests := true, laidLooks := .later }
def SyntaxTextsCardSaid : Prop := Claim7.holds Tryz.pinned (.plain (OpenSpec.ofChange syntaxTextsSpec)) syntaxTextsCard

/-- THE TIED CARD OF 'chalklinelaw07.SyntaxRules'. -/
def syntaxRulesCard : Claim7 := { stood := { row := syntaxRulesRow, standIns := [], harness := (true, "45dc5d99de046a40a07964f4eaf951c11059584fd5cf80f258a179c0deed3bdf"), looks := true }, kinds := [], alts := [], laidByText := true, laidKinds := [.data, .data, .data, .data, .sentinel, .sentinel, .listed, .data, .mapped, .mapped, .mapped, .pinned], laidTests := true, laidLooks := .later }
def SyntaxRulesCardSaid : Prop := Claim7.holds Tryz.pinned (.plain (OpenSpec.ofChange syntaxRulesSpec)) syntaxRulesCard

/-- THE TIED CARD OF 'chalklinelaw07.SyntaxBack'. -/
def syntaxBackCard : Claim7 := { stood := { row := syntaxBackRow, standIns := [], harness := (true, "45dc5d99de046a40a07964f4eaf951c11059584fd5cf80f258a179c0deed3bdf"), looks := true }, kinds := [], alts := [], laidByText := true, laidKinds := [.data, .data, .data, .data, .sentinel, .sentinel, .listed, .data, .mapped, .mapped, .mapped, .pinned], laidTests := true, laidLooks := .later }
def SyntaxBackCardSaid : Prop := Claim7.holds Tryz.pinned (.plain (OpenSpec.ofChange syntaxBackSpec)) syntaxBackCard

/-- THE TIED CARD OF 'chalklinelaw07.SyntaxParts'. -/
def syntaxPartsCard : Claim7 := { stood := { row := syntaxPartsRow, standIns := [], harness := (true, "45dc5d99de046a40a07964f4eaf951c11059584fd5cf80f258a179c0deed3bdf"), looks := true }, kinds := [], alts := [], laidByText := true, laidKinds := [.data, .data, .data, .data, .sentinel, .sentinel, .listed, .data, .mapped, .mapped, .mapped, .pinned], laidTests := true, laidLooks := .later }
def SyntaxPartsCardSaid : Prop := Claim7.holds Tryz.pinned (.plain (OpenSpec.ofChange syntaxPartsSpec)) syntaxPartsCard

/-- THE TIED CARD OF 'chalklinelaw07.SyntaxPlaces'. -/
def syntaxPlacesCard : Claim7 := { stood := { row := syntaxPlacesRow, standIns := [], harness := (true, "45dc5d99de046a40a07964f4eaf951c11059584fd5cf80f258a179c0deed3bdf"), looks := true }, kinds := [], alts := [], laidByText := true, laidKinds := [.data, .data, .data, .data, .sentinel, .sentinel, .listed, .data, .mapped, .mapped, .mapped, .pinned], laidTests := true, laidLooks := .later }
def SyntaxPlacesCardSaid : Prop := Claim7.holds Tryz.pinned (.plain (OpenSpec.ofChange syntaxPlacesSpec)) syntaxPlacesCard

/-- THE TIED CARD OF 'chalklinelaw07.SyntaxOnce'. -/
def syntaxOnceCard : Claim7 := { stood := { row := syntaxOnceRow, standIns := [], harness := (true, "45dc5d99de046a40a07964f4eaf951c11059584fd5cf80f258a179c0deed3bdf"), looks := true }, kinds := [], alts := [], laidByText := true, laidKinds := [.data, .data, .data, .data, .sentinel, .sentinel, .listed, .data, .mapped, .mapped, .mapped, .pinned], laidTests := true, laidLooks := .later }
def SyntaxOnceCardSaid : Prop := Claim7.holds Tryz.pinned (.plain (OpenSpec.ofChange syntaxOnceSpec)) syntaxOnceCard

/-- THE TIED CARD OF 'chalklinelaw07.SyntaxBrackets'. -/
def syntaxBracketsCard : Claim7 := { stood := { row := syntaxBracketsRow, standIns := [], harness := (true, "45dc5d99de046a40a07964f4eaf951c11059584fd5cf80f258a179c0deed3bdf"), looks := true }, kinds := [], alts := [], laidByText := true, laidKinds := [.data, .data, .data, .data, .sentinel, .sentinel, .listed, .data, .mapped, .mapped, .mapped, .pinned], laidTests := true, laidLooks := .later }
def SyntaxBracketsCardSaid : Prop := Claim7.holds Tryz.pinned (.plain (OpenSpec.ofChange syntaxBracketsSpec)) syntaxBracketsCard

/-- THE TIED CARD OF 'chalklinelaw07.SyntaxPrints'. -/
def syntaxPrintsCard : Claim7 := { stood := { row := syntaxPrintsRow, standIns := [], harness := (true, "45dc5d99de046a40a07964f4eaf951c11059584fd5cf80f258a179c0deed3bdf"), looks := true }, kinds := [], alts := [], laidByText := true, laidKinds := [.data, .data, .data, .data, .sentinel, .sentinel, .listed, .data, .mapped, .mapped, .mapped, .pinned], laidTests := true, laidLooks := .later }
def SyntaxPrintsCardSaid : Prop := Claim7.holds Tryz.pinned (.plain (OpenSpec.ofChange syntaxPrintsSpec)) syntaxPrintsCard

/-- THE TIED CARD OF 'chalklinelaw07.SyntaxFew'. -/
def syntaxFewCard : Claim7 := { stood := { row := syntaxFewRow, standIns := [], harness := (true, "45dc5d99de046a40a07964f4eaf951c11059584fd5cf80f258a179c0deed3bdf"), looks := true }, kinds := [], alts := [], laidByText := true, laidKinds := [.data, .data, .data, .data, .sentinel, .sentinel, .listed, .data, .mapped, .mapped, .mapped, .pinned], laidTests := true, laidLooks := .later }
def SyntaxFewCardSaid : Prop := Claim7.holds Tryz.pinned (.plain (OpenSpec.ofChange syntaxFewSpec)) syntaxFewCard

/-- THE SECOND FORM's CARD OF 'chalklinelaw07.SyntaxForms'. -/
def syntaxFormsUptoCard : Claim7 := { stood := { row := syntaxFormsUptoRow, standIns := [], harness := (true, "45dc5d99de046a40a07964f4eaf951c11059584fd5cf80f258a179c0deed3bdf"), looks := true }, kinds := [], alts := [], laidByText := true, laidKinds := [.data, .data, .data, .data, .sentinel, .sentinel, .listed, .data, .mapped, .mapped, .mapped, .pinned], laidTests := true, laidLooks := .later }
def SyntaxFormsUptoCardSaid : Prop := Claim7.holds Tryz.pinned (.plain (OpenSpec.upto syntaxFormsSpec)) syntaxFormsUptoCard

/-- THE SECOND FORM's CARD OF 'chalklinelaw07.SyntaxTexts'. -/
def syntaxTextsUptoCard : Claim7 := { stood := { row := syntaxTextsUptoRow, standIns := [], harness := (true, "45dc5d99de046a40a07964f4eaf951c11059584fd5cf80f258a179c0deed3bdf"), looks := true }, kinds := [], alts := [], laidByText := true, laidKinds := [.data, .data, .data, .data, .sentinel, .sentinel, .listed, .data, .mapped, .mapped, .mapped, .pinned], laidTests := true, laidLooks := .later }
def SyntaxTextsUptoCardSaid : Prop := Claim7.holds Tryz.pinned (.plain (OpenSpec.upto syntaxTextsSpec)) syntaxTextsUptoCard

/-- THE SECOND FORM's CARD OF 'chalklinelaw07.SyntaxRules'. -/
def syntaxRulesUptoCard : Claim7 := { stood := { row := syntaxRulesUptoRow, standIns := [], harness := (true, "45dc5d99de046a40a07964f4eaf951c11059584fd5cf80f258a179c0deed3bdf"), looks := true }, kinds := [], alts := [], laidByText := true, laidKinds := [.data, .data, .data, .data, .sentinel, .sentinel, .listed, .data, .mapped, .mapped, .mapped, .pinned], laidTests := true, laidLooks := .later }
def SyntaxRulesUptoCardSaid : Prop := Claim7.holds Tryz.pinned (.plain (OpenSpec.upto syntaxRulesSpec)) syntaxRulesUptoCard

/-- THE SECOND FORM's CARD OF 'chalklinelaw07.SyntaxBack'. -/
def syntaxBackUptoCard : Claim7 := { stood := { row := syntaxBackUptoRow, standIns := [], harness := (true, "45dc5d99de046a40a07964f4eaf951c11059584fd5cf80f258a179c0deed3bdf"), looks := true }, kinds := [], alts := [], laidByText := true, laidKinds := [.data, .data, .data, .data, .sentinel, .sentinel, .listed, .data, .mapped, .mapped, .mapped, .pinned], laidTests := true, laidLooks := .later }
def SyntaxBackUptoCardSaid : Prop := Claim7.holds Tryz.pinned (.plain (OpenSpec.upto syntaxBackSpec)) syntaxBackUptoCard

/-- THE SECOND FORM's CARD OF 'chalklinelaw07.SyntaxParts'. -/
def syntaxPartsUptoCard : Claim7 := { stood := { row := syntaxPartsUptoRow, standIns := [], harness := (true, "45dc5d99de046a40a07964f4eaf951c11059584fd5cf80f258a179c0deed3bdf"), looks := true }, kinds := [], alts := [], laidByText := true, laidKinds := [.data, .data, .data, .data, .sentinel, .sentinel, .listed, .data, .mapped, .mapped, .mapped, .pinned], laidTests := true, laidLooks := .later }
def SyntaxPartsUptoCardSaid : Prop := Claim7.holds Tryz.pinned (.plain (OpenSpec.upto syntaxPartsSpec)) syntaxPartsUptoCard

/-- THE SECOND FORM's CARD OF 'chalklinelaw07.SyntaxPlaces'. -/
def syntaxPlacesUptoCard : Claim7 := { stood := { row := syntaxPlacesUptoRow, standIns := [], harness := (true, "45dc5d99de046a40a07964f4eaf951c11059584fd5cf80f258a179c0deed3bdf"), looks := true }, kinds := [], alts := [], laidByText := true, laidKinds := [.data, .data, .data, .data, .sentinel, .sentinel, .listed, .data, .mapped, .mapped, .mapped, .pinned], laidTests := true, laidLooks := .later }
def SyntaxPlacesUptoCardSaid : Prop := Claim7.holds Tryz.pinned (.plain (OpenSpec.upto syntaxPlacesSpec)) syntaxPlacesUptoCard

/-- THE SECOND FORM's CARD OF 'chalklinelaw07.SyntaxOnce'. -/
def syntaxOnceUptoCard : Claim7 := { stood := { row := syntaxOnceUptoRow, standIns := [], harness := (true, "45dc5d99de046a40a07964f4eaf951c11059584fd5cf80f258a179c0deed3bdf"), looks := true }, kinds := [], alts := [], laidByText := true, laidKinds := [.data, .data, .data, .data, .sentinel, .sentinel, .listed, .data, .mapped, .mapped, .mapped, .pinned], laidTests := true, laidLooks := .later }
def SyntaxOnceUptoCardSaid : Prop := Claim7.holds Tryz.pinned (.plain (OpenSpec.upto syntaxOnceSpec)) syntaxOnceUptoCard

/-- THE SECOND FORM's CARD OF 'chalklinelaw07.SyntaxBrackets'. -/
def syntaxBracketsUptoCard : Claim7 := { stood := { row := syntaxBracketsUptoRow, standIns := [], harness := (true, "45dc5d99de046a40a07964f4eaf951c11059584fd5cf80f258a179c0deed3bdf"), looks := true }, kinds := [], alts := [], laidByText := true, laidKinds := [.data, .data, .data, .data, .sentinel, .sentinel, .listed, .data, .mapped, .mapped, .mapped, .pinned], laidTests := true, laidLooks := .later }
def SyntaxBracketsUptoCardSaid : Prop := Claim7.holds Tryz.pinned (.plain (OpenSpec.upto syntaxBracketsSpec)) syntaxBracketsUptoCard

/-- THE SECOND FORM's CARD OF 'chalklinelaw07.SyntaxPrints'. -/
def syntaxPrintsUptoCard : Claim7 := { stood := { row := syntaxPrintsUptoRow, standIns := [], harness := (true, "45dc5d99de046a40a07964f4eaf951c11059584fd5cf80f258a179c0deed3bdf"), looks := true }, kinds := [], alts := [], laidByText := true, laidKinds := [.data, .data, .data, .data, .sentinel, .sentinel, .listed, .data, .mapped, .mapped, .mapped, .pinned], laidTests := true, laidLooks := .later }
def SyntaxPrintsUptoCardSaid : Prop := Claim7.holds Tryz.pinned (.plain (OpenSpec.upto syntaxPrintsSpec)) syntaxPrintsUptoCard

/-- THE SECOND FORM's CARD OF 'chalklinelaw07.SyntaxFew'. -/
def syntaxFewUptoCard : Claim7 := { stood := { row := syntaxFewUptoRow, standIns := [], harness := (true, "45dc5d99de046a40a07964f4eaf951c11059584fd5cf80f258a179c0deed3bdf"), looks := true }, kinds := [], alts := [], laidByText := true, laidKinds := [.data, .data, .data, .data, .sentinel, .sentinel, .listed, .data, .mapped, .mapped, .mapped, .pinned], laidTests := true, laidLooks := .later }
def SyntaxFewUptoCardSaid : Prop := Claim7.holds Tryz.pinned (.plain (OpenSpec.upto syntaxFewSpec)) syntaxFewUptoCard
end Rows
end Go.Proofs.YtpmalchlecnjbaaGreatDoor
