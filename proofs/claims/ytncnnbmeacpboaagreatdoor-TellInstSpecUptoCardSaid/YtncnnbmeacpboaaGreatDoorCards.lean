/-
  DERIVED. GIVEN WITH THE SEED: THE CARDS: each row of YtncnnbmeacpboaaGreatDoorRows.lean that lists a variable, with what it lists TIED to the program's text (the seventh form; the later family's looks); each row that meets fmt, with fmt's text TOLD by the authors' own Lean function (tested against real Go, not proved from fmt's source: count such statements apart). THE CARD IS WHAT COUNTS. Prove the row's statement (the work); the ties are given (YtncnnbmeacpboaaGreatDoorTie.lean); close each card by the builder's one call (the guide's Derived/Test/ToyasCard.lean, 'card_holds'). Laid BY PROGRAM, IN A SANDBOX (cutbox-door.mjs). By AI agents, Wed Nov 11 2026. No macro, syntax, notation, axiom, sorry.
-/
import Derived.Test.YtncnnbmeacpboaaGreatDoorRows
import GoSem.ClaimSeven
namespace Go.Proofs.YtncnnbmeacpboaaGreatDoor
namespace Rows

/-- THE TIED CARD OF 'chalklinelaw31.TellInstSpec'. -/
def tellInstSpecCard : Claim7 := { stood := { row := tellInstSpecRow, standIns := [], harness := (true, "100b489d7ec4f5f2fb1e39104759f7bf74152e863a5fc79e51bce6d70e95567b"), looks := false }, kinds := [], alts := [], laidByText := true, laidKinds := [.data, .data, .data, .data, .mapped, .mapped, .mapped, .widerDeep, .data, .pinned], laidTests := true, laidLooks := .later }
def TellInstSpecCardSaid : Prop := Claim7.holds Tryz.pinned (.plain (OpenSpec.ofChange tellInstSpecSpec)) tellInstSpecCard

/-- THE TIED CARD OF 'chalklinelaw31.TellLinesSpec'. -/
def tellLinesSpecCard : Claim7 := { stood := { row := tellLinesSpecRow, standIns := [], harness := (true, "100b489d7ec4f5f2fb1e39104759f7bf74152e863a5fc79e51bce6d70e95567b"), looks := false }, kinds := [], alts := [], laidByText := true, laidKinds := [.data, .data, .data, .data, .mapped, .mapped, .mapped, .widerDeep, .data, .pinned], laidTests := true, laidLooks := .later }
def TellLinesSpecCardSaid : Prop := Claim7.holds Tryz.pinned (.plain (OpenSpec.ofChange tellLinesSpecSpec)) tellLinesSpecCard

/-- THE TIED CARD OF 'chalklinelaw31.TellInjective'. -/
def tellInjectiveCard : Claim7 := { stood := { row := tellInjectiveRow, standIns := [], harness := (true, "100b489d7ec4f5f2fb1e39104759f7bf74152e863a5fc79e51bce6d70e95567b"), looks := false }, kinds := [], alts := [], laidByText := true, laidKinds := [.data, .data, .data, .data, .mapped, .mapped, .mapped, .widerDeep, .data, .pinned], laidTests := true, laidLooks := .later }
def TellInjectiveCardSaid : Prop := Claim7.holds Tryz.pinned (.plain (OpenSpec.ofChange tellInjectiveSpec)) tellInjectiveCard

/-- THE TIED CARD OF 'chalklinelaw31.TellGroupedLines'. -/
def tellGroupedLinesCard : Claim7 := { stood := { row := tellGroupedLinesRow, standIns := [], harness := (true, "100b489d7ec4f5f2fb1e39104759f7bf74152e863a5fc79e51bce6d70e95567b"), looks := false }, kinds := [], alts := [], laidByText := true, laidKinds := [.data, .data, .data, .data, .mapped, .mapped, .mapped, .widerDeep, .data, .pinned], laidTests := true, laidLooks := .later }
def TellGroupedLinesCardSaid : Prop := Claim7.holds Tryz.pinned (.plain (OpenSpec.ofChange tellGroupedLinesSpec)) tellGroupedLinesCard

/-- THE TIED CARD OF 'chalklinelaw31.TellWhyAppends'. -/
def tellWhyAppendsCard : Claim7 := { stood := { row := tellWhyAppendsRow, standIns := [], harness := (true, "100b489d7ec4f5f2fb1e39104759f7bf74152e863a5fc79e51bce6d70e95567b"), looks := false }, kinds := [], alts := [], laidByText := true, laidKinds := [.data, .data, .data, .data, .mapped, .mapped, .mapped, .widerDeep, .data, .pinned], laidTests := true, laidLooks := .later }
def TellWhyAppendsCardSaid : Prop := Claim7.holds Tryz.pinned (.plain (OpenSpec.ofChange tellWhyAppendsSpec)) tellWhyAppendsCard

/-- THE SECOND FORM's CARD OF 'chalklinelaw31.TellInstSpec'. -/
def tellInstSpecUptoCard : Claim7 := { stood := { row := tellInstSpecUptoRow, standIns := [], harness := (true, "100b489d7ec4f5f2fb1e39104759f7bf74152e863a5fc79e51bce6d70e95567b"), looks := false }, kinds := [], alts := [], laidByText := true, laidKinds := [.data, .data, .data, .data, .mapped, .mapped, .mapped, .widerDeep, .data, .pinned], laidTests := true, laidLooks := .later }
def TellInstSpecUptoCardSaid : Prop := Claim7.holds Tryz.pinned (.plain (OpenSpec.upto tellInstSpecSpec)) tellInstSpecUptoCard

/-- THE SECOND FORM's CARD OF 'chalklinelaw31.TellLinesSpec'. -/
def tellLinesSpecUptoCard : Claim7 := { stood := { row := tellLinesSpecUptoRow, standIns := [], harness := (true, "100b489d7ec4f5f2fb1e39104759f7bf74152e863a5fc79e51bce6d70e95567b"), looks := false }, kinds := [], alts := [], laidByText := true, laidKinds := [.data, .data, .data, .data, .mapped, .mapped, .mapped, .widerDeep, .data, .pinned], laidTests := true, laidLooks := .later }
def TellLinesSpecUptoCardSaid : Prop := Claim7.holds Tryz.pinned (.plain (OpenSpec.upto tellLinesSpecSpec)) tellLinesSpecUptoCard

/-- THE SECOND FORM's CARD OF 'chalklinelaw31.TellInjective'. -/
def tellInjectiveUptoCard : Claim7 := { stood := { row := tellInjectiveUptoRow, standIns := [], harness := (true, "100b489d7ec4f5f2fb1e39104759f7bf74152e863a5fc79e51bce6d70e95567b"), looks := false }, kinds := [], alts := [], laidByText := true, laidKinds := [.data, .data, .data, .data, .mapped, .mapped, .mapped, .widerDeep, .data, .pinned], laidTests := true, laidLooks := .later }
def TellInjectiveUptoCardSaid : Prop := Claim7.holds Tryz.pinned (.plain (OpenSpec.upto tellInjectiveSpec)) tellInjectiveUptoCard

/-- THE SECOND FORM's CARD OF 'chalklinelaw31.TellGroupedLines'. -/
def tellGroupedLinesUptoCard : Claim7 := { stood := { row := tellGroupedLinesUptoRow, standIns := [], harness := (true, "100b489d7ec4f5f2fb1e39104759f7bf74152e863a5fc79e51bce6d70e95567b"), looks := false }, kinds := [], alts := [], laidByText := true, laidKinds := [.data, .data, .data, .data, .mapped, .mapped, .mapped, .widerDeep, .data, .pinned], laidTests := true, laidLooks := .later }
def TellGroupedLinesUptoCardSaid : Prop := Claim7.holds Tryz.pinned (.plain (OpenSpec.upto tellGroupedLinesSpec)) tellGroupedLinesUptoCard

/-- THE SECOND FORM's CARD OF 'chalklinelaw31.TellWhyAppends'. -/
def tellWhyAppendsUptoCard : Claim7 := { stood := { row := tellWhyAppendsUptoRow, standIns := [], harness := (true, "100b489d7ec4f5f2fb1e39104759f7bf74152e863a5fc79e51bce6d70e95567b"), looks := false }, kinds := [], alts := [], laidByText := true, laidKinds := [.data, .data, .data, .data, .mapped, .mapped, .mapped, .widerDeep, .data, .pinned], laidTests := true, laidLooks := .later }
def TellWhyAppendsUptoCardSaid : Prop := Claim7.holds Tryz.pinned (.plain (OpenSpec.upto tellWhyAppendsSpec)) tellWhyAppendsUptoCard
end Rows
end Go.Proofs.YtncnnbmeacpboaaGreatDoor
