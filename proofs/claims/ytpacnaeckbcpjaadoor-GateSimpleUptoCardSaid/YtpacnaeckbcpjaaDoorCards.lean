/-
  DERIVED. GIVEN WITH THE SEED: THE CARDS: each row of YtpacnaeckbcpjaaDoorRows.lean that lists a variable, with what it lists TIED to the program's text (the seventh form; the later family's looks); each row that meets fmt, with fmt's text TOLD by the authors' own Lean function (tested against real Go, not proved from fmt's source: count such statements apart). THE CARD IS WHAT COUNTS. Prove the row's statement (the work); the ties are given (YtpacnaeckbcpjaaDoorTie.lean); close each card by the builder's one call (the guide's Derived/Test/ToyasCard.lean, 'card_holds'). Laid BY PROGRAM, IN A SANDBOX (cutbox-door.mjs). By AI agents, Wed Nov 11 2026. No macro, syntax, notation, axiom, sorry.
-/
import Derived.Test.YtpacnaeckbcpjaaDoorRows
import GoSem.ClaimSeven
namespace Go.Proofs.YtpacnaeckbcpjaaDoor
namespace Rows

/-- THE TIED CARD OF 'chalklinelaw13.GateSimple'. -/
def gateSimpleCard : Claim7 := { stood := { row := gateSimpleRow, standIns := [], harness := (true, "f6d84f861d9de2b934c34dc773efb28b337a7ad0b870f06b92ec0897ee68e7f0"), looks := true }, kinds := [], alts := [], laidByText := true, laidKinds := [.data], laidTests := true, laidLooks := .later }
def GateSimpleCardSaid : Prop := Claim7.holds Tryd.pinned (.plain (OpenSpec.ofChange gateSimpleSpec)) gateSimpleCard

/-- THE SECOND FORM's CARD OF 'chalklinelaw13.GateSimple'. -/
def gateSimpleUptoCard : Claim7 := { stood := { row := gateSimpleUptoRow, standIns := [], harness := (true, "f6d84f861d9de2b934c34dc773efb28b337a7ad0b870f06b92ec0897ee68e7f0"), looks := true }, kinds := [], alts := [], laidByText := true, laidKinds := [.data], laidTests := true, laidLooks := .later }
def GateSimpleUptoCardSaid : Prop := Claim7.holds Tryd.pinned (.plain (OpenSpec.upto gateSimpleSpec)) gateSimpleUptoCard
end Rows
end Go.Proofs.YtpacnaeckbcpjaaDoor
