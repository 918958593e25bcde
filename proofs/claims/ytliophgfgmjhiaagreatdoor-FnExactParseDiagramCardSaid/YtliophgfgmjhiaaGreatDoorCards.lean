/-
  DERIVED. GIVEN WITH THE SEED: THE CARDS: each row of YtliophgfgmjhiaaGreatDoorRows.lean that lists a variable, with what it lists TIED to the program's text (the seventh form; the later family's looks); each row that meets fmt, with fmt's text TOLD by the authors' own Lean function (tested against real Go, not proved from fmt's source: count such statements apart). THE CARD IS WHAT COUNTS. Prove the row's statement (the work); the ties are given (YtliophgfgmjhiaaGreatDoorTie.lean); close each card by the builder's one call (the guide's Derived/Test/ToyasCard.lean, 'card_holds'). Laid BY PROGRAM, IN A SANDBOX (cutbox-door.mjs). By AI agents, Wed Nov 11 2026. No macro, syntax, notation, axiom, sorry.
-/
import Derived.Test.YtliophgfgmjhiaaGreatDoorRows
import GoSem.ClaimSeven
namespace Go.Proofs.YtliophgfgmjhiaaGreatDoor
namespace Rows

/-- THE TIED CARD OF 'laws.FnExactParseDiagram'. -/
def fnExactParseDiagramCard : Claim7 := { stood := { row := fnExactParseDiagramRow, standIns := [], harness := (true, "cba8f0fbe06e50fce22e6cfdcd641daae07e6c3c96e0a2e536e7543061d455a2"), looks := true }, kinds := [], alts := [], laidByText := true, laidKinds := [.data, .data, .data, .data, .sentinel, .sentinel, .pinned], laidTests := true, laidLooks := .later }
def FnExactParseDiagramCardSaid : Prop := Claim7.holds Tryz.pinned (.plain (OpenSpec.ofChange fnExactParseDiagramSpec)) fnExactParseDiagramCard

/-- THE SECOND FORM's CARD OF 'laws.FnExactParseDiagram'. -/
def fnExactParseDiagramUptoCard : Claim7 := { stood := { row := fnExactParseDiagramUptoRow, standIns := [], harness := (true, "cba8f0fbe06e50fce22e6cfdcd641daae07e6c3c96e0a2e536e7543061d455a2"), looks := true }, kinds := [], alts := [], laidByText := true, laidKinds := [.data, .data, .data, .data, .sentinel, .sentinel, .pinned], laidTests := true, laidLooks := .later }
def FnExactParseDiagramUptoCardSaid : Prop := Claim7.holds Tryz.pinned (.plain (OpenSpec.upto fnExactParseDiagramSpec)) fnExactParseDiagramUptoCard
end Rows
end Go.Proofs.YtliophgfgmjhiaaGreatDoor
