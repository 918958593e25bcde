/-
  DERIVED. GIVEN WITH THE SEED: THE CARDS: each row of YtindldkileidmaaDoorRows.lean that lists a variable, with what it lists TIED to the program's text (the seventh form; the later family's looks); each row that meets fmt, with fmt's text TOLD by the authors' own Lean function (tested against real Go, not proved from fmt's source: count such statements apart). THE CARD IS WHAT COUNTS. Prove the row's statement (the work); the ties are given (YtindldkileidmaaDoorTie.lean); close each card by the builder's one call (the guide's Derived/Test/ToyasCard.lean, 'card_holds'). Laid BY PROGRAM, IN A SANDBOX (cutbox-door.mjs). By AI agents, Wed Nov 11 2026. No macro, syntax, notation, axiom, sorry.
-/
import Derived.Test.YtindldkileidmaaDoorRows
import GoSem.ClaimSeven
namespace Go.Proofs.YtindldkileidmaaDoor
namespace Rows

/-- THE TIED CARD OF 'laws.FnExactParseLog'. -/
def fnExactParseLogCard : Claim7 := { stood := { row := fnExactParseLogRow, standIns := [], harness := (true, "de03c9b47c583106ba3560930028b3f9d2ada0419cd7fbd3b9435d4c62122e7d"), looks := true }, kinds := [], alts := [], laidByText := true, laidKinds := [.data, .data, .data, .data, .sentinel, .sentinel, .widerDeep, .pinned], laidTests := true, laidLooks := .later }
def FnExactParseLogCardSaid : Prop := Claim7.holds Tryd.pinned (.plain (OpenSpec.ofChange fnExactParseLogSpec)) fnExactParseLogCard

/-- THE TIED CARD OF 'laws.FnExactParseForm'. -/
def fnExactParseFormCard : Claim7 := { stood := { row := fnExactParseFormRow, standIns := [], harness := (true, "de03c9b47c583106ba3560930028b3f9d2ada0419cd7fbd3b9435d4c62122e7d"), looks := true }, kinds := [], alts := [], laidByText := true, laidKinds := [.data, .data, .data, .data, .sentinel, .sentinel, .pinned], laidTests := true, laidLooks := .later }
def FnExactParseFormCardSaid : Prop := Claim7.holds Tryd.pinned (.plain (OpenSpec.ofChange fnExactParseFormSpec)) fnExactParseFormCard

/-- THE SECOND FORM's CARD OF 'laws.FnExactParseLog'. -/
def fnExactParseLogUptoCard : Claim7 := { stood := { row := fnExactParseLogUptoRow, standIns := [], harness := (true, "de03c9b47c583106ba3560930028b3f9d2ada0419cd7fbd3b9435d4c62122e7d"), looks := true }, kinds := [], alts := [], laidByText := true, laidKinds := [.data, .data, .data, .data, .sentinel, .sentinel, .widerDeep, .pinned], laidTests := true, laidLooks := .later }
def FnExactParseLogUptoCardSaid : Prop := Claim7.holds Tryd.pinned (.plain (OpenSpec.upto fnExactParseLogSpec)) fnExactParseLogUptoCard

/-- THE SECOND FORM's CARD OF 'laws.FnExactParseForm'. -/
def fnExactParseFormUptoCard : Claim7 := { stood := { row := fnExactParseFormUptoRow, standIns := [], harness := (true, "de03c9b47c583106ba3560930028b3f9d2ada0419cd7fbd3b9435d4c62122e7d"), looks := true }, kinds := [], alts := [], laidByText := true, laidKinds := [.data, .data, .data, .data, .sentinel, .sentinel, .pinned], laidTests := true, laidLooks := .later }
def FnExactParseFormUptoCardSaid : Prop := Claim7.holds Tryd.pinned (.plain (OpenSpec.upto fnExactParseFormSpec)) fnExactParseFormUptoCard
end Rows
end Go.Proofs.YtindldkileidmaaDoor
