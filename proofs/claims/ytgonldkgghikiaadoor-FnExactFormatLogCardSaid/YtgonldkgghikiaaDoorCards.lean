/-
  DERIVED. GIVEN WITH THE SEED: THE CARDS: each row of YtgonldkgghikiaaDoorRows.lean that lists a variable, with what it lists TIED to the program's text (the seventh form; the later family's looks); each row that meets fmt, with fmt's text TOLD by the authors' own Lean function (tested against real Go, not proved from fmt's source: count such statements apart). THE CARD IS WHAT COUNTS. Prove the row's statement (the work); the ties are given (YtgonldkgghikiaaDoorTie.lean); close each card by the builder's one call (the guide's Derived/Test/ToyasCard.lean, 'card_holds'). Laid BY PROGRAM, IN A SANDBOX (cutbox-door.mjs). By AI agents, Wed Nov 11 2026. No macro, syntax, notation, axiom, sorry.
-/
import Derived.Test.YtgonldkgghikiaaDoorRows
import GoSem.ClaimSeven
namespace Go.Proofs.YtgonldkgghikiaaDoor
namespace Rows

/-- THE TIED CARD OF 'laws.FnExactFormatForm'. -/
def fnExactFormatFormCard : Claim7 := { stood := { row := fnExactFormatFormRow, standIns := [], harness := (true, "a4a2fd31e10335cc6f457471c1766460d172c8548318d3ea446b0efad24819f6"), looks := false }, kinds := [], alts := [], laidByText := true, laidKinds := [.data, .data, .data], laidTests := true, laidLooks := .later }
def FnExactFormatFormCardSaid : Prop := Claim7.holds Tryd.pinned (.plain (OpenSpec.ofChange fnExactFormatFormSpec)) fnExactFormatFormCard

/-- THE TIED CARD OF 'laws.FnExactFormatLog'. -/
def fnExactFormatLogCard : Claim7 := { stood := { row := fnExactFormatLogRow, standIns := [], harness := (true, "a4a2fd31e10335cc6f457471c1766460d172c8548318d3ea446b0efad24819f6"), looks := false }, kinds := [], alts := [], laidByText := true, laidKinds := [.data, .data, .data, .widerDeep], laidTests := true, laidLooks := .later }
def FnExactFormatLogCardSaid : Prop := Claim7.holds Tryd.pinned (.plain (OpenSpec.ofChange fnExactFormatLogSpec)) fnExactFormatLogCard

/-- THE SECOND FORM's CARD OF 'laws.FnExactFormatForm'. -/
def fnExactFormatFormUptoCard : Claim7 := { stood := { row := fnExactFormatFormUptoRow, standIns := [], harness := (true, "a4a2fd31e10335cc6f457471c1766460d172c8548318d3ea446b0efad24819f6"), looks := false }, kinds := [], alts := [], laidByText := true, laidKinds := [.data, .data, .data], laidTests := true, laidLooks := .later }
def FnExactFormatFormUptoCardSaid : Prop := Claim7.holds Tryd.pinned (.plain (OpenSpec.upto fnExactFormatFormSpec)) fnExactFormatFormUptoCard

/-- THE SECOND FORM's CARD OF 'laws.FnExactFormatLog'. -/
def fnExactFormatLogUptoCard : Claim7 := { stood := { row := fnExactFormatLogUptoRow, standIns := [], harness := (true, "a4a2fd31e10335cc6f457471c1766460d172c8548318d3ea446b0efad24819f6"), looks := false }, kinds := [], alts := [], laidByText := true, laidKinds := [.data, .data, .data, .widerDeep], laidTests := true, laidLooks := .later }
def FnExactFormatLogUptoCardSaid : Prop := Claim7.holds Tryd.pinned (.plain (OpenSpec.upto fnExactFormatLogSpec)) fnExactFormatLogUptoCard
end Rows
end Go.Proofs.YtgonldkgghikiaaDoor
