/-
  No cell of these rows narrows 'for every input' (looked for: loops, veiled, ifaces, maps, wideKeys, modest, calm, conditions, laid).
  DERIVED. THE GIVEN ROWS OF THIS SEAT. 9 by the template 'for every input the law returns true; each argument reads behind the call as it read before'; 0 by the template 'total and deterministic' (their statements: YtlelcnlibacnaaaTotals.lean).
  GIVEN WITH THE SEED: the statements are not yours to turn. If you find one false, say at which input.
  Laid BY PROGRAM, IN A SANDBOX (cutbox-rows.mjs): the forced cells as the released guide's own fill.sh prints them over the translation 1e1992ac1a6b17fe… (all of the seat's roots in one cut). By AI agents, Wed Nov 11 2026. No macro, syntax, notation, axiom, sorry.
-/
import Derived.Test.YtlelcnlibacnaaaChecked
import GoSem.Claim
import GoSem.ClaimJoined
import GoSem.ClaimMapViews
import Derived.JoinedTies
import Derived.KernelRfl
namespace Go.Proofs.Ytlelcnlibacnaaa
/- THE CELL 'sum', in the pinned program and in every row, IS THE sha256 OF THE DUMP (.gsa) THAT YtlelcnlibacnaaaProg.lean LOADS. Nothing in Lean hashes anything: it is a label: what it is worth is what the hold of that sum in a sandbox is worth. -/
noncomputable def Try.pinned : Pinned := { name := "ytlelcnlibacnaaa", sum := "1e1992ac1a6b17fe308797807abba5eeef286fdbb6d04cb8cfe3fd3324f5109b", checked := Try.checked }
namespace Rows
def none {H : Type} : Left H := { results := [], args := [] }

/-- 'laws.FnExactOddTerms': WHATEVER THE INPUT: true; the input reads as it did. -/
def fnExactOddTermsSpec : ChangeSpec := { name := "fnExactOddTerms", fn := fun _ => fun
  | [d] => { results := [.lit (.bool true)], args := [d] }
  | _ => none }
def fnExactOddTermsRow : OpenClaim := { program := "ytlelcnlibacnaaa", sum := "1e1992ac1a6b17fe308797807abba5eeef286fdbb6d04cb8cfe3fd3324f5109b", func := "loop.example/g00864/laws.FnExactOddTerms", spec := "fnExactOddTerms", unfollowed := true, recurses := true, apart := false }
def FnExactOddTermsSaid : Prop := fnExactOddTermsRow.holds Try.pinned (OpenSpec.ofChange fnExactOddTermsSpec)

/-- ITS FALSE NEIGHBOUR: 'it returns false'. Refute it at one input. -/
def fnExactOddTermsWrong : ChangeSpec := { name := "fnExactOddTerms", fn := fun _ => fun
  | [d] => { results := [.lit (.bool false)], args := [d] }
  | _ => none }
def FnExactOddTermsWrongFalsely : Prop := fnExactOddTermsRow.holds Try.pinned (OpenSpec.ofChange fnExactOddTermsWrong)

/-- 'laws.FnExactOddWord': WHATEVER THE INPUT: true; the input reads as it did. -/
def fnExactOddWordSpec : ChangeSpec := { name := "fnExactOddWord", fn := fun _ => fun
  | [d] => { results := [.lit (.bool true)], args := [d] }
  | _ => none }
def fnExactOddWordRow : OpenClaim := { program := "ytlelcnlibacnaaa", sum := "1e1992ac1a6b17fe308797807abba5eeef286fdbb6d04cb8cfe3fd3324f5109b", func := "loop.example/g00864/laws.FnExactOddWord", spec := "fnExactOddWord", unfollowed := true, recurses := true, apart := false }
def FnExactOddWordSaid : Prop := fnExactOddWordRow.holds Try.pinned (OpenSpec.ofChange fnExactOddWordSpec)

/-- ITS FALSE NEIGHBOUR: 'it returns false'. Refute it at one input. -/
def fnExactOddWordWrong : ChangeSpec := { name := "fnExactOddWord", fn := fun _ => fun
  | [d] => { results := [.lit (.bool false)], args := [d] }
  | _ => none }
def FnExactOddWordWrongFalsely : Prop := fnExactOddWordRow.holds Try.pinned (OpenSpec.ofChange fnExactOddWordWrong)

/-- 'laws.FnExactPhaseAt': WHATEVER THE INPUT: true; the input reads as it did. -/
def fnExactPhaseAtSpec : ChangeSpec := { name := "fnExactPhaseAt", fn := fun _ => fun
  | [d1, d2] => { results := [.lit (.bool true)], args := [d1, d2] }
  | _ => none }
def fnExactPhaseAtRow : OpenClaim := { program := "ytlelcnlibacnaaa", sum := "1e1992ac1a6b17fe308797807abba5eeef286fdbb6d04cb8cfe3fd3324f5109b", func := "loop.example/g00864/laws.FnExactPhaseAt", spec := "fnExactPhaseAt", unfollowed := true, recurses := true, apart := false }
def FnExactPhaseAtSaid : Prop := fnExactPhaseAtRow.holds Try.pinned (OpenSpec.ofChange fnExactPhaseAtSpec)

/-- ITS FALSE NEIGHBOUR: 'it returns false'. Refute it at one input. -/
def fnExactPhaseAtWrong : ChangeSpec := { name := "fnExactPhaseAt", fn := fun _ => fun
  | [d1, d2] => { results := [.lit (.bool false)], args := [d1, d2] }
  | _ => none }
def FnExactPhaseAtWrongFalsely : Prop := fnExactPhaseAtRow.holds Try.pinned (OpenSpec.ofChange fnExactPhaseAtWrong)

/-- 'laws.FnExactCodeWords': WHATEVER THE INPUT: true; the input reads as it did. -/
def fnExactCodeWordsSpec : ChangeSpec := { name := "fnExactCodeWords", fn := fun _ => fun
  | [d] => { results := [.lit (.bool true)], args := [d] }
  | _ => none }
def fnExactCodeWordsRow : OpenClaim := { program := "ytlelcnlibacnaaa", sum := "1e1992ac1a6b17fe308797807abba5eeef286fdbb6d04cb8cfe3fd3324f5109b", func := "loop.example/g00864/laws.FnExactCodeWords", spec := "fnExactCodeWords", recurses := true, apart := false }
def FnExactCodeWordsSaid : Prop := fnExactCodeWordsRow.holds Try.pinned (OpenSpec.ofChange fnExactCodeWordsSpec)

/-- ITS FALSE NEIGHBOUR: 'it returns false'. Refute it at one input. -/
def fnExactCodeWordsWrong : ChangeSpec := { name := "fnExactCodeWords", fn := fun _ => fun
  | [d] => { results := [.lit (.bool false)], args := [d] }
  | _ => none }
def FnExactCodeWordsWrongFalsely : Prop := fnExactCodeWordsRow.holds Try.pinned (OpenSpec.ofChange fnExactCodeWordsWrong)

/-- 'laws.FnExactIsCodeWord': WHATEVER THE INPUT: true; the input reads as it did. -/
def fnExactIsCodeWordSpec : ChangeSpec := { name := "fnExactIsCodeWord", fn := fun _ => fun
  | [d1, d2] => { results := [.lit (.bool true)], args := [d1, d2] }
  | _ => none }
def fnExactIsCodeWordRow : OpenClaim := { program := "ytlelcnlibacnaaa", sum := "1e1992ac1a6b17fe308797807abba5eeef286fdbb6d04cb8cfe3fd3324f5109b", func := "loop.example/g00864/laws.FnExactIsCodeWord", spec := "fnExactIsCodeWord", recurses := true, apart := false }
def FnExactIsCodeWordSaid : Prop := fnExactIsCodeWordRow.holds Try.pinned (OpenSpec.ofChange fnExactIsCodeWordSpec)

/-- ITS FALSE NEIGHBOUR: 'it returns false'. Refute it at one input. -/
def fnExactIsCodeWordWrong : ChangeSpec := { name := "fnExactIsCodeWord", fn := fun _ => fun
  | [d1, d2] => { results := [.lit (.bool false)], args := [d1, d2] }
  | _ => none }
def FnExactIsCodeWordWrongFalsely : Prop := fnExactIsCodeWordRow.holds Try.pinned (OpenSpec.ofChange fnExactIsCodeWordWrong)

/-- 'laws.FnExactNearestCode': WHATEVER THE INPUT: true; the input reads as it did. -/
def fnExactNearestCodeSpec : ChangeSpec := { name := "fnExactNearestCode", fn := fun _ => fun
  | [d1, d2] => { results := [.lit (.bool true)], args := [d1, d2] }
  | _ => none }
def fnExactNearestCodeRow : OpenClaim := { program := "ytlelcnlibacnaaa", sum := "1e1992ac1a6b17fe308797807abba5eeef286fdbb6d04cb8cfe3fd3324f5109b", func := "loop.example/g00864/laws.FnExactNearestCode", spec := "fnExactNearestCode", recurses := true, apart := false }
def FnExactNearestCodeSaid : Prop := fnExactNearestCodeRow.holds Try.pinned (OpenSpec.ofChange fnExactNearestCodeSpec)

/-- ITS FALSE NEIGHBOUR: 'it returns false'. Refute it at one input. -/
def fnExactNearestCodeWrong : ChangeSpec := { name := "fnExactNearestCode", fn := fun _ => fun
  | [d1, d2] => { results := [.lit (.bool false)], args := [d1, d2] }
  | _ => none }
def FnExactNearestCodeWrongFalsely : Prop := fnExactNearestCodeRow.holds Try.pinned (OpenSpec.ofChange fnExactNearestCodeWrong)

/-- 'laws.FnExactLeastT': WHATEVER THE INPUT: true; the input reads as it did. -/
def fnExactLeastTSpec : ChangeSpec := { name := "fnExactLeastT", fn := fun _ => fun
  | [d] => { results := [.lit (.bool true)], args := [d] }
  | _ => none }
def fnExactLeastTRow : OpenClaim := { program := "ytlelcnlibacnaaa", sum := "1e1992ac1a6b17fe308797807abba5eeef286fdbb6d04cb8cfe3fd3324f5109b", func := "loop.example/g00864/laws.FnExactLeastT", spec := "fnExactLeastT", unfollowed := true, recurses := true, apart := false }
def FnExactLeastTSaid : Prop := fnExactLeastTRow.holds Try.pinned (OpenSpec.ofChange fnExactLeastTSpec)

/-- ITS FALSE NEIGHBOUR: 'it returns false'. Refute it at one input. -/
def fnExactLeastTWrong : ChangeSpec := { name := "fnExactLeastT", fn := fun _ => fun
  | [d] => { results := [.lit (.bool false)], args := [d] }
  | _ => none }
def FnExactLeastTWrongFalsely : Prop := fnExactLeastTRow.holds Try.pinned (OpenSpec.ofChange fnExactLeastTWrong)

/-- 'laws.FnExactEqualDiagrams': WHATEVER THE INPUT: true; the input reads as it did. -/
def fnExactEqualDiagramsSpec : ChangeSpec := { name := "fnExactEqualDiagrams", fn := fun _ => fun
  | [d1, d2] => { results := [.lit (.bool true)], args := [d1, d2] }
  | _ => none }
def fnExactEqualDiagramsRow : OpenClaim := { program := "ytlelcnlibacnaaa", sum := "1e1992ac1a6b17fe308797807abba5eeef286fdbb6d04cb8cfe3fd3324f5109b", func := "loop.example/g00864/laws.FnExactEqualDiagrams", spec := "fnExactEqualDiagrams", apart := false }
def FnExactEqualDiagramsSaid : Prop := fnExactEqualDiagramsRow.holds Try.pinned (OpenSpec.ofChange fnExactEqualDiagramsSpec)

/-- ITS FALSE NEIGHBOUR: 'it returns false'. Refute it at one input. -/
def fnExactEqualDiagramsWrong : ChangeSpec := { name := "fnExactEqualDiagrams", fn := fun _ => fun
  | [d1, d2] => { results := [.lit (.bool false)], args := [d1, d2] }
  | _ => none }
def FnExactEqualDiagramsWrongFalsely : Prop := fnExactEqualDiagramsRow.holds Try.pinned (OpenSpec.ofChange fnExactEqualDiagramsWrong)

/-- 'laws.FnExactPhaseCircuit': WHATEVER THE INPUT: true; the input reads as it did. -/
def fnExactPhaseCircuitSpec : ChangeSpec := { name := "fnExactPhaseCircuit", fn := fun _ => fun
  | [d] => { results := [.lit (.bool true)], args := [d] }
  | _ => none }
def fnExactPhaseCircuitRow : OpenClaim := { program := "ytlelcnlibacnaaa", sum := "1e1992ac1a6b17fe308797807abba5eeef286fdbb6d04cb8cfe3fd3324f5109b", func := "loop.example/g00864/laws.FnExactPhaseCircuit", spec := "fnExactPhaseCircuit", unfollowed := true, recurses := true, apart := false }
def FnExactPhaseCircuitSaid : Prop := fnExactPhaseCircuitRow.holds Try.pinned (OpenSpec.ofChange fnExactPhaseCircuitSpec)

/-- ITS FALSE NEIGHBOUR: 'it returns false'. Refute it at one input. -/
def fnExactPhaseCircuitWrong : ChangeSpec := { name := "fnExactPhaseCircuit", fn := fun _ => fun
  | [d] => { results := [.lit (.bool false)], args := [d] }
  | _ => none }
def FnExactPhaseCircuitWrongFalsely : Prop := fnExactPhaseCircuitRow.holds Try.pinned (OpenSpec.ofChange fnExactPhaseCircuitWrong)

/- THE SECOND FORM. 'bulk': how many values and letters a reading holds, each counted each time it is reached (what is shared counts as often as it is met; a slice's spare places count too). A statement '..UptoSaid' is the law's where the arguments, and the package variables that the reading takes, are together of bulk at most 1048576: NARROWER than '..Said'. Prove '..Said' where nothing that the law and all that it calls make is longer than what came in: it says more and counts as full. Else prove '..UptoSaid'. A law counts once. -/
mutual
def uptoBulk {H : Type} : DataW H → Nat
  | .lit (.string bytes) => bytes.length + 1
  | .lit _ => 1
  | .nil => 1
  | .ptr d => uptoBulk d + 1
  | .slice elems spare => uptoBulkAll elems + uptoBulkAll spare + 1
  | .agg parts => uptoBulkAll parts + 1
  | .iface _ d => uptoBulk d + 1
  | .map entries => uptoBulkEntries entries + 1
  | .held _ => 1
def uptoBulkAll {H : Type} : List (DataW H) → Nat
  | [] => 0
  | d :: r => uptoBulk d + uptoBulkAll r
def uptoBulkEntries {H : Type} : List (Lit × DataW H) → Nat
  | [] => 0
  | x :: r => uptoBulkEntry x + uptoBulkEntries r
def uptoBulkEntry {H : Type} : Lit × DataW H → Nat
  | (.string bytes, d) => bytes.length + uptoBulk d + 1
  | (_, d) => uptoBulk d + 1
 end
def uptoSmall : (H : Type) → List (DataW H) → Bool := fun _ ds => decide (uptoBulkAll ds ≤ 1048576)
def OpenSpec.upto (s : _root_.Go.ChangeSpec) : _root_.Go.OpenSpec := { _root_.Go.OpenSpec.ofChange s with cond := some uptoSmall }

/-- 'laws.FnExactOddTerms', WHERE WHAT IT READS IS OF BULK AT MOST 1048576: true; the input reads as it did. -/
def fnExactOddTermsUptoRow : OpenClaim := { program := "ytlelcnlibacnaaa", sum := "1e1992ac1a6b17fe308797807abba5eeef286fdbb6d04cb8cfe3fd3324f5109b", func := "loop.example/g00864/laws.FnExactOddTerms", spec := "fnExactOddTerms", unfollowed := true, recurses := true, apart := false, narrowed := true }
def FnExactOddTermsUptoSaid : Prop := fnExactOddTermsUptoRow.holds Try.pinned (OpenSpec.upto fnExactOddTermsSpec)

/-- 'laws.FnExactOddWord', WHERE WHAT IT READS IS OF BULK AT MOST 1048576: true; the input reads as it did. -/
def fnExactOddWordUptoRow : OpenClaim := { program := "ytlelcnlibacnaaa", sum := "1e1992ac1a6b17fe308797807abba5eeef286fdbb6d04cb8cfe3fd3324f5109b", func := "loop.example/g00864/laws.FnExactOddWord", spec := "fnExactOddWord", unfollowed := true, recurses := true, apart := false, narrowed := true }
def FnExactOddWordUptoSaid : Prop := fnExactOddWordUptoRow.holds Try.pinned (OpenSpec.upto fnExactOddWordSpec)

/-- 'laws.FnExactPhaseAt', WHERE WHAT IT READS IS OF BULK AT MOST 1048576: true; the input reads as it did. -/
def fnExactPhaseAtUptoRow : OpenClaim := { program := "ytlelcnlibacnaaa", sum := "1e1992ac1a6b17fe308797807abba5eeef286fdbb6d04cb8cfe3fd3324f5109b", func := "loop.example/g00864/laws.FnExactPhaseAt", spec := "fnExactPhaseAt", unfollowed := true, recurses := true, apart := false, narrowed := true }
def FnExactPhaseAtUptoSaid : Prop := fnExactPhaseAtUptoRow.holds Try.pinned (OpenSpec.upto fnExactPhaseAtSpec)

/-- 'laws.FnExactCodeWords', WHERE WHAT IT READS IS OF BULK AT MOST 1048576: true; the input reads as it did. -/
def fnExactCodeWordsUptoRow : OpenClaim := { program := "ytlelcnlibacnaaa", sum := "1e1992ac1a6b17fe308797807abba5eeef286fdbb6d04cb8cfe3fd3324f5109b", func := "loop.example/g00864/laws.FnExactCodeWords", spec := "fnExactCodeWords", recurses := true, apart := false, narrowed := true }
def FnExactCodeWordsUptoSaid : Prop := fnExactCodeWordsUptoRow.holds Try.pinned (OpenSpec.upto fnExactCodeWordsSpec)

/-- 'laws.FnExactIsCodeWord', WHERE WHAT IT READS IS OF BULK AT MOST 1048576: true; the input reads as it did. -/
def fnExactIsCodeWordUptoRow : OpenClaim := { program := "ytlelcnlibacnaaa", sum := "1e1992ac1a6b17fe308797807abba5eeef286fdbb6d04cb8cfe3fd3324f5109b", func := "loop.example/g00864/laws.FnExactIsCodeWord", spec := "fnExactIsCodeWord", recurses := true, apart := false, narrowed := true }
def FnExactIsCodeWordUptoSaid : Prop := fnExactIsCodeWordUptoRow.holds Try.pinned (OpenSpec.upto fnExactIsCodeWordSpec)

/-- 'laws.FnExactNearestCode', WHERE WHAT IT READS IS OF BULK AT MOST 1048576: true; the input reads as it did. -/
def fnExactNearestCodeUptoRow : OpenClaim := { program := "ytlelcnlibacnaaa", sum := "1e1992ac1a6b17fe308797807abba5eeef286fdbb6d04cb8cfe3fd3324f5109b", func := "loop.example/g00864/laws.FnExactNearestCode", spec := "fnExactNearestCode", recurses := true, apart := false, narrowed := true }
def FnExactNearestCodeUptoSaid : Prop := fnExactNearestCodeUptoRow.holds Try.pinned (OpenSpec.upto fnExactNearestCodeSpec)

/-- 'laws.FnExactLeastT', WHERE WHAT IT READS IS OF BULK AT MOST 1048576: true; the input reads as it did. -/
def fnExactLeastTUptoRow : OpenClaim := { program := "ytlelcnlibacnaaa", sum := "1e1992ac1a6b17fe308797807abba5eeef286fdbb6d04cb8cfe3fd3324f5109b", func := "loop.example/g00864/laws.FnExactLeastT", spec := "fnExactLeastT", unfollowed := true, recurses := true, apart := false, narrowed := true }
def FnExactLeastTUptoSaid : Prop := fnExactLeastTUptoRow.holds Try.pinned (OpenSpec.upto fnExactLeastTSpec)

/-- 'laws.FnExactEqualDiagrams', WHERE WHAT IT READS IS OF BULK AT MOST 1048576: true; the input reads as it did. -/
def fnExactEqualDiagramsUptoRow : OpenClaim := { program := "ytlelcnlibacnaaa", sum := "1e1992ac1a6b17fe308797807abba5eeef286fdbb6d04cb8cfe3fd3324f5109b", func := "loop.example/g00864/laws.FnExactEqualDiagrams", spec := "fnExactEqualDiagrams", apart := false, narrowed := true }
def FnExactEqualDiagramsUptoSaid : Prop := fnExactEqualDiagramsUptoRow.holds Try.pinned (OpenSpec.upto fnExactEqualDiagramsSpec)

/-- 'laws.FnExactPhaseCircuit', WHERE WHAT IT READS IS OF BULK AT MOST 1048576: true; the input reads as it did. -/
def fnExactPhaseCircuitUptoRow : OpenClaim := { program := "ytlelcnlibacnaaa", sum := "1e1992ac1a6b17fe308797807abba5eeef286fdbb6d04cb8cfe3fd3324f5109b", func := "loop.example/g00864/laws.FnExactPhaseCircuit", spec := "fnExactPhaseCircuit", unfollowed := true, recurses := true, apart := false, narrowed := true }
def FnExactPhaseCircuitUptoSaid : Prop := fnExactPhaseCircuitUptoRow.holds Try.pinned (OpenSpec.upto fnExactPhaseCircuitSpec)

end Rows
end Go.Proofs.Ytlelcnlibacnaaa
