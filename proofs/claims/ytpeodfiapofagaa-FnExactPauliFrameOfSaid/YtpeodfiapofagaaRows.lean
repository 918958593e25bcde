/-
  No cell of these rows narrows 'for every input' (looked for: loops, veiled, ifaces, maps, wideKeys, modest, calm, conditions, laid).
  DERIVED. THE GIVEN ROWS OF THIS SEAT. 10 by the template 'for every input the law returns true; each argument reads behind the call as it read before'; 0 by the template 'total and deterministic' (their statements: YtpeodfiapofagaaTotals.lean).
  GIVEN WITH THE SEED: the statements are not yours to turn. If you find one false, say at which input.
  Laid BY PROGRAM, IN A SANDBOX (cutbox-rows.mjs): the forced cells as the released guide's own fill.sh prints them over the translation 8070d0a1f2bc9066… (all of the seat's roots in one cut). By AI agents, Wed Nov 11 2026. No macro, syntax, notation, axiom, sorry.
-/
import Derived.Test.YtpeodfiapofagaaChecked
import GoSem.Claim
import GoSem.ClaimJoined
import GoSem.ClaimMapViews
import Derived.JoinedTies
import Derived.KernelRfl
namespace Go.Proofs.Ytpeodfiapofagaa
/- THE CELL 'sum', in the pinned program and in every row, IS THE sha256 OF THE DUMP (.gsa) THAT YtpeodfiapofagaaProg.lean LOADS. Nothing in Lean hashes anything: it is a label: what it is worth is what the hold of that sum in a sandbox is worth. -/
noncomputable def Try.pinned : Pinned := { name := "ytpeodfiapofagaa", sum := "8070d0a1f2bc9066984c23ce87f4972b98c32280f56c92b539987cc2f31545bc", checked := Try.checked }
namespace Rows
def none {H : Type} : Left H := { results := [], args := [] }

/-- 'laws.FnExactIdentityTableau': WHATEVER THE INPUT: true; the input reads as it did. -/
def fnExactIdentityTableauSpec : ChangeSpec := { name := "fnExactIdentityTableau", fn := fun _ => fun
  | [d] => { results := [.lit (.bool true)], args := [d] }
  | _ => none }
def fnExactIdentityTableauRow : OpenClaim := { program := "ytpeodfiapofagaa", sum := "8070d0a1f2bc9066984c23ce87f4972b98c32280f56c92b539987cc2f31545bc", func := "loop.example/g00864/laws.FnExactIdentityTableau", spec := "fnExactIdentityTableau", apart := false }
def FnExactIdentityTableauSaid : Prop := fnExactIdentityTableauRow.holds Try.pinned (OpenSpec.ofChange fnExactIdentityTableauSpec)

/-- ITS FALSE NEIGHBOUR: 'it returns false'. Refute it at one input. -/
def fnExactIdentityTableauWrong : ChangeSpec := { name := "fnExactIdentityTableau", fn := fun _ => fun
  | [d] => { results := [.lit (.bool false)], args := [d] }
  | _ => none }
def FnExactIdentityTableauWrongFalsely : Prop := fnExactIdentityTableauRow.holds Try.pinned (OpenSpec.ofChange fnExactIdentityTableauWrong)

/-- 'laws.FnExactIsValidTableau': WHATEVER THE INPUT: true; the input reads as it did. -/
def fnExactIsValidTableauSpec : ChangeSpec := { name := "fnExactIsValidTableau", fn := fun _ => fun
  | [d] => { results := [.lit (.bool true)], args := [d] }
  | _ => none }
def fnExactIsValidTableauRow : OpenClaim := { program := "ytpeodfiapofagaa", sum := "8070d0a1f2bc9066984c23ce87f4972b98c32280f56c92b539987cc2f31545bc", func := "loop.example/g00864/laws.FnExactIsValidTableau", spec := "fnExactIsValidTableau", unfollowed := true, recurses := true, apart := false }
def FnExactIsValidTableauSaid : Prop := fnExactIsValidTableauRow.holds Try.pinned (OpenSpec.ofChange fnExactIsValidTableauSpec)

/-- ITS FALSE NEIGHBOUR: 'it returns false'. Refute it at one input. -/
def fnExactIsValidTableauWrong : ChangeSpec := { name := "fnExactIsValidTableau", fn := fun _ => fun
  | [d] => { results := [.lit (.bool false)], args := [d] }
  | _ => none }
def FnExactIsValidTableauWrongFalsely : Prop := fnExactIsValidTableauRow.holds Try.pinned (OpenSpec.ofChange fnExactIsValidTableauWrong)

/-- 'laws.FnExactComposeTableaux': WHATEVER THE INPUT: true; the input reads as it did. -/
def fnExactComposeTableauxSpec : ChangeSpec := { name := "fnExactComposeTableaux", fn := fun _ => fun
  | [d1, d2] => { results := [.lit (.bool true)], args := [d1, d2] }
  | _ => none }
def fnExactComposeTableauxRow : OpenClaim := { program := "ytpeodfiapofagaa", sum := "8070d0a1f2bc9066984c23ce87f4972b98c32280f56c92b539987cc2f31545bc", func := "loop.example/g00864/laws.FnExactComposeTableaux", spec := "fnExactComposeTableaux", unfollowed := true, recurses := true, apart := false }
def FnExactComposeTableauxSaid : Prop := fnExactComposeTableauxRow.holds Try.pinned (OpenSpec.ofChange fnExactComposeTableauxSpec)

/-- ITS FALSE NEIGHBOUR: 'it returns false'. Refute it at one input. -/
def fnExactComposeTableauxWrong : ChangeSpec := { name := "fnExactComposeTableaux", fn := fun _ => fun
  | [d1, d2] => { results := [.lit (.bool false)], args := [d1, d2] }
  | _ => none }
def FnExactComposeTableauxWrongFalsely : Prop := fnExactComposeTableauxRow.holds Try.pinned (OpenSpec.ofChange fnExactComposeTableauxWrong)

/-- 'laws.FnExactInvertTableau': WHATEVER THE INPUT: true; the input reads as it did. -/
def fnExactInvertTableauSpec : ChangeSpec := { name := "fnExactInvertTableau", fn := fun _ => fun
  | [d] => { results := [.lit (.bool true)], args := [d] }
  | _ => none }
def fnExactInvertTableauRow : OpenClaim := { program := "ytpeodfiapofagaa", sum := "8070d0a1f2bc9066984c23ce87f4972b98c32280f56c92b539987cc2f31545bc", func := "loop.example/g00864/laws.FnExactInvertTableau", spec := "fnExactInvertTableau", unfollowed := true, recurses := true, apart := false }
def FnExactInvertTableauSaid : Prop := fnExactInvertTableauRow.holds Try.pinned (OpenSpec.ofChange fnExactInvertTableauSpec)

/-- ITS FALSE NEIGHBOUR: 'it returns false'. Refute it at one input. -/
def fnExactInvertTableauWrong : ChangeSpec := { name := "fnExactInvertTableau", fn := fun _ => fun
  | [d] => { results := [.lit (.bool false)], args := [d] }
  | _ => none }
def FnExactInvertTableauWrongFalsely : Prop := fnExactInvertTableauRow.holds Try.pinned (OpenSpec.ofChange fnExactInvertTableauWrong)

/-- 'laws.FnExactTableauOf': WHATEVER THE INPUT: true; the input reads as it did. -/
def fnExactTableauOfSpec : ChangeSpec := { name := "fnExactTableauOf", fn := fun _ => fun
  | [d] => { results := [.lit (.bool true)], args := [d] }
  | _ => none }
def fnExactTableauOfRow : OpenClaim := { program := "ytpeodfiapofagaa", sum := "8070d0a1f2bc9066984c23ce87f4972b98c32280f56c92b539987cc2f31545bc", func := "loop.example/g00864/laws.FnExactTableauOf", spec := "fnExactTableauOf", unfollowed := true, recurses := true, apart := false }
def FnExactTableauOfSaid : Prop := fnExactTableauOfRow.holds Try.pinned (OpenSpec.ofChange fnExactTableauOfSpec)

/-- ITS FALSE NEIGHBOUR: 'it returns false'. Refute it at one input. -/
def fnExactTableauOfWrong : ChangeSpec := { name := "fnExactTableauOf", fn := fun _ => fun
  | [d] => { results := [.lit (.bool false)], args := [d] }
  | _ => none }
def FnExactTableauOfWrongFalsely : Prop := fnExactTableauOfRow.holds Try.pinned (OpenSpec.ofChange fnExactTableauOfWrong)

/-- 'laws.FnExactImageOf': WHATEVER THE INPUT: true; the input reads as it did. -/
def fnExactImageOfSpec : ChangeSpec := { name := "fnExactImageOf", fn := fun _ => fun
  | [d1, d2] => { results := [.lit (.bool true)], args := [d1, d2] }
  | _ => none }
def fnExactImageOfRow : OpenClaim := { program := "ytpeodfiapofagaa", sum := "8070d0a1f2bc9066984c23ce87f4972b98c32280f56c92b539987cc2f31545bc", func := "loop.example/g00864/laws.FnExactImageOf", spec := "fnExactImageOf", unfollowed := true, recurses := true, apart := false }
def FnExactImageOfSaid : Prop := fnExactImageOfRow.holds Try.pinned (OpenSpec.ofChange fnExactImageOfSpec)

/-- ITS FALSE NEIGHBOUR: 'it returns false'. Refute it at one input. -/
def fnExactImageOfWrong : ChangeSpec := { name := "fnExactImageOf", fn := fun _ => fun
  | [d1, d2] => { results := [.lit (.bool false)], args := [d1, d2] }
  | _ => none }
def FnExactImageOfWrongFalsely : Prop := fnExactImageOfRow.holds Try.pinned (OpenSpec.ofChange fnExactImageOfWrong)

/-- 'laws.FnExactSignOnly': WHATEVER THE INPUT: true; the input reads as it did. -/
def fnExactSignOnlySpec : ChangeSpec := { name := "fnExactSignOnly", fn := fun _ => fun
  | [d] => { results := [.lit (.bool true)], args := [d] }
  | _ => none }
def fnExactSignOnlyRow : OpenClaim := { program := "ytpeodfiapofagaa", sum := "8070d0a1f2bc9066984c23ce87f4972b98c32280f56c92b539987cc2f31545bc", func := "loop.example/g00864/laws.FnExactSignOnly", spec := "fnExactSignOnly", unfollowed := true, recurses := true, apart := false }
def FnExactSignOnlySaid : Prop := fnExactSignOnlyRow.holds Try.pinned (OpenSpec.ofChange fnExactSignOnlySpec)

/-- ITS FALSE NEIGHBOUR: 'it returns false'. Refute it at one input. -/
def fnExactSignOnlyWrong : ChangeSpec := { name := "fnExactSignOnly", fn := fun _ => fun
  | [d] => { results := [.lit (.bool false)], args := [d] }
  | _ => none }
def FnExactSignOnlyWrongFalsely : Prop := fnExactSignOnlyRow.holds Try.pinned (OpenSpec.ofChange fnExactSignOnlyWrong)

/-- 'laws.FnExactPauliFrameOf': WHATEVER THE INPUT: true; the input reads as it did. -/
def fnExactPauliFrameOfSpec : ChangeSpec := { name := "fnExactPauliFrameOf", fn := fun _ => fun
  | [d] => { results := [.lit (.bool true)], args := [d] }
  | _ => none }
def fnExactPauliFrameOfRow : OpenClaim := { program := "ytpeodfiapofagaa", sum := "8070d0a1f2bc9066984c23ce87f4972b98c32280f56c92b539987cc2f31545bc", func := "loop.example/g00864/laws.FnExactPauliFrameOf", spec := "fnExactPauliFrameOf", unfollowed := true, recurses := true, apart := false }
def FnExactPauliFrameOfSaid : Prop := fnExactPauliFrameOfRow.holds Try.pinned (OpenSpec.ofChange fnExactPauliFrameOfSpec)

/-- ITS FALSE NEIGHBOUR: 'it returns false'. Refute it at one input. -/
def fnExactPauliFrameOfWrong : ChangeSpec := { name := "fnExactPauliFrameOf", fn := fun _ => fun
  | [d] => { results := [.lit (.bool false)], args := [d] }
  | _ => none }
def FnExactPauliFrameOfWrongFalsely : Prop := fnExactPauliFrameOfRow.holds Try.pinned (OpenSpec.ofChange fnExactPauliFrameOfWrong)

/-- 'laws.FnExactOrderOf': WHATEVER THE INPUT: true; the input reads as it did. -/
def fnExactOrderOfSpec : ChangeSpec := { name := "fnExactOrderOf", fn := fun _ => fun
  | [d] => { results := [.lit (.bool true)], args := [d] }
  | _ => none }
def fnExactOrderOfRow : OpenClaim := { program := "ytpeodfiapofagaa", sum := "8070d0a1f2bc9066984c23ce87f4972b98c32280f56c92b539987cc2f31545bc", func := "loop.example/g00864/laws.FnExactOrderOf", spec := "fnExactOrderOf", unfollowed := true, recurses := true, apart := false }
def FnExactOrderOfSaid : Prop := fnExactOrderOfRow.holds Try.pinned (OpenSpec.ofChange fnExactOrderOfSpec)

/-- ITS FALSE NEIGHBOUR: 'it returns false'. Refute it at one input. -/
def fnExactOrderOfWrong : ChangeSpec := { name := "fnExactOrderOf", fn := fun _ => fun
  | [d] => { results := [.lit (.bool false)], args := [d] }
  | _ => none }
def FnExactOrderOfWrongFalsely : Prop := fnExactOrderOfRow.holds Try.pinned (OpenSpec.ofChange fnExactOrderOfWrong)

/-- 'laws.FnExactSameClifford': WHATEVER THE INPUT: true; the input reads as it did. -/
def fnExactSameCliffordSpec : ChangeSpec := { name := "fnExactSameClifford", fn := fun _ => fun
  | [d1, d2] => { results := [.lit (.bool true)], args := [d1, d2] }
  | _ => none }
def fnExactSameCliffordRow : OpenClaim := { program := "ytpeodfiapofagaa", sum := "8070d0a1f2bc9066984c23ce87f4972b98c32280f56c92b539987cc2f31545bc", func := "loop.example/g00864/laws.FnExactSameClifford", spec := "fnExactSameClifford", unfollowed := true, recurses := true, apart := false }
def FnExactSameCliffordSaid : Prop := fnExactSameCliffordRow.holds Try.pinned (OpenSpec.ofChange fnExactSameCliffordSpec)

/-- ITS FALSE NEIGHBOUR: 'it returns false'. Refute it at one input. -/
def fnExactSameCliffordWrong : ChangeSpec := { name := "fnExactSameClifford", fn := fun _ => fun
  | [d1, d2] => { results := [.lit (.bool false)], args := [d1, d2] }
  | _ => none }
def FnExactSameCliffordWrongFalsely : Prop := fnExactSameCliffordRow.holds Try.pinned (OpenSpec.ofChange fnExactSameCliffordWrong)

/- THE SECOND FORM. 'bulk': how many values and letters a reading holds, each counted each time it is reached (what is shared counts as often as it is met; a slice's spare places count too). A statement '..UptoSaid' is the law's where the arguments, and the package variables that the reading takes, are together of bulk at most 1048576: NARROWER than '..Said'. Prove '..Said' where nothing that the law and all that it calls make is longer than what came in: it says more and counts as full. Else prove '..UptoSaid'. A law counts once. -/
mutual
def uptoBulk {H : Type} : DataW H → Nat
  | .lit (.string bytes) => bytes.length + 1
  | .lit _ => 1
  | .nil => 1
  | .ptr d => uptoBulk d + 1
  | .slice elems spare => uptoBulkAll elems + uptoBulkAll spare + 1
  | .agg parts => uptoBulkAll parts + 1
  | .iface _ d => uptoBulk d + 1
  | .map entries => uptoBulkEntries entries + 1
  | .held _ => 1
def uptoBulkAll {H : Type} : List (DataW H) → Nat
  | [] => 0
  | d :: r => uptoBulk d + uptoBulkAll r
def uptoBulkEntries {H : Type} : List (Lit × DataW H) → Nat
  | [] => 0
  | x :: r => uptoBulkEntry x + uptoBulkEntries r
def uptoBulkEntry {H : Type} : Lit × DataW H → Nat
  | (.string bytes, d) => bytes.length + uptoBulk d + 1
  | (_, d) => uptoBulk d + 1
 end
def uptoSmall : (H : Type) → List (DataW H) → Bool := fun _ ds => decide (uptoBulkAll ds ≤ 1048576)
def OpenSpec.upto (s : _root_.Go.ChangeSpec) : _root_.Go.OpenSpec := { _root_.Go.OpenSpec.ofChange s with cond := some uptoSmall }

/-- 'laws.FnExactIdentityTableau', WHERE WHAT IT READS IS OF BULK AT MOST 1048576: true; the input reads as it did. -/
def fnExactIdentityTableauUptoRow : OpenClaim := { program := "ytpeodfiapofagaa", sum := "8070d0a1f2bc9066984c23ce87f4972b98c32280f56c92b539987cc2f31545bc", func := "loop.example/g00864/laws.FnExactIdentityTableau", spec := "fnExactIdentityTableau", apart := false, narrowed := true }
def FnExactIdentityTableauUptoSaid : Prop := fnExactIdentityTableauUptoRow.holds Try.pinned (OpenSpec.upto fnExactIdentityTableauSpec)

/-- 'laws.FnExactIsValidTableau', WHERE WHAT IT READS IS OF BULK AT MOST 1048576: true; the input reads as it did. -/
def fnExactIsValidTableauUptoRow : OpenClaim := { program := "ytpeodfiapofagaa", sum := "8070d0a1f2bc9066984c23ce87f4972b98c32280f56c92b539987cc2f31545bc", func := "loop.example/g00864/laws.FnExactIsValidTableau", spec := "fnExactIsValidTableau", unfollowed := true, recurses := true, apart := false, narrowed := true }
def FnExactIsValidTableauUptoSaid : Prop := fnExactIsValidTableauUptoRow.holds Try.pinned (OpenSpec.upto fnExactIsValidTableauSpec)

/-- 'laws.FnExactComposeTableaux', WHERE WHAT IT READS IS OF BULK AT MOST 1048576: true; the input reads as it did. -/
def fnExactComposeTableauxUptoRow : OpenClaim := { program := "ytpeodfiapofagaa", sum := "8070d0a1f2bc9066984c23ce87f4972b98c32280f56c92b539987cc2f31545bc", func := "loop.example/g00864/laws.FnExactComposeTableaux", spec := "fnExactComposeTableaux", unfollowed := true, recurses := true, apart := false, narrowed := true }
def FnExactComposeTableauxUptoSaid : Prop := fnExactComposeTableauxUptoRow.holds Try.pinned (OpenSpec.upto fnExactComposeTableauxSpec)

/-- 'laws.FnExactInvertTableau', WHERE WHAT IT READS IS OF BULK AT MOST 1048576: true; the input reads as it did. -/
def fnExactInvertTableauUptoRow : OpenClaim := { program := "ytpeodfiapofagaa", sum := "8070d0a1f2bc9066984c23ce87f4972b98c32280f56c92b539987cc2f31545bc", func := "loop.example/g00864/laws.FnExactInvertTableau", spec := "fnExactInvertTableau", unfollowed := true, recurses := true, apart := false, narrowed := true }
def FnExactInvertTableauUptoSaid : Prop := fnExactInvertTableauUptoRow.holds Try.pinned (OpenSpec.upto fnExactInvertTableauSpec)

/-- 'laws.FnExactTableauOf', WHERE WHAT IT READS IS OF BULK AT MOST 1048576: true; the input reads as it did. -/
def fnExactTableauOfUptoRow : OpenClaim := { program := "ytpeodfiapofagaa", sum := "8070d0a1f2bc9066984c23ce87f4972b98c32280f56c92b539987cc2f31545bc", func := "loop.example/g00864/laws.FnExactTableauOf", spec := "fnExactTableauOf", unfollowed := true, recurses := true, apart := false, narrowed := true }
def FnExactTableauOfUptoSaid : Prop := fnExactTableauOfUptoRow.holds Try.pinned (OpenSpec.upto fnExactTableauOfSpec)

/-- 'laws.FnExactImageOf', WHERE WHAT IT READS IS OF BULK AT MOST 1048576: true; the input reads as it did. -/
def fnExactImageOfUptoRow : OpenClaim := { program := "ytpeodfiapofagaa", sum := "8070d0a1f2bc9066984c23ce87f4972b98c32280f56c92b539987cc2f31545bc", func := "loop.example/g00864/laws.FnExactImageOf", spec := "fnExactImageOf", unfollowed := true, recurses := true, apart := false, narrowed := true }
def FnExactImageOfUptoSaid : Prop := fnExactImageOfUptoRow.holds Try.pinned (OpenSpec.upto fnExactImageOfSpec)

/-- 'laws.FnExactSignOnly', WHERE WHAT IT READS IS OF BULK AT MOST 1048576: true; the input reads as it did. -/
def fnExactSignOnlyUptoRow : OpenClaim := { program := "ytpeodfiapofagaa", sum := "8070d0a1f2bc9066984c23ce87f4972b98c32280f56c92b539987cc2f31545bc", func := "loop.example/g00864/laws.FnExactSignOnly", spec := "fnExactSignOnly", unfollowed := true, recurses := true, apart := false, narrowed := true }
def FnExactSignOnlyUptoSaid : Prop := fnExactSignOnlyUptoRow.holds Try.pinned (OpenSpec.upto fnExactSignOnlySpec)

/-- 'laws.FnExactPauliFrameOf', WHERE WHAT IT READS IS OF BULK AT MOST 1048576: true; the input reads as it did. -/
def fnExactPauliFrameOfUptoRow : OpenClaim := { program := "ytpeodfiapofagaa", sum := "8070d0a1f2bc9066984c23ce87f4972b98c32280f56c92b539987cc2f31545bc", func := "loop.example/g00864/laws.FnExactPauliFrameOf", spec := "fnExactPauliFrameOf", unfollowed := true, recurses := true, apart := false, narrowed := true }
def FnExactPauliFrameOfUptoSaid : Prop := fnExactPauliFrameOfUptoRow.holds Try.pinned (OpenSpec.upto fnExactPauliFrameOfSpec)

/-- 'laws.FnExactOrderOf', WHERE WHAT IT READS IS OF BULK AT MOST 1048576: true; the input reads as it did. -/
def fnExactOrderOfUptoRow : OpenClaim := { program := "ytpeodfiapofagaa", sum := "8070d0a1f2bc9066984c23ce87f4972b98c32280f56c92b539987cc2f31545bc", func := "loop.example/g00864/laws.FnExactOrderOf", spec := "fnExactOrderOf", unfollowed := true, recurses := true, apart := false, narrowed := true }
def FnExactOrderOfUptoSaid : Prop := fnExactOrderOfUptoRow.holds Try.pinned (OpenSpec.upto fnExactOrderOfSpec)

/-- 'laws.FnExactSameClifford', WHERE WHAT IT READS IS OF BULK AT MOST 1048576: true; the input reads as it did. -/
def fnExactSameCliffordUptoRow : OpenClaim := { program := "ytpeodfiapofagaa", sum := "8070d0a1f2bc9066984c23ce87f4972b98c32280f56c92b539987cc2f31545bc", func := "loop.example/g00864/laws.FnExactSameClifford", spec := "fnExactSameClifford", unfollowed := true, recurses := true, apart := false, narrowed := true }
def FnExactSameCliffordUptoSaid : Prop := fnExactSameCliffordUptoRow.holds Try.pinned (OpenSpec.upto fnExactSameCliffordSpec)

end Rows
end Go.Proofs.Ytpeodfiapofagaa
