/-
  No cell of these rows narrows 'for every input' (looked for: loops, veiled, ifaces, maps, wideKeys, modest, calm, conditions, laid).
  DERIVED. THE GIVEN ROWS OF THIS SEAT. 7 by the template 'for every input the law returns true; each argument reads behind the call as it read before'; 0 by the template 'total and deterministic' (their statements: YtekljechannabaaTotals.lean).
  GIVEN WITH THE SEED: the statements are not yours to turn. If you find one false, say at which input.
  Laid BY PROGRAM, IN A SANDBOX (cutbox-rows.mjs): the forced cells as the released guide's own fill.sh prints them over the translation 783aeab10e999600… (all of the seat's roots in one cut). By AI agents, Wed Nov 11 2026. No macro, syntax, notation, axiom, sorry.
-/
import Derived.Test.YtekljechannabaaChecked
import GoSem.Claim
import GoSem.ClaimJoined
import GoSem.ClaimMapViews
import Derived.JoinedTies
import Derived.KernelRfl
namespace Go.Proofs.Ytekljechannabaa
/- THE CELL 'sum', in the pinned program and in every row, IS THE sha256 OF THE DUMP (.gsa) THAT YtekljechannabaaProg.lean LOADS. Nothing in Lean hashes anything: it is a label: what it is worth is what the hold of that sum in a sandbox is worth. -/
noncomputable def Try.pinned : Pinned := { name := "ytekljechannabaa", sum := "783aeab10e9996002b81fc073cb25fba12c27304f9ac5f73e6c56cbd066d22e3", checked := Try.checked }
namespace Rows
def none {H : Type} : Left H := { results := [], args := [] }

/-- 'laws.FnExactCountForms': WHATEVER THE INPUT: true; the input reads as it did. -/
def fnExactCountFormsSpec : ChangeSpec := { name := "fnExactCountForms", fn := fun _ => fun
  | [d] => { results := [.lit (.bool true)], args := [d] }
  | _ => none }
def fnExactCountFormsRow : OpenClaim := { program := "ytekljechannabaa", sum := "783aeab10e9996002b81fc073cb25fba12c27304f9ac5f73e6c56cbd066d22e3", func := "loop.example/g00864/laws.FnExactCountForms", spec := "fnExactCountForms", apart := false }
def FnExactCountFormsSaid : Prop := fnExactCountFormsRow.holds Try.pinned (OpenSpec.ofChange fnExactCountFormsSpec)

/-- ITS FALSE NEIGHBOUR: 'it returns false'. Refute it at one input. -/
def fnExactCountFormsWrong : ChangeSpec := { name := "fnExactCountForms", fn := fun _ => fun
  | [d] => { results := [.lit (.bool false)], args := [d] }
  | _ => none }
def FnExactCountFormsWrongFalsely : Prop := fnExactCountFormsRow.holds Try.pinned (OpenSpec.ofChange fnExactCountFormsWrong)

/-- 'laws.FnExactIsValidForm': WHATEVER THE INPUT: true; the input reads as it did. -/
def fnExactIsValidFormSpec : ChangeSpec := { name := "fnExactIsValidForm", fn := fun _ => fun
  | [d] => { results := [.lit (.bool true)], args := [d] }
  | _ => none }
def fnExactIsValidFormRow : OpenClaim := { program := "ytekljechannabaa", sum := "783aeab10e9996002b81fc073cb25fba12c27304f9ac5f73e6c56cbd066d22e3", func := "loop.example/g00864/laws.FnExactIsValidForm", spec := "fnExactIsValidForm", apart := false }
def FnExactIsValidFormSaid : Prop := fnExactIsValidFormRow.holds Try.pinned (OpenSpec.ofChange fnExactIsValidFormSpec)

/-- ITS FALSE NEIGHBOUR: 'it returns false'. Refute it at one input. -/
def fnExactIsValidFormWrong : ChangeSpec := { name := "fnExactIsValidForm", fn := fun _ => fun
  | [d] => { results := [.lit (.bool false)], args := [d] }
  | _ => none }
def FnExactIsValidFormWrongFalsely : Prop := fnExactIsValidFormRow.holds Try.pinned (OpenSpec.ofChange fnExactIsValidFormWrong)

/-- 'laws.FnExactIsValidTwoLevel': WHATEVER THE INPUT: true; the input reads as it did. -/
def fnExactIsValidTwoLevelSpec : ChangeSpec := { name := "fnExactIsValidTwoLevel", fn := fun _ => fun
  | [d1, d2] => { results := [.lit (.bool true)], args := [d1, d2] }
  | _ => none }
def fnExactIsValidTwoLevelRow : OpenClaim := { program := "ytekljechannabaa", sum := "783aeab10e9996002b81fc073cb25fba12c27304f9ac5f73e6c56cbd066d22e3", func := "loop.example/g00864/laws.FnExactIsValidTwoLevel", spec := "fnExactIsValidTwoLevel", apart := false }
def FnExactIsValidTwoLevelSaid : Prop := fnExactIsValidTwoLevelRow.holds Try.pinned (OpenSpec.ofChange fnExactIsValidTwoLevelSpec)

/-- ITS FALSE NEIGHBOUR: 'it returns false'. Refute it at one input. -/
def fnExactIsValidTwoLevelWrong : ChangeSpec := { name := "fnExactIsValidTwoLevel", fn := fun _ => fun
  | [d1, d2] => { results := [.lit (.bool false)], args := [d1, d2] }
  | _ => none }
def FnExactIsValidTwoLevelWrongFalsely : Prop := fnExactIsValidTwoLevelRow.holds Try.pinned (OpenSpec.ofChange fnExactIsValidTwoLevelWrong)

/-- 'laws.FnExactResidueType': WHATEVER THE INPUT: true; the input reads as it did. -/
def fnExactResidueTypeSpec : ChangeSpec := { name := "fnExactResidueType", fn := fun _ => fun
  | [d] => { results := [.lit (.bool true)], args := [d] }
  | _ => none }
def fnExactResidueTypeRow : OpenClaim := { program := "ytekljechannabaa", sum := "783aeab10e9996002b81fc073cb25fba12c27304f9ac5f73e6c56cbd066d22e3", func := "loop.example/g00864/laws.FnExactResidueType", spec := "fnExactResidueType", apart := false }
def FnExactResidueTypeSaid : Prop := fnExactResidueTypeRow.holds Try.pinned (OpenSpec.ofChange fnExactResidueTypeSpec)

/-- ITS FALSE NEIGHBOUR: 'it returns false'. Refute it at one input. -/
def fnExactResidueTypeWrong : ChangeSpec := { name := "fnExactResidueType", fn := fun _ => fun
  | [d] => { results := [.lit (.bool false)], args := [d] }
  | _ => none }
def FnExactResidueTypeWrongFalsely : Prop := fnExactResidueTypeRow.holds Try.pinned (OpenSpec.ofChange fnExactResidueTypeWrong)

/-- 'laws.FnExactFormAt': WHATEVER THE INPUT: true; the input reads as it did. -/
def fnExactFormAtSpec : ChangeSpec := { name := "fnExactFormAt", fn := fun _ => fun
  | [d1, d2] => { results := [.lit (.bool true)], args := [d1, d2] }
  | _ => none }
def fnExactFormAtRow : OpenClaim := { program := "ytekljechannabaa", sum := "783aeab10e9996002b81fc073cb25fba12c27304f9ac5f73e6c56cbd066d22e3", func := "loop.example/g00864/laws.FnExactFormAt", spec := "fnExactFormAt", apart := false }
def FnExactFormAtSaid : Prop := fnExactFormAtRow.holds Try.pinned (OpenSpec.ofChange fnExactFormAtSpec)

/-- ITS FALSE NEIGHBOUR: 'it returns false'. Refute it at one input. -/
def fnExactFormAtWrong : ChangeSpec := { name := "fnExactFormAt", fn := fun _ => fun
  | [d1, d2] => { results := [.lit (.bool false)], args := [d1, d2] }
  | _ => none }
def FnExactFormAtWrongFalsely : Prop := fnExactFormAtRow.holds Try.pinned (OpenSpec.ofChange fnExactFormAtWrong)

/-- 'laws.FnExactIdentityLinear': WHATEVER THE INPUT: true; the input reads as it did. -/
def fnExactIdentityLinearSpec : ChangeSpec := { name := "fnExactIdentityLinear", fn := fun _ => fun
  | [d] => { results := [.lit (.bool true)], args := [d] }
  | _ => none }
def fnExactIdentityLinearRow : OpenClaim := { program := "ytekljechannabaa", sum := "783aeab10e9996002b81fc073cb25fba12c27304f9ac5f73e6c56cbd066d22e3", func := "loop.example/g00864/laws.FnExactIdentityLinear", spec := "fnExactIdentityLinear", apart := false }
def FnExactIdentityLinearSaid : Prop := fnExactIdentityLinearRow.holds Try.pinned (OpenSpec.ofChange fnExactIdentityLinearSpec)

/-- ITS FALSE NEIGHBOUR: 'it returns false'. Refute it at one input. -/
def fnExactIdentityLinearWrong : ChangeSpec := { name := "fnExactIdentityLinear", fn := fun _ => fun
  | [d] => { results := [.lit (.bool false)], args := [d] }
  | _ => none }
def FnExactIdentityLinearWrongFalsely : Prop := fnExactIdentityLinearRow.holds Try.pinned (OpenSpec.ofChange fnExactIdentityLinearWrong)

/-- 'laws.FnExactRotationGates': WHATEVER THE INPUT: true; the input reads as it did. -/
def fnExactRotationGatesSpec : ChangeSpec := { name := "fnExactRotationGates", fn := fun _ => fun
  | [d1, d2] => { results := [.lit (.bool true)], args := [d1, d2] }
  | _ => none }
def fnExactRotationGatesRow : OpenClaim := { program := "ytekljechannabaa", sum := "783aeab10e9996002b81fc073cb25fba12c27304f9ac5f73e6c56cbd066d22e3", func := "loop.example/g00864/laws.FnExactRotationGates", spec := "fnExactRotationGates", apart := false }
def FnExactRotationGatesSaid : Prop := fnExactRotationGatesRow.holds Try.pinned (OpenSpec.ofChange fnExactRotationGatesSpec)

/-- ITS FALSE NEIGHBOUR: 'it returns false'. Refute it at one input. -/
def fnExactRotationGatesWrong : ChangeSpec := { name := "fnExactRotationGates", fn := fun _ => fun
  | [d1, d2] => { results := [.lit (.bool false)], args := [d1, d2] }
  | _ => none }
def FnExactRotationGatesWrongFalsely : Prop := fnExactRotationGatesRow.holds Try.pinned (OpenSpec.ofChange fnExactRotationGatesWrong)

/- THE SECOND FORM. 'bulk': how many values and letters a reading holds, each counted each time it is reached (what is shared counts as often as it is met; a slice's spare places count too). A statement '..UptoSaid' is the law's where the arguments, and the package variables that the reading takes, are together of bulk at most 1048576: NARROWER than '..Said'. Prove '..Said' where nothing that the law and all that it calls make is longer than what came in: it says more and counts as full. Else prove '..UptoSaid'. A law counts once. -/
mutual
def uptoBulk {H : Type} : DataW H → Nat
  | .lit (.string bytes) => bytes.length + 1
  | .lit _ => 1
  | .nil => 1
  | .ptr d => uptoBulk d + 1
  | .slice elems spare => uptoBulkAll elems + uptoBulkAll spare + 1
  | .agg parts => uptoBulkAll parts + 1
  | .iface _ d => uptoBulk d + 1
  | .map entries => uptoBulkEntries entries + 1
  | .held _ => 1
def uptoBulkAll {H : Type} : List (DataW H) → Nat
  | [] => 0
  | d :: r => uptoBulk d + uptoBulkAll r
def uptoBulkEntries {H : Type} : List (Lit × DataW H) → Nat
  | [] => 0
  | x :: r => uptoBulkEntry x + uptoBulkEntries r
def uptoBulkEntry {H : Type} : Lit × DataW H → Nat
  | (.string bytes, d) => bytes.length + uptoBulk d + 1
  | (_, d) => uptoBulk d + 1
 end
def uptoSmall : (H : Type) → List (DataW H) → Bool := fun _ ds => decide (uptoBulkAll ds ≤ 1048576)
def OpenSpec.upto (s : _root_.Go.ChangeSpec) : _root_.Go.OpenSpec := { _root_.Go.OpenSpec.ofChange s with cond := some uptoSmall }

/-- 'laws.FnExactCountForms', WHERE WHAT IT READS IS OF BULK AT MOST 1048576: true; the input reads as it did. -/
def fnExactCountFormsUptoRow : OpenClaim := { program := "ytekljechannabaa", sum := "783aeab10e9996002b81fc073cb25fba12c27304f9ac5f73e6c56cbd066d22e3", func := "loop.example/g00864/laws.FnExactCountForms", spec := "fnExactCountForms", apart := false, narrowed := true }
def FnExactCountFormsUptoSaid : Prop := fnExactCountFormsUptoRow.holds Try.pinned (OpenSpec.upto fnExactCountFormsSpec)

/-- 'laws.FnExactIsValidForm', WHERE WHAT IT READS IS OF BULK AT MOST 1048576: true; the input reads as it did. -/
def fnExactIsValidFormUptoRow : OpenClaim := { program := "ytekljechannabaa", sum := "783aeab10e9996002b81fc073cb25fba12c27304f9ac5f73e6c56cbd066d22e3", func := "loop.example/g00864/laws.FnExactIsValidForm", spec := "fnExactIsValidForm", apart := false, narrowed := true }
def FnExactIsValidFormUptoSaid : Prop := fnExactIsValidFormUptoRow.holds Try.pinned (OpenSpec.upto fnExactIsValidFormSpec)

/-- 'laws.FnExactIsValidTwoLevel', WHERE WHAT IT READS IS OF BULK AT MOST 1048576: true; the input reads as it did. -/
def fnExactIsValidTwoLevelUptoRow : OpenClaim := { program := "ytekljechannabaa", sum := "783aeab10e9996002b81fc073cb25fba12c27304f9ac5f73e6c56cbd066d22e3", func := "loop.example/g00864/laws.FnExactIsValidTwoLevel", spec := "fnExactIsValidTwoLevel", apart := false, narrowed := true }
def FnExactIsValidTwoLevelUptoSaid : Prop := fnExactIsValidTwoLevelUptoRow.holds Try.pinned (OpenSpec.upto fnExactIsValidTwoLevelSpec)

/-- 'laws.FnExactResidueType', WHERE WHAT IT READS IS OF BULK AT MOST 1048576: true; the input reads as it did. -/
def fnExactResidueTypeUptoRow : OpenClaim := { program := "ytekljechannabaa", sum := "783aeab10e9996002b81fc073cb25fba12c27304f9ac5f73e6c56cbd066d22e3", func := "loop.example/g00864/laws.FnExactResidueType", spec := "fnExactResidueType", apart := false, narrowed := true }
def FnExactResidueTypeUptoSaid : Prop := fnExactResidueTypeUptoRow.holds Try.pinned (OpenSpec.upto fnExactResidueTypeSpec)

/-- 'laws.FnExactFormAt', WHERE WHAT IT READS IS OF BULK AT MOST 1048576: true; the input reads as it did. -/
def fnExactFormAtUptoRow : OpenClaim := { program := "ytekljechannabaa", sum := "783aeab10e9996002b81fc073cb25fba12c27304f9ac5f73e6c56cbd066d22e3", func := "loop.example/g00864/laws.FnExactFormAt", spec := "fnExactFormAt", apart := false, narrowed := true }
def FnExactFormAtUptoSaid : Prop := fnExactFormAtUptoRow.holds Try.pinned (OpenSpec.upto fnExactFormAtSpec)

/-- 'laws.FnExactIdentityLinear', WHERE WHAT IT READS IS OF BULK AT MOST 1048576: true; the input reads as it did. -/
def fnExactIdentityLinearUptoRow : OpenClaim := { program := "ytekljechannabaa", sum := "783aeab10e9996002b81fc073cb25fba12c27304f9ac5f73e6c56cbd066d22e3", func := "loop.example/g00864/laws.FnExactIdentityLinear", spec := "fnExactIdentityLinear", apart := false, narrowed := true }
def FnExactIdentityLinearUptoSaid : Prop := fnExactIdentityLinearUptoRow.holds Try.pinned (OpenSpec.upto fnExactIdentityLinearSpec)

/-- 'laws.FnExactRotationGates', WHERE WHAT IT READS IS OF BULK AT MOST 1048576: true; the input reads as it did. -/
def fnExactRotationGatesUptoRow : OpenClaim := { program := "ytekljechannabaa", sum := "783aeab10e9996002b81fc073cb25fba12c27304f9ac5f73e6c56cbd066d22e3", func := "loop.example/g00864/laws.FnExactRotationGates", spec := "fnExactRotationGates", apart := false, narrowed := true }
def FnExactRotationGatesUptoSaid : Prop := fnExactRotationGatesUptoRow.holds Try.pinned (OpenSpec.upto fnExactRotationGatesSpec)

end Rows
end Go.Proofs.Ytekljechannabaa
