/-
  No cell of these rows narrows 'for every input' (looked for: loops, veiled, ifaces, maps, wideKeys, modest, calm, conditions, laid).
  DERIVED. THE GIVEN ROWS OF THIS SEAT. 12 by the template 'for every input the law returns true; each argument reads behind the call as it read before'; 0 by the template 'total and deterministic' (their statements: YtdgghpbcinmbhaaTotals.lean).
  GIVEN WITH THE SEED: the statements are not yours to turn. If you find one false, say at which input.
  Laid BY PROGRAM, IN A SANDBOX (cutbox-rows.mjs): the forced cells as the released guide's own fill.sh prints them over the translation 7a0fa37129d1809b… (all of the seat's roots in one cut). By AI agents, Wed Nov 11 2026. No macro, syntax, notation, axiom, sorry.
-/
import Derived.Test.YtdgghpbcinmbhaaChecked
import GoSem.Claim
import GoSem.ClaimJoined
import GoSem.ClaimMapViews
import Derived.JoinedTies
import Derived.KernelRfl
namespace Go.Proofs.Ytdgghpbcinmbhaa
/- THE CELL 'sum', in the pinned program and in every row, IS THE sha256 OF THE DUMP (.gsa) THAT YtdgghpbcinmbhaaProg.lean LOADS. Nothing in Lean hashes anything: it is a label: what it is worth is what the hold of that sum in a sandbox is worth. -/
noncomputable def Try.pinned : Pinned := { name := "ytdgghpbcinmbhaa", sum := "7a0fa37129d1809b9a88fbd03e4185ced78bebe0daf30992dcb73bd30b3ef8bd", checked := Try.checked }
namespace Rows
def none {H : Type} : Left H := { results := [], args := [] }

/-- 'laws.FnExactRankOf': WHATEVER THE INPUT: true; the input reads as it did. -/
def fnExactRankOfSpec : ChangeSpec := { name := "fnExactRankOf", fn := fun _ => fun
  | [d] => { results := [.lit (.bool true)], args := [d] }
  | _ => none }
def fnExactRankOfRow : OpenClaim := { program := "ytdgghpbcinmbhaa", sum := "7a0fa37129d1809b9a88fbd03e4185ced78bebe0daf30992dcb73bd30b3ef8bd", func := "loop.example/g00864/laws.FnExactRankOf", spec := "fnExactRankOf", unfollowed := true, recurses := true, apart := false }
def FnExactRankOfSaid : Prop := fnExactRankOfRow.holds Try.pinned (OpenSpec.ofChange fnExactRankOfSpec)

/-- ITS FALSE NEIGHBOUR: 'it returns false'. Refute it at one input. -/
def fnExactRankOfWrong : ChangeSpec := { name := "fnExactRankOf", fn := fun _ => fun
  | [d] => { results := [.lit (.bool false)], args := [d] }
  | _ => none }
def FnExactRankOfWrongFalsely : Prop := fnExactRankOfRow.holds Try.pinned (OpenSpec.ofChange fnExactRankOfWrong)

/-- 'laws.FnExactIsValidLinear': WHATEVER THE INPUT: true; the input reads as it did. -/
def fnExactIsValidLinearSpec : ChangeSpec := { name := "fnExactIsValidLinear", fn := fun _ => fun
  | [d] => { results := [.lit (.bool true)], args := [d] }
  | _ => none }
def fnExactIsValidLinearRow : OpenClaim := { program := "ytdgghpbcinmbhaa", sum := "7a0fa37129d1809b9a88fbd03e4185ced78bebe0daf30992dcb73bd30b3ef8bd", func := "loop.example/g00864/laws.FnExactIsValidLinear", spec := "fnExactIsValidLinear", unfollowed := true, recurses := true, apart := false }
def FnExactIsValidLinearSaid : Prop := fnExactIsValidLinearRow.holds Try.pinned (OpenSpec.ofChange fnExactIsValidLinearSpec)

/-- ITS FALSE NEIGHBOUR: 'it returns false'. Refute it at one input. -/
def fnExactIsValidLinearWrong : ChangeSpec := { name := "fnExactIsValidLinear", fn := fun _ => fun
  | [d] => { results := [.lit (.bool false)], args := [d] }
  | _ => none }
def FnExactIsValidLinearWrongFalsely : Prop := fnExactIsValidLinearRow.holds Try.pinned (OpenSpec.ofChange fnExactIsValidLinearWrong)

/-- 'laws.FnExactAppendCX': WHATEVER THE INPUT: true; the input reads as it did. -/
def fnExactAppendCXSpec : ChangeSpec := { name := "fnExactAppendCX", fn := fun _ => fun
  | [d1, d2, d3] => { results := [.lit (.bool true)], args := [d1, d2, d3] }
  | _ => none }
def fnExactAppendCXRow : OpenClaim := { program := "ytdgghpbcinmbhaa", sum := "7a0fa37129d1809b9a88fbd03e4185ced78bebe0daf30992dcb73bd30b3ef8bd", func := "loop.example/g00864/laws.FnExactAppendCX", spec := "fnExactAppendCX", unfollowed := true, recurses := true, apart := false }
def FnExactAppendCXSaid : Prop := fnExactAppendCXRow.holds Try.pinned (OpenSpec.ofChange fnExactAppendCXSpec)

/-- ITS FALSE NEIGHBOUR: 'it returns false'. Refute it at one input. -/
def fnExactAppendCXWrong : ChangeSpec := { name := "fnExactAppendCX", fn := fun _ => fun
  | [d1, d2, d3] => { results := [.lit (.bool false)], args := [d1, d2, d3] }
  | _ => none }
def FnExactAppendCXWrongFalsely : Prop := fnExactAppendCXRow.holds Try.pinned (OpenSpec.ofChange fnExactAppendCXWrong)

/-- 'laws.FnExactComposeLinear': WHATEVER THE INPUT: true; the input reads as it did. -/
def fnExactComposeLinearSpec : ChangeSpec := { name := "fnExactComposeLinear", fn := fun _ => fun
  | [d1, d2] => { results := [.lit (.bool true)], args := [d1, d2] }
  | _ => none }
def fnExactComposeLinearRow : OpenClaim := { program := "ytdgghpbcinmbhaa", sum := "7a0fa37129d1809b9a88fbd03e4185ced78bebe0daf30992dcb73bd30b3ef8bd", func := "loop.example/g00864/laws.FnExactComposeLinear", spec := "fnExactComposeLinear", unfollowed := true, recurses := true, apart := false }
def FnExactComposeLinearSaid : Prop := fnExactComposeLinearRow.holds Try.pinned (OpenSpec.ofChange fnExactComposeLinearSpec)

/-- ITS FALSE NEIGHBOUR: 'it returns false'. Refute it at one input. -/
def fnExactComposeLinearWrong : ChangeSpec := { name := "fnExactComposeLinear", fn := fun _ => fun
  | [d1, d2] => { results := [.lit (.bool false)], args := [d1, d2] }
  | _ => none }
def FnExactComposeLinearWrongFalsely : Prop := fnExactComposeLinearRow.holds Try.pinned (OpenSpec.ofChange fnExactComposeLinearWrong)

/-- 'laws.FnExactLinearOf': WHATEVER THE INPUT: true; the input reads as it did. -/
def fnExactLinearOfSpec : ChangeSpec := { name := "fnExactLinearOf", fn := fun _ => fun
  | [d] => { results := [.lit (.bool true)], args := [d] }
  | _ => none }
def fnExactLinearOfRow : OpenClaim := { program := "ytdgghpbcinmbhaa", sum := "7a0fa37129d1809b9a88fbd03e4185ced78bebe0daf30992dcb73bd30b3ef8bd", func := "loop.example/g00864/laws.FnExactLinearOf", spec := "fnExactLinearOf", unfollowed := true, recurses := true, apart := false }
def FnExactLinearOfSaid : Prop := fnExactLinearOfRow.holds Try.pinned (OpenSpec.ofChange fnExactLinearOfSpec)

/-- ITS FALSE NEIGHBOUR: 'it returns false'. Refute it at one input. -/
def fnExactLinearOfWrong : ChangeSpec := { name := "fnExactLinearOf", fn := fun _ => fun
  | [d] => { results := [.lit (.bool false)], args := [d] }
  | _ => none }
def FnExactLinearOfWrongFalsely : Prop := fnExactLinearOfRow.holds Try.pinned (OpenSpec.ofChange fnExactLinearOfWrong)

/-- 'laws.FnExactInvertLinear': WHATEVER THE INPUT: true; the input reads as it did. -/
def fnExactInvertLinearSpec : ChangeSpec := { name := "fnExactInvertLinear", fn := fun _ => fun
  | [d] => { results := [.lit (.bool true)], args := [d] }
  | _ => none }
def fnExactInvertLinearRow : OpenClaim := { program := "ytdgghpbcinmbhaa", sum := "7a0fa37129d1809b9a88fbd03e4185ced78bebe0daf30992dcb73bd30b3ef8bd", func := "loop.example/g00864/laws.FnExactInvertLinear", spec := "fnExactInvertLinear", unfollowed := true, recurses := true, apart := false }
def FnExactInvertLinearSaid : Prop := fnExactInvertLinearRow.holds Try.pinned (OpenSpec.ofChange fnExactInvertLinearSpec)

/-- ITS FALSE NEIGHBOUR: 'it returns false'. Refute it at one input. -/
def fnExactInvertLinearWrong : ChangeSpec := { name := "fnExactInvertLinear", fn := fun _ => fun
  | [d] => { results := [.lit (.bool false)], args := [d] }
  | _ => none }
def FnExactInvertLinearWrongFalsely : Prop := fnExactInvertLinearRow.holds Try.pinned (OpenSpec.ofChange fnExactInvertLinearWrong)

/-- 'laws.FnExactSynthesizeLinear': WHATEVER THE INPUT: true; the input reads as it did. -/
def fnExactSynthesizeLinearSpec : ChangeSpec := { name := "fnExactSynthesizeLinear", fn := fun _ => fun
  | [d] => { results := [.lit (.bool true)], args := [d] }
  | _ => none }
def fnExactSynthesizeLinearRow : OpenClaim := { program := "ytdgghpbcinmbhaa", sum := "7a0fa37129d1809b9a88fbd03e4185ced78bebe0daf30992dcb73bd30b3ef8bd", func := "loop.example/g00864/laws.FnExactSynthesizeLinear", spec := "fnExactSynthesizeLinear", unfollowed := true, recurses := true, apart := false }
def FnExactSynthesizeLinearSaid : Prop := fnExactSynthesizeLinearRow.holds Try.pinned (OpenSpec.ofChange fnExactSynthesizeLinearSpec)

/-- ITS FALSE NEIGHBOUR: 'it returns false'. Refute it at one input. -/
def fnExactSynthesizeLinearWrong : ChangeSpec := { name := "fnExactSynthesizeLinear", fn := fun _ => fun
  | [d] => { results := [.lit (.bool false)], args := [d] }
  | _ => none }
def FnExactSynthesizeLinearWrongFalsely : Prop := fnExactSynthesizeLinearRow.holds Try.pinned (OpenSpec.ofChange fnExactSynthesizeLinearWrong)

/-- 'laws.FnExactParitiesOf': WHATEVER THE INPUT: true; the input reads as it did. -/
def fnExactParitiesOfSpec : ChangeSpec := { name := "fnExactParitiesOf", fn := fun _ => fun
  | [d] => { results := [.lit (.bool true)], args := [d] }
  | _ => none }
def fnExactParitiesOfRow : OpenClaim := { program := "ytdgghpbcinmbhaa", sum := "7a0fa37129d1809b9a88fbd03e4185ced78bebe0daf30992dcb73bd30b3ef8bd", func := "loop.example/g00864/laws.FnExactParitiesOf", spec := "fnExactParitiesOf", unfollowed := true, recurses := true, apart := false }
def FnExactParitiesOfSaid : Prop := fnExactParitiesOfRow.holds Try.pinned (OpenSpec.ofChange fnExactParitiesOfSpec)

/-- ITS FALSE NEIGHBOUR: 'it returns false'. Refute it at one input. -/
def fnExactParitiesOfWrong : ChangeSpec := { name := "fnExactParitiesOf", fn := fun _ => fun
  | [d] => { results := [.lit (.bool false)], args := [d] }
  | _ => none }
def FnExactParitiesOfWrongFalsely : Prop := fnExactParitiesOfRow.holds Try.pinned (OpenSpec.ofChange fnExactParitiesOfWrong)

/-- 'laws.FnExactIsParityNetwork': WHATEVER THE INPUT: true; the input reads as it did. -/
def fnExactIsParityNetworkSpec : ChangeSpec := { name := "fnExactIsParityNetwork", fn := fun _ => fun
  | [d1, d2] => { results := [.lit (.bool true)], args := [d1, d2] }
  | _ => none }
def fnExactIsParityNetworkRow : OpenClaim := { program := "ytdgghpbcinmbhaa", sum := "7a0fa37129d1809b9a88fbd03e4185ced78bebe0daf30992dcb73bd30b3ef8bd", func := "loop.example/g00864/laws.FnExactIsParityNetwork", spec := "fnExactIsParityNetwork", unfollowed := true, recurses := true, apart := false }
def FnExactIsParityNetworkSaid : Prop := fnExactIsParityNetworkRow.holds Try.pinned (OpenSpec.ofChange fnExactIsParityNetworkSpec)

/-- ITS FALSE NEIGHBOUR: 'it returns false'. Refute it at one input. -/
def fnExactIsParityNetworkWrong : ChangeSpec := { name := "fnExactIsParityNetwork", fn := fun _ => fun
  | [d1, d2] => { results := [.lit (.bool false)], args := [d1, d2] }
  | _ => none }
def FnExactIsParityNetworkWrongFalsely : Prop := fnExactIsParityNetworkRow.holds Try.pinned (OpenSpec.ofChange fnExactIsParityNetworkWrong)

/-- 'laws.FnExactGrayNetwork': WHATEVER THE INPUT: true; the input reads as it did. -/
def fnExactGrayNetworkSpec : ChangeSpec := { name := "fnExactGrayNetwork", fn := fun _ => fun
  | [d1, d2] => { results := [.lit (.bool true)], args := [d1, d2] }
  | _ => none }
def fnExactGrayNetworkRow : OpenClaim := { program := "ytdgghpbcinmbhaa", sum := "7a0fa37129d1809b9a88fbd03e4185ced78bebe0daf30992dcb73bd30b3ef8bd", func := "loop.example/g00864/laws.FnExactGrayNetwork", spec := "fnExactGrayNetwork", unfollowed := true, recurses := true, apart := false }
def FnExactGrayNetworkSaid : Prop := fnExactGrayNetworkRow.holds Try.pinned (OpenSpec.ofChange fnExactGrayNetworkSpec)

/-- ITS FALSE NEIGHBOUR: 'it returns false'. Refute it at one input. -/
def fnExactGrayNetworkWrong : ChangeSpec := { name := "fnExactGrayNetwork", fn := fun _ => fun
  | [d1, d2] => { results := [.lit (.bool false)], args := [d1, d2] }
  | _ => none }
def FnExactGrayNetworkWrongFalsely : Prop := fnExactGrayNetworkRow.holds Try.pinned (OpenSpec.ofChange fnExactGrayNetworkWrong)

/-- 'laws.FnExactPlaceRotations': WHATEVER THE INPUT: true; the input reads as it did. -/
def fnExactPlaceRotationsSpec : ChangeSpec := { name := "fnExactPlaceRotations", fn := fun _ => fun
  | [d1, d2] => { results := [.lit (.bool true)], args := [d1, d2] }
  | _ => none }
def fnExactPlaceRotationsRow : OpenClaim := { program := "ytdgghpbcinmbhaa", sum := "7a0fa37129d1809b9a88fbd03e4185ced78bebe0daf30992dcb73bd30b3ef8bd", func := "loop.example/g00864/laws.FnExactPlaceRotations", spec := "fnExactPlaceRotations", unfollowed := true, recurses := true, apart := false }
def FnExactPlaceRotationsSaid : Prop := fnExactPlaceRotationsRow.holds Try.pinned (OpenSpec.ofChange fnExactPlaceRotationsSpec)

/-- ITS FALSE NEIGHBOUR: 'it returns false'. Refute it at one input. -/
def fnExactPlaceRotationsWrong : ChangeSpec := { name := "fnExactPlaceRotations", fn := fun _ => fun
  | [d1, d2] => { results := [.lit (.bool false)], args := [d1, d2] }
  | _ => none }
def FnExactPlaceRotationsWrongFalsely : Prop := fnExactPlaceRotationsRow.holds Try.pinned (OpenSpec.ofChange fnExactPlaceRotationsWrong)

/-- 'laws.FnExactIsValidPhasePoly': WHATEVER THE INPUT: true; the input reads as it did. -/
def fnExactIsValidPhasePolySpec : ChangeSpec := { name := "fnExactIsValidPhasePoly", fn := fun _ => fun
  | [d] => { results := [.lit (.bool true)], args := [d] }
  | _ => none }
def fnExactIsValidPhasePolyRow : OpenClaim := { program := "ytdgghpbcinmbhaa", sum := "7a0fa37129d1809b9a88fbd03e4185ced78bebe0daf30992dcb73bd30b3ef8bd", func := "loop.example/g00864/laws.FnExactIsValidPhasePoly", spec := "fnExactIsValidPhasePoly", unfollowed := true, recurses := true, apart := false }
def FnExactIsValidPhasePolySaid : Prop := fnExactIsValidPhasePolyRow.holds Try.pinned (OpenSpec.ofChange fnExactIsValidPhasePolySpec)

/-- ITS FALSE NEIGHBOUR: 'it returns false'. Refute it at one input. -/
def fnExactIsValidPhasePolyWrong : ChangeSpec := { name := "fnExactIsValidPhasePoly", fn := fun _ => fun
  | [d] => { results := [.lit (.bool false)], args := [d] }
  | _ => none }
def FnExactIsValidPhasePolyWrongFalsely : Prop := fnExactIsValidPhasePolyRow.holds Try.pinned (OpenSpec.ofChange fnExactIsValidPhasePolyWrong)

/- THE SECOND FORM. 'bulk': how many values and letters a reading holds, each counted each time it is reached (what is shared counts as often as it is met; a slice's spare places count too). A statement '..UptoSaid' is the law's where the arguments, and the package variables that the reading takes, are together of bulk at most 1048576: NARROWER than '..Said'. Prove '..Said' where nothing that the law and all that it calls make is longer than what came in: it says more and counts as full. Else prove '..UptoSaid'. A law counts once. -/
mutual
def uptoBulk {H : Type} : DataW H → Nat
  | .lit (.string bytes) => bytes.length + 1
  | .lit _ => 1
  | .nil => 1
  | .ptr d => uptoBulk d + 1
  | .slice elems spare => uptoBulkAll elems + uptoBulkAll spare + 1
  | .agg parts => uptoBulkAll parts + 1
  | .iface _ d => uptoBulk d + 1
  | .map entries => uptoBulkEntries entries + 1
  | .held _ => 1
def uptoBulkAll {H : Type} : List (DataW H) → Nat
  | [] => 0
  | d :: r => uptoBulk d + uptoBulkAll r
def uptoBulkEntries {H : Type} : List (Lit × DataW H) → Nat
  | [] => 0
  | x :: r => uptoBulkEntry x + uptoBulkEntries r
def uptoBulkEntry {H : Type} : Lit × DataW H → Nat
  | (.string bytes, d) => bytes.length + uptoBulk d + 1
  | (_, d) => uptoBulk d + 1
 end
def uptoSmall : (H : Type) → List (DataW H) → Bool := fun _ ds => decide (uptoBulkAll ds ≤ 1048576)
def OpenSpec.upto (s : _root_.Go.ChangeSpec) : _root_.Go.OpenSpec := { _root_.Go.OpenSpec.ofChange s with cond := some uptoSmall }

/-- 'laws.FnExactRankOf', WHERE WHAT IT READS IS OF BULK AT MOST 1048576: true; the input reads as it did. -/
def fnExactRankOfUptoRow : OpenClaim := { program := "ytdgghpbcinmbhaa", sum := "7a0fa37129d1809b9a88fbd03e4185ced78bebe0daf30992dcb73bd30b3ef8bd", func := "loop.example/g00864/laws.FnExactRankOf", spec := "fnExactRankOf", unfollowed := true, recurses := true, apart := false, narrowed := true }
def FnExactRankOfUptoSaid : Prop := fnExactRankOfUptoRow.holds Try.pinned (OpenSpec.upto fnExactRankOfSpec)

/-- 'laws.FnExactIsValidLinear', WHERE WHAT IT READS IS OF BULK AT MOST 1048576: true; the input reads as it did. -/
def fnExactIsValidLinearUptoRow : OpenClaim := { program := "ytdgghpbcinmbhaa", sum := "7a0fa37129d1809b9a88fbd03e4185ced78bebe0daf30992dcb73bd30b3ef8bd", func := "loop.example/g00864/laws.FnExactIsValidLinear", spec := "fnExactIsValidLinear", unfollowed := true, recurses := true, apart := false, narrowed := true }
def FnExactIsValidLinearUptoSaid : Prop := fnExactIsValidLinearUptoRow.holds Try.pinned (OpenSpec.upto fnExactIsValidLinearSpec)

/-- 'laws.FnExactAppendCX', WHERE WHAT IT READS IS OF BULK AT MOST 1048576: true; the input reads as it did. -/
def fnExactAppendCXUptoRow : OpenClaim := { program := "ytdgghpbcinmbhaa", sum := "7a0fa37129d1809b9a88fbd03e4185ced78bebe0daf30992dcb73bd30b3ef8bd", func := "loop.example/g00864/laws.FnExactAppendCX", spec := "fnExactAppendCX", unfollowed := true, recurses := true, apart := false, narrowed := true }
def FnExactAppendCXUptoSaid : Prop := fnExactAppendCXUptoRow.holds Try.pinned (OpenSpec.upto fnExactAppendCXSpec)

/-- 'laws.FnExactComposeLinear', WHERE WHAT IT READS IS OF BULK AT MOST 1048576: true; the input reads as it did. -/
def fnExactComposeLinearUptoRow : OpenClaim := { program := "ytdgghpbcinmbhaa", sum := "7a0fa37129d1809b9a88fbd03e4185ced78bebe0daf30992dcb73bd30b3ef8bd", func := "loop.example/g00864/laws.FnExactComposeLinear", spec := "fnExactComposeLinear", unfollowed := true, recurses := true, apart := false, narrowed := true }
def FnExactComposeLinearUptoSaid : Prop := fnExactComposeLinearUptoRow.holds Try.pinned (OpenSpec.upto fnExactComposeLinearSpec)

/-- 'laws.FnExactLinearOf', WHERE WHAT IT READS IS OF BULK AT MOST 1048576: true; the input reads as it did. -/
def fnExactLinearOfUptoRow : OpenClaim := { program := "ytdgghpbcinmbhaa", sum := "7a0fa37129d1809b9a88fbd03e4185ced78bebe0daf30992dcb73bd30b3ef8bd", func := "loop.example/g00864/laws.FnExactLinearOf", spec := "fnExactLinearOf", unfollowed := true, recurses := true, apart := false, narrowed := true }
def FnExactLinearOfUptoSaid : Prop := fnExactLinearOfUptoRow.holds Try.pinned (OpenSpec.upto fnExactLinearOfSpec)

/-- 'laws.FnExactInvertLinear', WHERE WHAT IT READS IS OF BULK AT MOST 1048576: true; the input reads as it did. -/
def fnExactInvertLinearUptoRow : OpenClaim := { program := "ytdgghpbcinmbhaa", sum := "7a0fa37129d1809b9a88fbd03e4185ced78bebe0daf30992dcb73bd30b3ef8bd", func := "loop.example/g00864/laws.FnExactInvertLinear", spec := "fnExactInvertLinear", unfollowed := true, recurses := true, apart := false, narrowed := true }
def FnExactInvertLinearUptoSaid : Prop := fnExactInvertLinearUptoRow.holds Try.pinned (OpenSpec.upto fnExactInvertLinearSpec)

/-- 'laws.FnExactSynthesizeLinear', WHERE WHAT IT READS IS OF BULK AT MOST 1048576: true; the input reads as it did. -/
def fnExactSynthesizeLinearUptoRow : OpenClaim := { program := "ytdgghpbcinmbhaa", sum := "7a0fa37129d1809b9a88fbd03e4185ced78bebe0daf30992dcb73bd30b3ef8bd", func := "loop.example/g00864/laws.FnExactSynthesizeLinear", spec := "fnExactSynthesizeLinear", unfollowed := true, recurses := true, apart := false, narrowed := true }
def FnExactSynthesizeLinearUptoSaid : Prop := fnExactSynthesizeLinearUptoRow.holds Try.pinned (OpenSpec.upto fnExactSynthesizeLinearSpec)

/-- 'laws.FnExactParitiesOf', WHERE WHAT IT READS IS OF BULK AT MOST 1048576: true; the input reads as it did. -/
def fnExactParitiesOfUptoRow : OpenClaim := { program := "ytdgghpbcinmbhaa", sum := "7a0fa37129d1809b9a88fbd03e4185ced78bebe0daf30992dcb73bd30b3ef8bd", func := "loop.example/g00864/laws.FnExactParitiesOf", spec := "fnExactParitiesOf", unfollowed := true, recurses := true, apart := false, narrowed := true }
def FnExactParitiesOfUptoSaid : Prop := fnExactParitiesOfUptoRow.holds Try.pinned (OpenSpec.upto fnExactParitiesOfSpec)

/-- 'laws.FnExactIsParityNetwork', WHERE WHAT IT READS IS OF BULK AT MOST 1048576: true; the input reads as it did. -/
def fnExactIsParityNetworkUptoRow : OpenClaim := { program := "ytdgghpbcinmbhaa", sum := "7a0fa37129d1809b9a88fbd03e4185ced78bebe0daf30992dcb73bd30b3ef8bd", func := "loop.example/g00864/laws.FnExactIsParityNetwork", spec := "fnExactIsParityNetwork", unfollowed := true, recurses := true, apart := false, narrowed := true }
def FnExactIsParityNetworkUptoSaid : Prop := fnExactIsParityNetworkUptoRow.holds Try.pinned (OpenSpec.upto fnExactIsParityNetworkSpec)

/-- 'laws.FnExactGrayNetwork', WHERE WHAT IT READS IS OF BULK AT MOST 1048576: true; the input reads as it did. -/
def fnExactGrayNetworkUptoRow : OpenClaim := { program := "ytdgghpbcinmbhaa", sum := "7a0fa37129d1809b9a88fbd03e4185ced78bebe0daf30992dcb73bd30b3ef8bd", func := "loop.example/g00864/laws.FnExactGrayNetwork", spec := "fnExactGrayNetwork", unfollowed := true, recurses := true, apart := false, narrowed := true }
def FnExactGrayNetworkUptoSaid : Prop := fnExactGrayNetworkUptoRow.holds Try.pinned (OpenSpec.upto fnExactGrayNetworkSpec)

/-- 'laws.FnExactPlaceRotations', WHERE WHAT IT READS IS OF BULK AT MOST 1048576: true; the input reads as it did. -/
def fnExactPlaceRotationsUptoRow : OpenClaim := { program := "ytdgghpbcinmbhaa", sum := "7a0fa37129d1809b9a88fbd03e4185ced78bebe0daf30992dcb73bd30b3ef8bd", func := "loop.example/g00864/laws.FnExactPlaceRotations", spec := "fnExactPlaceRotations", unfollowed := true, recurses := true, apart := false, narrowed := true }
def FnExactPlaceRotationsUptoSaid : Prop := fnExactPlaceRotationsUptoRow.holds Try.pinned (OpenSpec.upto fnExactPlaceRotationsSpec)

/-- 'laws.FnExactIsValidPhasePoly', WHERE WHAT IT READS IS OF BULK AT MOST 1048576: true; the input reads as it did. -/
def fnExactIsValidPhasePolyUptoRow : OpenClaim := { program := "ytdgghpbcinmbhaa", sum := "7a0fa37129d1809b9a88fbd03e4185ced78bebe0daf30992dcb73bd30b3ef8bd", func := "loop.example/g00864/laws.FnExactIsValidPhasePoly", spec := "fnExactIsValidPhasePoly", unfollowed := true, recurses := true, apart := false, narrowed := true }
def FnExactIsValidPhasePolyUptoSaid : Prop := fnExactIsValidPhasePolyUptoRow.holds Try.pinned (OpenSpec.upto fnExactIsValidPhasePolySpec)

end Rows
end Go.Proofs.Ytdgghpbcinmbhaa
