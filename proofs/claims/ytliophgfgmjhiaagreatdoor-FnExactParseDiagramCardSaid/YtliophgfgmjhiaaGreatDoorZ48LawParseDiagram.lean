/- The statement FnExactParseDiagramCardSaid: for every text, where the library's tables and errors read as its text lays them, the law returns true and leaves what it was given as it was. -/
import Derived.Test.YtliophgfgmjhiaaGreatDoorZ45WParseDiagram
import Derived.Test.YtliophgfgmjhiaaGreatDoorZ46BaseS
import Derived.Test.YtliophgfgmjhiaaGreatDoorZ47Zye
import Derived.Test.YtliophgfgmjhiaaGreatDoorCards
import Derived.Test.YtliophgfgmjhiaaGreatDoorTie
import Derived.SevenTiedAt
import Derived.MakeChecks
import Derived.ChangeMaps5
import Derived.LaidMore
import Derived.Lay
import Derived.ProofKit
import Derived.OpenShut
namespace Go.Proofs.YtliophgfgmjhiaaGreatDoor.lawParseDiagram
set_option linter.unusedSimpArgs false
set_option linter.unusedVariables false
set_option linter.unnecessarySimpa false
set_option maxRecDepth 200000
open Go.ChangeShapes Go.WideShapes Go.ChangeAt Go.RowKit

theorem laid_plain (w : World) (h : laidMetH Tryz.prog Rows.fnExactParseDiagramRow.laid w) : laidMet Tryz.prog Rows.fnExactParseDiagramRow.laid w := by
  rw [← MakeChecks.laidMetH_plain Tryz.prog Rows.fnExactParseDiagramRow.laid w (by kernel_rfl)]; exact h
set_option maxRecDepth 100000 in
theorem lifted (os : Os) (started : os.Started) (H : Type) (enc : TypeId × Value → H) :
    ReturnsInHanded {} Tryz.checked os 3 .any (fun w args => (Rows.fnExactParseDiagramSpec.pre enc Tryz.prog Tryz.f3 Rows.fnExactParseDiagramRow.domain false w args ∧ laidMetH Tryz.prog Rows.fnExactParseDiagramRow.laid w) ∧ sizedMet enc Tryz.prog Tryz.f3 (OpenSpec.ofChange Rows.fnExactParseDiagramSpec) false w args) (Rows.fnExactParseDiagramSpec.post enc Tryz.prog Tryz.f3 false true false false) := by
  refine law_lifted_shaped (C := Tryz.checked) (X := fun w _ => laidMetH Tryz.prog Rows.fnExactParseDiagramRow.laid w) (fun _ _ _ hh h => h.of_heap hh) own started (by kernel_rfl) Tryz.func3 rfl laidOut (of_decide_eq_true (by kernel_rfl)) rfl Tryz.underlying4
      (fun ds hds => by match ds, hds with | [_], _ => rfl)
      (ChangeSpec.witness_shaped (enc := enc) (C := Tryz.checked) (os := os) (X := fun w _ => laidMetH Tryz.prog Rows.fnExactParseDiagramRow.laid w) false (World.laidAll Tryz.prog os Rows.fnExactParseDiagramRow.laid) #[.string ⟨#[]⟩] 8 (World.laidAll_os _ _ _)
        (World.shaped_of_ZipB (by kernel_rfl) (by kernel_rfl)) (by kernel_rfl) (by kernel_rfl) (by kernel_rfl)
        (by rw [MakeChecks.laidMetH_plain _ _ _ (by kernel_rfl)]; exact laidMet_laidAll _ (by kernel_rfl) (by kernel_rfl))) ?_
  intro W base args ds p hval0 hA0 hXX hsh
  have hval : ∀ (j : Nat) t v, Tryz.f3.params[j]? = some t → args[j]? = some v → Value.okWide Tryz.prog W .any base t v := hval0
  have hA : DataW.TrodAll enc Tryz.prog W 0 (fun _ => true) true Tryz.f3.params.toList args.toList ds p := hA0
  rw [Tryz.params3] at hA hval
  clear hval0 hA0
  obtain ⟨v0, vs0, d0, ds0, p0, q0, hargs, rfl, rfl, h0, r0⟩ := trodAll_cons hA
  obtain ⟨rfl, rfl, rfl⟩ := trodAll_nil r0
  obtain rfl : args = #[v0] := by cases args; simp_all
  obtain ⟨line, rfl, rfl, rfl, ws⟩ := Go.ChangeMaps.open_string Tryz.underlying9 (hval 0 9 v0 rfl rfl) h0
  exact walk_FnExactParseDiagram line W (maxZ_of hsh) (strc_ofZ (laid_plain W hXX))

theorem bare : Rows.FnExactParseDiagramSaid :=
  OpenClaim.holds_of_wide 3 Tryz.f3 rfl rfl rfl rfl rfl rfl rfl ⟨rfl, rfl, rfl, rfl, rfl⟩ rfl rfl rfl rfl rfl (by kernel_rfl) Tryz.func3 (by kernel_rfl)
    (of_decide_eq_true (by kernel_rfl)) (by unfold Func.isWrapper; first | (rw [if_pos (by decide +kernel)]; kernel_rfl) | (rw [if_neg (by decide +kernel)]; exact ⟨rfl, rfl⟩))
    (fun os started H enc _ => lifted os started H enc)
theorem proved : Rows.FnExactParseDiagramCardSaid :=
  Claim7.holds_tied_plain_at .later [] [.data, .data, .data, .data, .sentinel, .sentinel, .pinned] true (true, "cba8f0fbe06e50fce22e6cfdcd641daae07e6c3c96e0a2e536e7543061d455a2") true
    bare (fun _ h => by cases h) (by kernel_rfl) (fun _ h => by cases h) fnExactParseDiagram_row_tie rfl ⟨rfl, rfl⟩ (by kernel_rfl) rfl
    (fun f fn hf hfn => by
      obtain rfl : f = 3 := Option.some.inj ((show Tryz.prog.funcNamed "loop.example/g00864/laws.FnExactParseDiagram" = some 3 by kernel_rfl).symm.trans hf) |>.symm
      obtain rfl : fn = Tryz.f3 := (Option.some.inj (Tryz.func3.symm.trans hfn)).symm
      exact ⟨by kernel_rfl, fun j t ht => by
        rw [Tryz.params3] at ht
        have hm : t ∈ [9] := by simpa using Array.mem_of_getElem? ht
        have hall : ([9].all fun u => !Tryz.prog.wantsStandIn u) = true := by kernel_rfl
        exact (show Tryz.prog.wantsStandIn t = false by simpa using List.all_eq_true.1 hall t hm)⟩)
    (by kernel_rfl)
#print axioms proved
end Go.Proofs.YtliophgfgmjhiaaGreatDoor.lawParseDiagram
