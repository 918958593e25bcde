/- The statement FnExactParseFormCardSaid: for every text, where the library's tables and errors read as its text lays them, the law returns true and leaves what it was given as it was. -/
import Derived.Test.YtindldkileidmaaDoorWParseForm
import Derived.Test.YtindldkileidmaaDoorBaseS
import Derived.Test.YtindldkileidmaaDoorPf13
import Derived.Test.YtindldkileidmaaDoorCards
import Derived.Test.YtindldkileidmaaDoorTie
import Derived.SevenTiedAt
import Derived.MakeChecks
import Derived.ChangeMaps5
import Derived.LaidMore
import Derived.Lay
import Derived.ProofKit
import Derived.OpenShut
namespace Go.Proofs.YtindldkileidmaaDoor.lawParseForm
set_option linter.unusedSimpArgs false
set_option linter.unusedVariables false
set_option linter.unnecessarySimpa false
set_option maxRecDepth 200000
open Go.ChangeShapes Go.WideShapes Go.ChangeAt Go.RowKit

theorem laid_plain (w : World) (h : laidMetH Tryd.prog Rows.fnExactParseFormRow.laid w) : laidMet Tryd.prog Rows.fnExactParseFormRow.laid w := by
  rw [← MakeChecks.laidMetH_plain Tryd.prog Rows.fnExactParseFormRow.laid w (by kernel_rfl)]; exact h
set_option maxRecDepth 100000 in
theorem lifted (os : Os) (started : os.Started) (H : Type) (enc : TypeId × Value → H) :
    ReturnsInHanded {} Tryd.checked os 4 .any (fun w args => (Rows.fnExactParseFormSpec.pre enc Tryd.prog Tryd.f4 Rows.fnExactParseFormRow.domain false w args ∧ laidMetH Tryd.prog Rows.fnExactParseFormRow.laid w) ∧ sizedMet enc Tryd.prog Tryd.f4 (OpenSpec.ofChange Rows.fnExactParseFormSpec) false w args) (Rows.fnExactParseFormSpec.post enc Tryd.prog Tryd.f4 false true false false) := by
  refine law_lifted_shaped (C := Tryd.checked) (X := fun w _ => laidMetH Tryd.prog Rows.fnExactParseFormRow.laid w) (fun _ _ _ hh h => h.of_heap hh) own started (by kernel_rfl) Tryd.func4 rfl laidOut (of_decide_eq_true (by kernel_rfl)) rfl Tryd.underlying4
      (fun ds hds => by match ds, hds with | [_], _ => rfl)
      (ChangeSpec.witness_shaped (enc := enc) (C := Tryd.checked) (os := os) (X := fun w _ => laidMetH Tryd.prog Rows.fnExactParseFormRow.laid w) false (World.laidAll Tryd.prog os Rows.fnExactParseFormRow.laid) #[.string ⟨#[]⟩] 8 (World.laidAll_os _ _ _)
        (World.shaped_of_ZipB (by kernel_rfl) (by kernel_rfl)) (by kernel_rfl) (by kernel_rfl) (by kernel_rfl)
        (by rw [MakeChecks.laidMetH_plain _ _ _ (by kernel_rfl)]; exact laidMet_laidAll _ (by kernel_rfl) (by kernel_rfl))) ?_
  intro W base args ds p hval0 hA0 hXX hsh
  have hval : ∀ (j : Nat) t v, Tryd.f4.params[j]? = some t → args[j]? = some v → Value.okWide Tryd.prog W .any base t v := hval0
  have hA : DataW.TrodAll enc Tryd.prog W 0 (fun _ => true) true Tryd.f4.params.toList args.toList ds p := hA0
  rw [Tryd.params4] at hA hval
  clear hval0 hA0
  obtain ⟨v0, vs0, d0, ds0, p0, q0, hargs, rfl, rfl, h0, r0⟩ := trodAll_cons hA
  obtain ⟨rfl, rfl, rfl⟩ := trodAll_nil r0
  obtain rfl : args = #[v0] := by cases args; simp_all
  obtain ⟨line, rfl, rfl, rfl, ws⟩ := Go.ChangeMaps.open_string Tryd.underlying9 (hval 0 9 v0 rfl rfl) h0
  exact walk_FnExactParseForm line W ws (maxL_of hsh) (strc_of (laid_plain W hXX))

theorem bare : Rows.FnExactParseFormSaid :=
  OpenClaim.holds_of_wide 4 Tryd.f4 rfl rfl rfl rfl rfl rfl rfl ⟨rfl, rfl, rfl, rfl, rfl⟩ rfl rfl rfl rfl rfl (by kernel_rfl) Tryd.func4 (by kernel_rfl)
    (of_decide_eq_true (by kernel_rfl)) (by unfold Func.isWrapper; first | (rw [if_pos (by decide +kernel)]; kernel_rfl) | (rw [if_neg (by decide +kernel)]; exact ⟨rfl, rfl⟩))
    (fun os started H enc _ => lifted os started H enc)
theorem proved : Rows.FnExactParseFormCardSaid :=
  Claim7.holds_tied_plain_at .later [] [.data, .data, .data, .data, .sentinel, .sentinel, .pinned] true (true, "de03c9b47c583106ba3560930028b3f9d2ada0419cd7fbd3b9435d4c62122e7d") true
    bare (fun _ h => by cases h) (by kernel_rfl) (fun _ h => by cases h) fnExactParseForm_row_tie rfl ⟨rfl, rfl⟩ (by kernel_rfl) rfl
    (fun f fn hf hfn => by
      obtain rfl : f = 4 := Option.some.inj ((show Tryd.prog.funcNamed "loop.example/g00864/laws.FnExactParseForm" = some 4 by kernel_rfl).symm.trans hf) |>.symm
      obtain rfl : fn = Tryd.f4 := (Option.some.inj (Tryd.func4.symm.trans hfn)).symm
      exact ⟨by kernel_rfl, fun j t ht => by
        rw [Tryd.params4] at ht
        have hm : t ∈ [9] := by simpa using Array.mem_of_getElem? ht
        have hall : ([9].all fun u => !Tryd.prog.wantsStandIn u) = true := by kernel_rfl
        exact (show Tryd.prog.wantsStandIn t = false by simpa using List.all_eq_true.1 hall t hm)⟩)
    (by kernel_rfl)
#print axioms proved
end Go.Proofs.YtindldkileidmaaDoor.lawParseForm
