/- The statement FnExactFormatLogCardSaid: for every log, where the program's tables read as its text lays them, the law returns true and leaves what it was given as it was. -/
import Derived.Test.YtgonldkgghikiaaDoorWFormatLog
import Derived.Test.YtgonldkgghikiaaDoorBaseV
import Derived.Test.YtgonldkgghikiaaDoorCards
import Derived.Test.YtgonldkgghikiaaDoorTie
import Derived.SevenTiedAt
import Derived.MakeChecks
import Derived.OpenShut
import Derived.Lib.LaidU8
namespace Go.Proofs.YtgonldkgghikiaaDoor.lawFormatLog
set_option linter.unusedSimpArgs false
set_option linter.unusedVariables false
set_option linter.unnecessarySimpa false
set_option maxRecDepth 200000
open Go.ChangeShapes Go.WideShapes Go.ChangeAt Go.RowKit

theorem laid_plain (w : World) (h : laidMetH Tryd.prog Rows.fnExactFormatLogRow.laid w) : laidMet Tryd.prog Rows.fnExactFormatLogRow.laid w := by
  rw [← MakeChecks.laidMetH_plain Tryd.prog Rows.fnExactFormatLogRow.laid w (by kernel_rfl)]; exact h
theorem word_list : ∀ k : Nat, 1 ≤ k → k ≤ 5 → (wordOf k).data.toList = ([[], [102, 117, 115, 101], [105, 100], [108, 99], [112, 105, 118, 111, 116], [108, 111, 110, 101, 108, 121]] : List (List UInt8)).getD k []
  | 1, _, _ => rfl
  | 2, _, _ => rfl
  | 3, _, _ => rfl
  | 4, _, _ => rfl
  | 5, _, _ => rfl
  | 0, h, _ => by omega
  | k + 6, _, h => by omega
theorem table_of_laid {W : World} (h : laidMetH Tryd.prog Rows.fnExactFormatLogRow.laid W) : Table W := by
  have hm : ("loop.example/g00864/impl.ruleWords", (Rows.laid_loop_example_g00864_impl_ruleWords : DataW Unit)) ∈ Rows.fnExactFormatLogRow.laid :=
    List.mem_cons_of_mem _ (List.mem_cons_of_mem _ (List.mem_cons_of_mem _ List.mem_cons_self))
  obtain ⟨g, t, cs, fuel, p, hg, ht, hv, htr⟩ := Lib.laidMet.reads (laid_plain W h) hm
  obtain rfl : g = 0 := Option.some.inj (hg.symm.trans (show Tryd.prog.globalNamed "loop.example/g00864/impl.ruleWords" = some 0 by kernel_rfl))
  obtain rfl : t = 49 := Option.some.inj (ht.symm.trans (show (Tryd.prog.globals[0]?).map (·.type) = some 49 by kernel_rfl))
  obtain ⟨ys, m, rfl, hx, hl, hyl, hall⟩ := DataW.trod_array Tryd.underlying49 htr
  have hce : Tryd.prog.cellsOf 9 = 1 := by kernel_rfl
  have hct : Tryd.prog.cellsOf 49 = 6 := by kernel_rfl
  have hys : ys.map (·.1) = [.lit (.string []), .lit (.string [102, 117, 115, 101]), .lit (.string [105, 100]), .lit (.string [108, 99]), .lit (.string [112, 105, 118, 111, 116]), .lit (.string [108, 111, 110, 101, 108, 121])] := by
    have := congrArg Prod.fst hx
    injection this with this
    exact this.symm
  have hb : ∃ tt fr, W.heap[0]? = some (.cells cs tt fr) := by
    unfold World.var? at hv
    rw [show Tryd.prog.globalNamed "loop.example/g00864/impl.ruleWords" = some 0 by kernel_rfl] at hv
    simp only [Option.bind_some] at hv
    split at hv
    · rename_i c tt fr hh
      injection hv with hv; subst hv
      exact ⟨tt, fr, hh⟩
    · cases hv
  obtain ⟨tt, fr, hb⟩ := hb
  intro k h1 h5
  rw [cell_of_row W 0 k cs tt fr hb]
  have hk := hall k (by omega)
  rw [hce] at hk
  obtain ⟨y, hy⟩ : ∃ y, ys[k]? = some y := ⟨ys[k]'(by omega), List.getElem?_eq_getElem (by omega)⟩
  rw [hy] at hk
  obtain ⟨s, hs, hys2, _⟩ := DataW.trod_string Tryd.underlying9 hk
  have hc : cs.toList[k]? = some (.string s) := by
    have := congrArg (·[0]?) hs
    simpa [List.getElem?_take, List.getElem?_drop] using this
  have hd : (ys.map (·.1))[k]? = some (.lit (.string s.data.toList)) := by rw [List.getElem?_map, hy, hys2]; rfl
  rw [hys] at hd
  have hw : s = wordOf k := by
    apply ByteArray.ext
    apply Array.ext'
    rw [word_list k h1 h5]
    have : k = 1 ∨ k = 2 ∨ k = 3 ∨ k = 4 ∨ k = 5 := by omega
    rcases this with rfl | rfl | rfl | rfl | rfl <;> (simp at hd; simp [hd])
  rw [← hw]
  simpa using hc
theorem door_met (os : Os) (args : Array Value) : laidMetH Tryd.prog Rows.fnExactFormatLogRow.laid ((World.doorLaid Tryd.prog 400 os).forCall (fun _ _ => 0) ⟨#[], args, []⟩).memory :=
  laidMetH_of_parts3 (fuel := 70) (laidMet_of_run' 70 (by kernel_rfl) (by kernel_rfl)) (by kernel_rfl) (by kernel_rfl)
set_option maxRecDepth 100000 in
theorem lifted (os : Os) (started : os.Started) (H : Type) (enc : TypeId × Value → H) :
    ReturnsInHanded {} Tryd.checked os 4 .any (fun w args => (Rows.fnExactFormatLogSpec.pre enc Tryd.prog Tryd.f4 Rows.fnExactFormatLogRow.domain false w args ∧ laidMetH Tryd.prog Rows.fnExactFormatLogRow.laid w) ∧ sizedMet enc Tryd.prog Tryd.f4 (OpenSpec.ofChange Rows.fnExactFormatLogSpec) false w args) (Rows.fnExactFormatLogSpec.post enc Tryd.prog Tryd.f4 false true false false) := by
  refine law_lifted_var (C := Tryd.checked) (X := fun w _ => laidMetH Tryd.prog Rows.fnExactFormatLogRow.laid w) (fun _ _ _ hh h => h.of_heap hh) own started (by kernel_rfl) Tryd.func4 rfl (by kernel_rfl) laidOut (of_decide_eq_true (by kernel_rfl)) rfl Tryd.underlying4
      (fun ds g hds => by match ds, hds with | [_], _ => rfl)
      (ChangeSpec.witness_shaped (enc := enc) (C := Tryd.checked) (os := os) (X := fun w _ => laidMetH Tryd.prog Rows.fnExactFormatLogRow.laid w) false (World.doorLaid Tryd.prog 400 os) #[.slice none 0 0] 8 rfl (World.shaped_of_RefB (by kernel_rfl) (by kernel_rfl)) (by kernel_rfl) (by kernel_rfl) (by kernel_rfl) (door_met os _)) ?_
  intro W base args ds p hval0 hA0 hXX
  have hval : ∀ (j : Nat) t v, Tryd.f4.params[j]? = some t → args[j]? = some v → Value.okWide Tryd.prog W .any base t v := hval0
  have hA : DataW.TrodAll enc Tryd.prog W 0 (fun _ => true) true Tryd.f4.params.toList args.toList ds p := hA0
  rw [Tryd.params4] at hA hval
  clear hval0 hA0
  obtain ⟨v0, vs0, d0, ds0, p0, q0, hargs, rfl, rfl, h0, r0⟩ := trodAll_cons hA
  obtain ⟨rfl, rfl, rfl⟩ := trodAll_nil r0
  obtain rfl : args = #[v0] := by cases args; simp_all
  exact walk_FnExactFormatLog v0 W (isRewriteS_of (hval 0 30 v0 rfl rfl) h0) (table_of_laid hXX)

theorem bare : Rows.FnExactFormatLogSaid :=
  OpenClaim.holds_of_wide 4 Tryd.f4 rfl rfl rfl rfl rfl rfl rfl ⟨rfl, rfl, rfl, rfl, rfl⟩ rfl rfl rfl rfl rfl (by kernel_rfl) Tryd.func4 (by kernel_rfl)
    (of_decide_eq_true (by kernel_rfl)) (by unfold Func.isWrapper; first | (rw [if_pos (by decide +kernel)]; kernel_rfl) | (rw [if_neg (by decide +kernel)]; exact ⟨rfl, rfl⟩))
    (fun os started H enc _ => lifted os started H enc)
theorem proved : Rows.FnExactFormatLogCardSaid :=
  Claim7.holds_tied_plain_at .later [] [.data, .data, .data, .widerDeep] true (true, "a4a2fd31e10335cc6f457471c1766460d172c8548318d3ea446b0efad24819f6") false
    bare (fun _ h => by cases h) (by kernel_rfl) (fun _ h => by cases h) fnExactFormatLog_row_tie rfl ⟨rfl, rfl⟩ (by kernel_rfl) rfl
    (fun f fn hf hfn => by
      obtain rfl : f = 4 := Option.some.inj ((show Tryd.prog.funcNamed "loop.example/g00864/laws.FnExactFormatLog" = some 4 by kernel_rfl).symm.trans hf) |>.symm
      obtain rfl : fn = Tryd.f4 := (Option.some.inj (Tryd.func4.symm.trans hfn)).symm
      exact ⟨by kernel_rfl, fun j t ht => by
        rw [Tryd.params4] at ht
        have hm : t ∈ [30] := by simpa using Array.mem_of_getElem? ht
        have hall : ([30].all fun u => !Tryd.prog.wantsStandIn u) = true := by kernel_rfl
        exact (show Tryd.prog.wantsStandIn t = false by simpa using List.all_eq_true.1 hall t hm)⟩)
    (by kernel_rfl)
#print axioms proved
end Go.Proofs.YtgonldkgghikiaaDoor.lawFormatLog
