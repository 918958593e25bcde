/- The statement FnExactParseLogCardSaid: for every text, where the library's and the program's tables and errors read as their text lays them, the law returns true and leaves what it was given as it was. -/
import Derived.Test.YtindldkileidmaaDoorWParseLog
import Derived.Test.YtindldkileidmaaDoorBaseS
import Derived.Test.YtindldkileidmaaDoorPf13
import Derived.Test.YtindldkileidmaaDoorCards
import Derived.Test.YtindldkileidmaaDoorTie
import Derived.SevenTiedAt
import Derived.MakeChecks
import Derived.ChangeMaps5
import Derived.LaidMore
import Derived.Lay
import Derived.ProofKit
import Derived.OpenShut
import Derived.Lib.LaidU8
namespace Go.Proofs.YtindldkileidmaaDoor.lawParseLog
set_option linter.unusedSimpArgs false
set_option linter.unusedVariables false
set_option linter.unnecessarySimpa false
set_option maxRecDepth 200000
open Go.ChangeShapes Go.WideShapes Go.ChangeAt Go.RowKit

theorem laid_plain (w : World) (h : laidMetH Tryd.prog Rows.fnExactParseLogRow.laid w) : laidMet Tryd.prog Rows.fnExactParseLogRow.laid w := by
  rw [← MakeChecks.laidMetH_plain Tryd.prog Rows.fnExactParseLogRow.laid w (by kernel_rfl)]; exact h
theorem word_list : ∀ k : Nat, 1 ≤ k → k ≤ 5 → (wordOf k).data.toList = ([[], [102, 117, 115, 101], [105, 100], [108, 99], [112, 105, 118, 111, 116], [108, 111, 110, 101, 108, 121]] : List (List UInt8)).getD k []
  | 1, _, _ => rfl
  | 2, _, _ => rfl
  | 3, _, _ => rfl
  | 4, _, _ => rfl
  | 5, _, _ => rfl
  | 0, h, _ => by omega
  | k + 6, _, h => by omega
theorem table_of_laid {W : World} (h : laidMetH Tryd.prog Rows.fnExactParseLogRow.laid W) : Table W := by
  have hm : ("loop.example/g00864/impl.ruleWords", (Rows.laid_loop_example_g00864_impl_ruleWords : DataW Unit)) ∈ Rows.fnExactParseLogRow.laid :=
    List.mem_cons_of_mem _ (List.mem_cons_of_mem _ (List.mem_cons_of_mem _ (List.mem_cons_of_mem _ (List.mem_cons_of_mem _ (List.mem_cons_of_mem _ List.mem_cons_self)))))
  obtain ⟨g, t, cs, fuel, p, hg, ht, hv, htr⟩ := Lib.laidMet.reads (laid_plain W h) hm
  obtain rfl : g = 0 := Option.some.inj (hg.symm.trans (show Tryd.prog.globalNamed "loop.example/g00864/impl.ruleWords" = some 0 by kernel_rfl))
  obtain rfl : t = 43 := Option.some.inj (ht.symm.trans (show (Tryd.prog.globals[0]?).map (·.type) = some 43 by kernel_rfl))
  obtain ⟨ys, m, rfl, hx, hl, hyl, hall⟩ := DataW.trod_array Tryd.underlying43 htr
  have hce : Tryd.prog.cellsOf 9 = 1 := by kernel_rfl
  have hct : Tryd.prog.cellsOf 43 = 6 := by kernel_rfl
  have hys : ys.map (·.1) = [.lit (.string []), .lit (.string [102, 117, 115, 101]), .lit (.string [105, 100]), .lit (.string [108, 99]), .lit (.string [112, 105, 118, 111, 116]), .lit (.string [108, 111, 110, 101, 108, 121])] := by
    have := congrArg Prod.fst hx
    injection this with this
    exact this.symm
  have hb : ∃ tt fr, W.heap[0]? = some (.cells cs tt fr) := by
    unfold World.var? at hv
    rw [show Tryd.prog.globalNamed "loop.example/g00864/impl.ruleWords" = some 0 by kernel_rfl] at hv
    simp only [Option.bind_some] at hv
    split at hv
    · rename_i c tt fr hh
      injection hv with hv; subst hv
      exact ⟨tt, fr, hh⟩
    · cases hv
  obtain ⟨tt, fr, hb⟩ := hb
  intro k h1 h5
  rw [cell_of_row W 0 k cs tt fr hb]
  have hk := hall k (by omega)
  rw [hce] at hk
  obtain ⟨y, hy⟩ : ∃ y, ys[k]? = some y := ⟨ys[k]'(by omega), List.getElem?_eq_getElem (by omega)⟩
  rw [hy] at hk
  obtain ⟨s, hs, hys2, _⟩ := DataW.trod_string Tryd.underlying9 hk
  have hc : cs.toList[k]? = some (.string s) := by
    have := congrArg (·[0]?) hs
    simpa [List.getElem?_take, List.getElem?_drop] using this
  have hd : (ys.map (·.1))[k]? = some (.lit (.string s.data.toList)) := by rw [List.getElem?_map, hy, hys2]; rfl
  rw [hys] at hd
  have hw : s = wordOf k := by
    apply ByteArray.ext
    apply Array.ext'
    rw [word_list k h1 h5]
    have : k = 1 ∨ k = 2 ∨ k = 3 ∨ k = 4 ∨ k = 5 := by omega
    rcases this with rfl | rfl | rfl | rfl | rfl <;> (simp at hd; simp [hd])
  rw [← hw]
  simpa using hc
set_option maxRecDepth 100000 in
theorem lifted (os : Os) (started : os.Started) (H : Type) (enc : TypeId × Value → H) :
    ReturnsInHanded {} Tryd.checked os 3 .any (fun w args => (Rows.fnExactParseLogSpec.pre enc Tryd.prog Tryd.f3 Rows.fnExactParseLogRow.domain false w args ∧ laidMetH Tryd.prog Rows.fnExactParseLogRow.laid w) ∧ sizedMet enc Tryd.prog Tryd.f3 (OpenSpec.ofChange Rows.fnExactParseLogSpec) false w args) (Rows.fnExactParseLogSpec.post enc Tryd.prog Tryd.f3 false true false false) := by
  refine law_lifted_shaped_var (C := Tryd.checked) (X := fun w _ => laidMetH Tryd.prog Rows.fnExactParseLogRow.laid w) (fun _ _ _ hh h => h.of_heap hh) own started (by kernel_rfl) Tryd.func3 rfl (by kernel_rfl) laidOut (of_decide_eq_true (by kernel_rfl)) rfl Tryd.underlying4
      (fun ds g hds => by match ds, hds with | [_], _ => rfl)
      (ChangeSpec.witness_shaped (enc := enc) (C := Tryd.checked) (os := os) (X := fun w _ => laidMetH Tryd.prog Rows.fnExactParseLogRow.laid w) false (World.laidAll Tryd.prog os Rows.fnExactParseLogRow.laid) #[.string ⟨#[]⟩] 8 (World.laidAll_os _ _ _)
        (World.shaped_of_ZipB (by kernel_rfl) (by kernel_rfl)) (by kernel_rfl) (by kernel_rfl) (by kernel_rfl)
        (by rw [MakeChecks.laidMetH_plain _ _ _ (by kernel_rfl)]; exact laidMet_laidAll _ (by kernel_rfl) (by kernel_rfl))) ?_
  intro W base args ds p hval0 hA0 hXX hsh
  have hval : ∀ (j : Nat) t v, Tryd.f3.params[j]? = some t → args[j]? = some v → Value.okWide Tryd.prog W .any base t v := hval0
  have hA : DataW.TrodAll enc Tryd.prog W 0 (fun _ => true) true Tryd.f3.params.toList args.toList ds p := hA0
  rw [Tryd.params3] at hA hval
  clear hval0 hA0
  obtain ⟨v0, vs0, d0, ds0, p0, q0, hargs, rfl, rfl, h0, r0⟩ := trodAll_cons hA
  obtain ⟨rfl, rfl, rfl⟩ := trodAll_nil r0
  obtain rfl : args = #[v0] := by cases args; simp_all
  obtain ⟨line, rfl, rfl, rfl, ws⟩ := Go.ChangeMaps.open_string Tryd.underlying9 (hval 0 9 v0 rfl rfl) h0
  exact walk_FnExactParseLog line W ws (maxL_of hsh) (strc_of (laid_plain W hXX)) (table_of_laid hXX)

theorem bare : Rows.FnExactParseLogSaid :=
  OpenClaim.holds_of_wide 3 Tryd.f3 rfl rfl rfl rfl rfl rfl rfl ⟨rfl, rfl, rfl, rfl, rfl⟩ rfl rfl rfl rfl rfl (by kernel_rfl) Tryd.func3 (by kernel_rfl)
    (of_decide_eq_true (by kernel_rfl)) (by unfold Func.isWrapper; first | (rw [if_pos (by decide +kernel)]; kernel_rfl) | (rw [if_neg (by decide +kernel)]; exact ⟨rfl, rfl⟩))
    (fun os started H enc _ => lifted os started H enc)
theorem proved : Rows.FnExactParseLogCardSaid :=
  Claim7.holds_tied_plain_at .later [] [.data, .data, .data, .data, .sentinel, .sentinel, .widerDeep, .pinned] true (true, "de03c9b47c583106ba3560930028b3f9d2ada0419cd7fbd3b9435d4c62122e7d") true
    bare (fun _ h => by cases h) (by kernel_rfl) (fun _ h => by cases h) fnExactParseLog_row_tie rfl ⟨rfl, rfl⟩ (by kernel_rfl) rfl
    (fun f fn hf hfn => by
      obtain rfl : f = 3 := Option.some.inj ((show Tryd.prog.funcNamed "loop.example/g00864/laws.FnExactParseLog" = some 3 by kernel_rfl).symm.trans hf) |>.symm
      obtain rfl : fn = Tryd.f3 := (Option.some.inj (Tryd.func3.symm.trans hfn)).symm
      exact ⟨by kernel_rfl, fun j t ht => by
        rw [Tryd.params3] at ht
        have hm : t ∈ [9] := by simpa using Array.mem_of_getElem? ht
        have hall : ([9].all fun u => !Tryd.prog.wantsStandIn u) = true := by kernel_rfl
        exact (show Tryd.prog.wantsStandIn t = false by simpa using List.all_eq_true.1 hall t hm)⟩)
    (by kernel_rfl)
#print axioms proved
end Go.Proofs.YtindldkileidmaaDoor.lawParseLog
