/- What a text's parsing asks of the world, out of the variables' list. -/
import Derived.Test.YtindldkileidmaaDoorPf10
import Derived.Stop.LaidErr
import Derived.Lib.LaidTab
import Derived.Shelf.Vars
namespace Go.Proofs.YtindldkileidmaaDoor
set_option linter.unusedSimpArgs false
set_option linter.unusedVariables false
set_option linter.unnecessarySimpa false
set_option maxRecDepth 200000
open Go.ChangeShapes Go.WideShapes Go.ChangeAt Go.RowKit

theorem star_e : "*" ++ "errors.errorString" = "*errors.errorString" := by decide
theorem row_e (u : TypeId) (h : Tryd.prog.typeName? 3 u = some "*errors.errorString") : u = 108 :=
  typeName_ptr_named (nm := "errors.errorString") (by rw [star_e]; kernel_rfl) (by kernel_rfl) (by decide) u (by rw [star_e]; exact h)
theorem maxL_of {W : World} (h : W.ShapedOpen Tryd.prog) : MaxL W :=
  cell_of_shapedOpen_int (zero := #[.int .i64 0]) (t := 3) h (of_decide_eq_true (by kernel_rfl)) (by kernel_rfl) rfl (by kernel_rfl) (by kernel_rfl) Tryd.underlying3
theorem sent_of {W : World} {n : String} {text : List UInt8} {r : List (String × DataW Unit)} {g : Nat} (hg : Tryd.prog.globalNamed n = some g) (ht : (Tryd.prog.globals[g]?).map (·.type) = some 56)
    (h : laidMet Tryd.prog ((n, .iface "*errors.errorString" (.ptr (.agg [.lit (.string text)]))) :: r) W) : ∃ te pe, W.var? Tryd.prog n = some #[.iface te pe] := by
  obtain ⟨a0, s0, hv0, -, -, -⟩ := laid_sentinel h hg ht Tryd.underlying56 row_e Tryd.underlying108 Tryd.underlying110 rfl rfl Tryd.underlying9 (by kernel_rfl) (by kernel_rfl)
  exact ⟨_, _, hv0⟩
theorem strc_of {W : World} {a b c : String × DataW Unit} {r : List (String × DataW Unit)} {t1 t2 : List UInt8}
    (h : laidMet Tryd.prog (a :: b :: ("internal/strconv.uint64pow10", Lib.tabData .u64 Lib.pow10Tab) :: c :: ("strconv.ErrRange", .iface "*errors.errorString" (.ptr (.agg [.lit (.string t1)]))) :: ("strconv.ErrSyntax", .iface "*errors.errorString" (.ptr (.agg [.lit (.string t2)]))) :: r) W) : Strc W := by
  have h2 := h.tail.tail
  have h4 := h2.tail.tail
  exact ⟨sent_of (g := 2) (by kernel_rfl) (by kernel_rfl) h4.tail, sent_of (g := 3) (by kernel_rfl) (by kernel_rfl) h4, Lib.tabIs_of_head (g := 6) (t := 112) (e := 85) (n := 20) (by kernel_rfl) (by kernel_rfl) Tryd.underlying112 Tryd.underlying85 (by kernel_rfl) (by kernel_rfl) h2⟩
end Go.Proofs.YtindldkileidmaaDoor
