/- What a text's parsing asks of the world, out of the variables' list. -/
import Derived.Test.YtliophgfgmjhiaaGreatDoorZ40Zy8
import Derived.Stop.LaidErr
import Derived.Lib.LaidTab
import Derived.Shelf.Vars
namespace Go.Proofs.YtliophgfgmjhiaaGreatDoor
set_option linter.unusedSimpArgs false
set_option linter.unusedVariables false
set_option linter.unnecessarySimpa false
set_option maxRecDepth 200000
open Go.ChangeShapes Go.WideShapes Go.ChangeAt Go.RowKit

theorem star_eZ : "*" ++ "errors.errorString" = "*errors.errorString" := by decide
theorem row_eZ (u : TypeId) (h : Tryz.prog.typeName? 3 u = some "*errors.errorString") : u = 128 :=
  typeName_ptr_named (nm := "errors.errorString") (by rw [star_eZ]; kernel_rfl) (by kernel_rfl) (by decide) u (by rw [star_eZ]; exact h)
theorem maxZ_of {W : World} (h : W.ShapedOpen Tryz.prog) : MaxZ W :=
  cell_of_shapedOpen_int (zero := #[.int .i64 0]) (t := 3) h (of_decide_eq_true (by kernel_rfl)) (by kernel_rfl) rfl (by kernel_rfl) (by kernel_rfl) Tryz.underlying3
theorem sent_ofZ {W : World} {n : String} {text : List UInt8} {r : List (String × DataW Unit)} {g : Nat} (hg : Tryz.prog.globalNamed n = some g) (ht : (Tryz.prog.globals[g]?).map (·.type) = some 57)
    (h : laidMet Tryz.prog ((n, .iface "*errors.errorString" (.ptr (.agg [.lit (.string text)]))) :: r) W) : ∃ te pe, W.var? Tryz.prog n = some #[.iface te pe] := by
  obtain ⟨a0, s0, hv0, -, -, -⟩ := laid_sentinel h hg ht Tryz.underlying57 row_eZ Tryz.underlying128 Tryz.underlying130 rfl rfl Tryz.underlying9 (by kernel_rfl) (by kernel_rfl)
  exact ⟨_, _, hv0⟩
theorem strc_ofZ {W : World} {a b c : String × DataW Unit} {r : List (String × DataW Unit)} {t1 t2 : List UInt8}
    (h : laidMet Tryz.prog (a :: b :: ("internal/strconv.uint64pow10", Lib.tabData .u64 Lib.pow10Tab) :: c :: ("strconv.ErrRange", .iface "*errors.errorString" (.ptr (.agg [.lit (.string t1)]))) :: ("strconv.ErrSyntax", .iface "*errors.errorString" (.ptr (.agg [.lit (.string t2)]))) :: r) W) : Strc W := by
  have h2 := h.tail.tail
  have h4 := h2.tail.tail
  exact ⟨sent_ofZ (g := 1) (by kernel_rfl) (by kernel_rfl) h4.tail, sent_ofZ (g := 2) (by kernel_rfl) (by kernel_rfl) h4, Lib.tabIs_of_head (g := 5) (t := 131) (e := 103) (n := 20) (by kernel_rfl) (by kernel_rfl) Tryz.underlying131 Tryz.underlying103 (by kernel_rfl) (by kernel_rfl) h2⟩
end Go.Proofs.YtliophgfgmjhiaaGreatDoor
