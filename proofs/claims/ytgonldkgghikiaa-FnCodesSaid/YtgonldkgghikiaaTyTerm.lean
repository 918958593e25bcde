/- Term: the laws' helpers that measure and copy. -/
import Derived.Test.YtgonldkgghikiaaElTerm
import Derived.Test.YtgonldkgghikiaaArg1
namespace Go.Proofs.Ytgonldkgghikiaa
set_option linter.unusedSimpArgs false
set_option linter.unusedVariables false
set_option linter.unnecessarySimpa false
set_option maxRecDepth 200000
open Go.ChangeShapes Go.WideShapes Go.ChangeAt Go.RowKit Go.Joins

theorem setTerm_chain {xs : List E2} {ys : List Value} {k : Nat} (h : k < xs.length) (hl : ys.length = xs.length * 2) :
    ((((xs.take k).flatMap E2.cs ++ ys.drop (k * 2)).set (k * 2) (.int .i64 xs[k].a)).set (k * 2 + 1) (.int .i64 xs[k].b)) = (xs.take (k + 1)).flatMap E2.cs ++ ys.drop ((k + 1) * 2) := by
  have e : ((xs.take k).flatMap E2.cs).length = k * 2 := by rw [flat_len E2.len]; simp; omega
  obtain ⟨y0, y1, zs, hz⟩ : ∃ y0 y1 zs, ys.drop (k * 2) = y0 :: y1 :: zs := by
    have hd : (ys.drop (k * 2)).length = ys.length - k * 2 := List.length_drop
    match hh : ys.drop (k * 2) with
    | y0 :: y1 :: zs => exact ⟨y0, y1, zs, rfl⟩
    | [] => rw [hh] at hd; simp at hd; omega
    | [y0] => rw [hh] at hd; simp at hd; omega

  have hz2 : ys.drop ((k + 1) * 2) = zs := by
    rw [show (k + 1) * 2 = k * 2 + 2 from by omega, ← List.drop_drop, hz]; rfl
  rw [hz2, hz, List.take_succ_eq_append_getElem h, List.flatMap_append]
  rw [List.set_append_right _ _ (by rw [e]; omega), e, show k * 2 - k * 2 = 0 from by omega]
  rw [List.set_append_right _ _ (by rw [e]; omega), e, show k * 2 + 1 - k * 2 = 1 from by omega]
  simp [E2.cs]
end Go.Proofs.Ytgonldkgghikiaa
