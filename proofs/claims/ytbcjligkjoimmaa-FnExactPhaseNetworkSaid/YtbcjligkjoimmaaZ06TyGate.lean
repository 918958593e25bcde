/- Gate: the laws' helpers that measure and copy. -/
import Derived.Test.YtbcjligkjoimmaaZ02ElGate
import Derived.Test.YtbcjligkjoimmaaZ05Arg1
namespace Go.Proofs.Ytbcjligkjoimmaa
set_option linter.unusedSimpArgs false
set_option linter.unusedVariables false
set_option linter.unnecessarySimpa false
set_option maxRecDepth 200000
open Go.ChangeShapes Go.WideShapes Go.ChangeAt Go.RowKit Go.Joins

theorem info_Gate : (Try.prog.info? 58).map (fun i => (i.zero, i.size, i.bytes)) = some (some (.agg #[.int .i64 0, .int .i64 0, .int .i64 0]), 3, 24) := by kernel_rfl
theorem setGate_chain {xs : List E3} {ys : List Value} {k : Nat} (h : k < xs.length) (hl : ys.length = xs.length * 3) :
    (((((xs.take k).flatMap E3.cs ++ ys.drop (k * 3)).set (k * 3) (.int .i64 xs[k].a)).set (k * 3 + 1) (.int .i64 xs[k].b)).set (k * 3 + 2) (.int .i64 xs[k].c)) = (xs.take (k + 1)).flatMap E3.cs ++ ys.drop ((k + 1) * 3) := by
  have e : ((xs.take k).flatMap E3.cs).length = k * 3 := by rw [flat_len E3.len]; simp; omega
  obtain ⟨y0, y1, y2, zs, hz⟩ : ∃ y0 y1 y2 zs, ys.drop (k * 3) = y0 :: y1 :: y2 :: zs := by
    have hd : (ys.drop (k * 3)).length = ys.length - k * 3 := List.length_drop
    match hh : ys.drop (k * 3) with
    | y0 :: y1 :: y2 :: zs => exact ⟨y0, y1, y2, zs, rfl⟩
    | [] => rw [hh] at hd; simp at hd; omega
    | [y0] => rw [hh] at hd; simp at hd; omega
    | [y0, y1] => rw [hh] at hd; simp at hd; omega

  have hz2 : ys.drop ((k + 1) * 3) = zs := by
    rw [show (k + 1) * 3 = k * 3 + 3 from by omega, ← List.drop_drop, hz]; rfl
  rw [hz2, hz, List.take_succ_eq_append_getElem h, List.flatMap_append]
  rw [List.set_append_right _ _ (by rw [e]; omega), e, show k * 3 - k * 3 = 0 from by omega]
  rw [List.set_append_right _ _ (by rw [e]; omega), e, show k * 3 + 1 - k * 3 = 1 from by omega]
  rw [List.set_append_right _ _ (by rw [e]; omega), e, show k * 3 + 2 - k * 3 = 2 from by omega]
  simp [E3.cs]
end Go.Proofs.Ytbcjligkjoimmaa
