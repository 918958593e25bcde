/- IdentityTableau in the program. -/
import Derived.Test.YtpeodfiapofagaaTab2
import Derived.Test.YtpeodfiapofagaaTab3a
namespace Go.Proofs.Ytpeodfiapofagaa
set_option linter.unusedSimpArgs false
set_option linter.unusedVariables false
set_option linter.unnecessarySimpa false
set_option maxRecDepth 200000
open Go.ChangeShapes Go.WideShapes Go.ChangeAt Go.RowKit

theorem impl_IdentityTableau_any (n : Int) (w : World) :
    Calls Try.prog 14 #[.int .i64 n] w (TabPost w (idTab n)) := by
  cases hb : inB n 1 5
  · have HG := Lib.hid (show idTab n = none by simp [idTab, hb])
    have Hb := Lib.hid hb; clear hb
    go_enter Try.func14, Try.ntmps14
    go_wp2_with fail
    refine (within_any _ _ _ _).mono ?_; rintro e w' ⟨rfl, rfl⟩
    rw [Hb.out]
    go_wp2_with fail
    exact bodyPost_ret (v := .tuple #[.agg #[.int .i64 0, .slice none 0 0, .slice none 0 0], .bool false]) (by simp [results, Try.results14, go_sem]) rfl (TabPost.none HG.out (by repeat (first | exact Below.refl _ _ | assumption | refine Below.drew ?_ | refine below_drewN ?_ _ | refine Below.alloc ?_ (by first | omega | (simp <;> omega)) _ | refine Below.setCell ?_ (by first | omega | (simp <;> omega)) _ | refine Below.trans ?_ (Below.mono (by assumption) (by first | omega | (simp <;> omega))))))
  · have HG := Lib.hid (show idTab n = some (idT n) by simp [idTab, hb])
    have hn : 1 ≤ n ∧ n ≤ 5 := by simpa [inB] using hb
    obtain ⟨hn1, hn2⟩ := hn
    have Hb := Lib.hid hb; clear hb
    go_enter Try.func14, Try.ntmps14
    go_wp2_with fail
    refine (within_any _ _ _ _).mono ?_; rintro e w' ⟨rfl, rfl⟩
    rw [Hb.out]
    go_wp2_with fail
    refine (impl_identity_any _ _ (by omega) (by omega)).mono ?_; rintro e w1 ⟨u0, u1, rfl, ho0, ho1, hap, hb1⟩
    obtain ⟨a0, cap0, rfl⟩ := ho0.forms
    obtain ⟨a1, cap1, rfl⟩ := ho1.forms
    rw [idX_len] at *; rw [idZ_len] at *
    have Ho0 := Lib.hid ho0; have Ho1 := Lib.hid ho1; have Hap := Lib.hid hap; clear ho0 ho1 hap
    have r0 : w1.cell? ⟨w.heap.size, 0, none⟩ = some (.int .i64 0) := below_cell hb1 rfl (by repeat (first | (refine Eq.trans (World.cell?_alloc_at _ _ _ _ ?hh) ?_; (case hh => (simp; done)); rfl) | refine cell_alloc_keep _ ?_))
    have r1 : w1.cell? ⟨w.heap.size, 1, none⟩ = some (.slice none 0 0) := below_cell hb1 rfl (by repeat (first | (refine Eq.trans (World.cell?_alloc_at _ _ _ _ ?hh) ?_; (case hh => (simp; done)); rfl) | refine cell_alloc_keep _ ?_))
    have r2 : w1.cell? ⟨w.heap.size, 2, none⟩ = some (.slice none 0 0) := below_cell hb1 rfl (by repeat (first | (refine Eq.trans (World.cell?_alloc_at _ _ _ _ ?hh) ?_; (case hh => (simp; done)); rfl) | refine cell_alloc_keep _ ?_))
    have hZ := box_set3 (.int .i64 n) (.slice a0 n.toNat cap0) (.slice a1 n.toNat cap1) r0 r1 r2
    obtain ⟨hc_hb1, hf_hb1⟩ := bcell hb1; have hz_hb1 := hb1.size; (try simp at hz_hb1); have hs0_hb1 : w.heap.size < w1.heap.size := (by omega)
    go_wp2_with fail
    exact bodyPost_ret (v := .tuple #[.agg #[.int .i64 n, .slice a0 n.toNat cap0, .slice a1 n.toNat cap1], .bool true]) (by simp [results, Try.results14, go_sem, hZ]) rfl (TabPost.some HG.out (OwnE.le (OwnE.set (OwnE.set (OwnE.set Ho0.out (by simp) _) (by simp) _) (by simp) _) (by simp)) (OwnE.le (OwnE.set (OwnE.set (OwnE.set Ho1.out (by simp) _) (by simp) _) (by simp) _) (by simp)) Hap.out (by repeat (first | exact Below.refl _ _ | assumption | refine Below.drew ?_ | refine below_drewN ?_ _ | refine Below.alloc ?_ (by first | omega | (simp <;> omega)) _ | refine Below.setCell ?_ (by first | omega | (simp <;> omega)) _ | refine Below.trans ?_ (Below.mono (by assumption) (by first | omega | (simp <;> omega))))))
end Go.Proofs.Ytpeodfiapofagaa
