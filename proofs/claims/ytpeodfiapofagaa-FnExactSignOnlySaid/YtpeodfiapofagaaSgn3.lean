/- SignOnly in the reference. -/
import Derived.Test.YtpeodfiapofagaaSgn2
namespace Go.Proofs.Ytpeodfiapofagaa
set_option linter.unusedSimpArgs false
set_option linter.unusedVariables false
set_option linter.unnecessarySimpa false
set_option maxRecDepth 200000
open Go.ChangeShapes Go.WideShapes Go.ChangeAt Go.RowKit

set_option maxHeartbeats 2000000 in
theorem spec_SignOnly_any (d : Tab) (v0 v1 : Value) (w : World) (h0 : RdE w v0 E3.cs 3 d.xs) (h1 : RdE w v1 E3.cs 3 d.zs) (n0 : d.xs.length ≤ 1048576) (n1 : d.zs.length ≤ 1048576) :
    Calls Try.prog 36 #[.agg #[.int .i64 d.n, v0, v1]] w fun e w' => e = .returned (.tuple #[.bool ((sgnG d).getD false), .bool (sgnG d).isSome]) ∧ Below w.heap.size w w' := by
  have H0 := Lib.hid h0; have H1 := Lib.hid h1
  obtain ⟨A, c, rfl, _⟩ := h0.form
  obtain ⟨A2, c2, rfl, _⟩ := h1.form
  clear h0 h1
  by_cases ht : TabOk d
  · have HT := Lib.hid (show tabB d = true from decide_eq_true ht)
    have HG := Lib.hid (show sgnG d = some (sgnAll (d.xs.map tn) (d.zs.map tn) d.n.toNat) from if_pos ht)
    obtain ⟨m, hm, m1, m5, ex, ez, lx, lz, okx, okz⟩ := ht.parts
    have RX := Lib.hid (show RdE w (.slice A d.xs.length c) E3.cs 3 (pes (d.xs.map tn)) from by rw [← ex]; exact H0.out)
    have RZ := Lib.hid (show RdE w (.slice A2 d.zs.length c2) E3.cs 3 (pes (d.zs.map tn)) from by rw [← ez]; exact H1.out)
    have HLX := Lib.hid lx; have HLZ := Lib.hid lz; have HOX := Lib.hid okx; have HOZ := Lib.hid okz
    rw [hm, Int.toNat_natCast] at HG
    have HM := Lib.hid hm
    clear ht hm ex ez lx lz okx okz
    go_enter Try.func36, Try.ntmps36
    go_wp2_with fail
    refine (spec_l7Good_any d _ _ _ (Rd.below H0.out (show Below w.heap.size w _ from (by repeat (first | exact Below.refl _ _ | assumption | refine Below.drew ?_ | refine below_drewN ?_ _ | refine Below.alloc ?_ (by first | omega | (simp <;> omega)) _ | refine Below.setCell ?_ (by first | omega | (simp <;> omega)) _ | refine Below.trans ?_ (Below.mono (by assumption) (by first | omega | (simp <;> omega)))))) rfl) (Rd.below H1.out (show Below w.heap.size w _ from (by repeat (first | exact Below.refl _ _ | assumption | refine Below.drew ?_ | refine below_drewN ?_ _ | refine Below.alloc ?_ (by first | omega | (simp <;> omega)) _ | refine Below.setCell ?_ (by first | omega | (simp <;> omega)) _ | refine Below.trans ?_ (Below.mono (by assumption) (by first | omega | (simp <;> omega)))))) rfl) n0 n1).mono ?_; rintro e w1 ⟨rfl, hb1⟩; rw [HT.out]
    obtain ⟨hc_hb1, hf_hb1⟩ := bcell hb1; have hz_hb1 := hb1.size; (try simp at hz_hb1); have hs0_hb1 : w.heap.size < w1.heap.size := (by omega)
    go_wp2_with fail
    rw [HM.out]
    refine (spec_l8SignOnly_any m (d.xs.map tn) (d.zs.map tn) _ _ _ m5 HLX.out HLZ.out HOX.out HOZ.out (Rd.below RX.out (show Below w.heap.size w w1 from (by repeat (first | exact Below.refl _ _ | assumption | refine Below.drew ?_ | refine below_drewN ?_ _ | refine Below.alloc ?_ (by first | omega | (simp <;> omega)) _ | refine Below.setCell ?_ (by first | omega | (simp <;> omega)) _ | refine Below.trans ?_ (Below.mono (by assumption) (by first | omega | (simp <;> omega)))))) rfl) (Rd.below RZ.out (show Below w.heap.size w w1 from (by repeat (first | exact Below.refl _ _ | assumption | refine Below.drew ?_ | refine below_drewN ?_ _ | refine Below.alloc ?_ (by first | omega | (simp <;> omega)) _ | refine Below.setCell ?_ (by first | omega | (simp <;> omega)) _ | refine Below.trans ?_ (Below.mono (by assumption) (by first | omega | (simp <;> omega)))))) rfl)).mono ?_; rintro e w2 ⟨rfl, hb2⟩
    go_wp2_with fail
    go_ret2
    exact ⟨by rw [HG.out]; exact ret_two rfl, (by repeat (first | exact Below.refl _ _ | assumption | refine Below.drew ?_ | refine below_drewN ?_ _ | refine Below.alloc ?_ (by first | omega | (simp <;> omega)) _ | refine Below.setCell ?_ (by first | omega | (simp <;> omega)) _ | refine Below.trans ?_ (Below.mono (by assumption) (by first | omega | (simp <;> omega)))))⟩
  · have HT := Lib.hid (show tabB d = false from decide_eq_false ht)
    have HG := Lib.hid (show sgnG d = none from if_neg ht)
    clear ht
    go_enter Try.func36, Try.ntmps36
    go_wp2_with fail
    refine (spec_l7Good_any d _ _ _ (Rd.below H0.out (show Below w.heap.size w _ from (by repeat (first | exact Below.refl _ _ | assumption | refine Below.drew ?_ | refine below_drewN ?_ _ | refine Below.alloc ?_ (by first | omega | (simp <;> omega)) _ | refine Below.setCell ?_ (by first | omega | (simp <;> omega)) _ | refine Below.trans ?_ (Below.mono (by assumption) (by first | omega | (simp <;> omega)))))) rfl) (Rd.below H1.out (show Below w.heap.size w _ from (by repeat (first | exact Below.refl _ _ | assumption | refine Below.drew ?_ | refine below_drewN ?_ _ | refine Below.alloc ?_ (by first | omega | (simp <;> omega)) _ | refine Below.setCell ?_ (by first | omega | (simp <;> omega)) _ | refine Below.trans ?_ (Below.mono (by assumption) (by first | omega | (simp <;> omega)))))) rfl) n0 n1).mono ?_; rintro e w1 ⟨rfl, hb1⟩; rw [HT.out]
    go_wp2_with fail
    go_ret2
    exact ⟨by rw [HG.out]; rfl, (by repeat (first | exact Below.refl _ _ | assumption | refine Below.drew ?_ | refine below_drewN ?_ _ | refine Below.alloc ?_ (by first | omega | (simp <;> omega)) _ | refine Below.setCell ?_ (by first | omega | (simp <;> omega)) _ | refine Below.trans ?_ (Below.mono (by assumption) (by first | omega | (simp <;> omega)))))⟩
end Go.Proofs.Ytpeodfiapofagaa
