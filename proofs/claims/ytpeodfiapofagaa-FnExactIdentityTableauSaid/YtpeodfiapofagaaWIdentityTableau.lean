/- The walk through the law FnExactIdentityTableau. -/
import Derived.Test.YtpeodfiapofagaaTab3
import Derived.Test.YtpeodfiapofagaaStTableau
import Derived.Test.YtpeodfiapofagaaOpen1
import Derived.Test.YtpeodfiapofagaaDat
import Derived.Deep.DeepMust
import Derived.Deep.RegionHeld3
namespace Go.Proofs.Ytpeodfiapofagaa
set_option linter.unusedSimpArgs false
set_option linter.unusedVariables false
set_option linter.unnecessarySimpa false
set_option maxRecDepth 200000
open Go.ChangeShapes Go.WideShapes Go.ChangeAt Go.RowKit

set_option maxRecDepth 100000 in
theorem walk_FnExactIdentityTableau (v0 : Value) (w : World) (h0 : IsInt v0) :
    Calls Try.prog 3 #[v0] w fun e w' => e = .returned (.bool true) ∧ Below w.heap.size w w' := by
  obtain ⟨d_aN, rfl, aNlo, aNhi⟩ := h0
  obtain ⟨r, hr⟩ : ∃ r, r = idTab d_aN := ⟨_, rfl⟩
  have hlen00 : (r.getD Tab.zero).xs.length ≤ 1000000 ∧ (r.getD Tab.zero).zs.length ≤ 1000000 := by subst hr; exact idTab_len _
  obtain ⟨hlen0, hlen1⟩ := hlen00
  have Hr := Lib.hid hr; clear hr
  have BB0 := Below.refl w.heap.size w
  go_enter Try.func3, Try.ntmps3
  go_wp2_with fail
  refine (spec_IdentityTableau_any _ _).mono ?_; rw [← Hr.out]; rintro e w1 ⟨vw00, vw01, rfl, how00, how01, hapw0, hb1⟩
  obtain ⟨aw00, capw00, rfl⟩ := how00.forms
  have LL_w00 := Lib.hid (show ∀ g, (Value.slice aw00 (((r.getD Tab.zero)).xs).length capw00).ownBlock = some g → w.heap.size ≤ g ∧ g < w1.heap.size from fun g hg => by have := how00.lt g hg; (try simp at this); omega)
  replace how00 := OwnE.le how00 (base' := w.heap.size) (by have := BB0.size; first | omega | (simp; omega))
  obtain ⟨aw01, capw01, rfl⟩ := how01.forms
  have LL_w01 := Lib.hid (show ∀ g, (Value.slice aw01 (((r.getD Tab.zero)).zs).length capw01).ownBlock = some g → w.heap.size ≤ g ∧ g < w1.heap.size from fun g hg => by have := how01.lt g hg; (try simp at this); omega)
  replace how01 := OwnE.le how01 (base' := w.heap.size) (by have := BB0.size; first | omega | (simp; omega))
  have BB1 : Below w.heap.size w w1 := below_step BB0 hb1
  have ZZ1 : w.heap.size ≤ w1.heap.size := by have := hb1.size; (try simp at this); omega
  have Ow00 := Lib.hid (show OwnE w1 (w.heap.size) 54 (.slice aw00 (((r.getD Tab.zero)).xs).length capw00) E3.cs 3 (((r.getD Tab.zero)).xs) from how00); clear how00
  have Ow01 := Lib.hid (show OwnE w1 (w.heap.size) 54 (.slice aw01 (((r.getD Tab.zero)).zs).length capw01) E3.cs 3 (((r.getD Tab.zero)).zs) from how01); clear how01
  have AP_w0 := Lib.hid hapw0; clear hapw0
  clear hb1 BB0
  go_wp2_with fail
  have BP1 := Lib.hid (show Below w1.heap.size w1 (w1.alloc (.cells #[.int .i64 (((r.getD Tab.zero)).n), .slice aw00 (((r.getD Tab.zero)).xs).length capw00, .slice aw01 (((r.getD Tab.zero)).zs).length capw01] 24)) from (by repeat (first | exact Below.refl _ _ | assumption | refine Below.drew ?_ | refine below_drewN ?_ _ | refine Below.alloc ?_ (by first | omega | (simp <;> omega)) _ | refine Below.setCell ?_ (by first | omega | (simp <;> omega)) _ | refine Below.trans ?_ (Below.mono (by assumption) (by first | omega | (simp <;> omega))))))
  replace Ow00 := Lib.hid (show OwnE (w1.alloc (.cells #[.int .i64 (((r.getD Tab.zero)).n), .slice aw00 (((r.getD Tab.zero)).xs).length capw00, .slice aw01 (((r.getD Tab.zero)).zs).length capw01] 24)) (w.heap.size) 54 (.slice aw00 (((r.getD Tab.zero)).xs).length capw00) E3.cs 3 (((r.getD Tab.zero)).xs) from OwnE.below Ow00.out BP1.out rfl)
  replace Ow01 := Lib.hid (show OwnE (w1.alloc (.cells #[.int .i64 (((r.getD Tab.zero)).n), .slice aw00 (((r.getD Tab.zero)).xs).length capw00, .slice aw01 (((r.getD Tab.zero)).zs).length capw01] 24)) (w.heap.size) 54 (.slice aw01 (((r.getD Tab.zero)).zs).length capw01) E3.cs 3 (((r.getD Tab.zero)).zs) from OwnE.below Ow01.out BP1.out rfl)
  have c_w00 : (w1.alloc (.cells #[.int .i64 (((r.getD Tab.zero)).n), .slice aw00 (((r.getD Tab.zero)).xs).length capw00, .slice aw01 (((r.getD Tab.zero)).zs).length capw01] 24)).cell? ⟨w1.heap.size, 0, none⟩ = some (.int .i64 (((r.getD Tab.zero)).n)) := (by repeat (first | (refine Eq.trans (World.cell?_alloc_at _ _ _ _ ?hh) ?_; (case hh => (simp; done)); rfl) | refine cell_alloc_keep _ ?_))
  have c_w01 : (w1.alloc (.cells #[.int .i64 (((r.getD Tab.zero)).n), .slice aw00 (((r.getD Tab.zero)).xs).length capw00, .slice aw01 (((r.getD Tab.zero)).zs).length capw01] 24)).cell? ⟨w1.heap.size, 1, none⟩ = some (.slice aw00 (((r.getD Tab.zero)).xs).length capw00) := (by repeat (first | (refine Eq.trans (World.cell?_alloc_at _ _ _ _ ?hh) ?_; (case hh => (simp; done)); rfl) | refine cell_alloc_keep _ ?_))
  have c_w02 : (w1.alloc (.cells #[.int .i64 (((r.getD Tab.zero)).n), .slice aw00 (((r.getD Tab.zero)).xs).length capw00, .slice aw01 (((r.getD Tab.zero)).zs).length capw01] 24)).cell? ⟨w1.heap.size, 2, none⟩ = some (.slice aw01 (((r.getD Tab.zero)).zs).length capw01) := (by repeat (first | (refine Eq.trans (World.cell?_alloc_at _ _ _ _ ?hh) ?_; (case hh => (simp; done)); rfl) | refine cell_alloc_keep _ ?_))
  refine (impl_IdentityTableau_any _ _).mono ?_; rw [← Hr.out]; rintro e w2 ⟨vg00, vg01, rfl, hog00, hog01, hapg0, hb2⟩
  obtain ⟨ag00, capg00, rfl⟩ := hog00.forms
  have LL_g00 := Lib.hid (show ∀ g, (Value.slice ag00 (((r.getD Tab.zero)).xs).length capg00).ownBlock = some g → w1.heap.size + 1 ≤ g ∧ g < w2.heap.size from fun g hg => by have := hog00.lt g hg; (try simp at this); omega)
  replace hog00 := OwnE.le hog00 (base' := w.heap.size) (by have := BB1.size; first | omega | (simp; omega))
  obtain ⟨ag01, capg01, rfl⟩ := hog01.forms
  have LL_g01 := Lib.hid (show ∀ g, (Value.slice ag01 (((r.getD Tab.zero)).zs).length capg01).ownBlock = some g → w1.heap.size + 1 ≤ g ∧ g < w2.heap.size from fun g hg => by have := hog01.lt g hg; (try simp at this); omega)
  replace hog01 := OwnE.le hog01 (base' := w.heap.size) (by have := BB1.size; first | omega | (simp; omega))
  replace Ow00 := Lib.hid (show OwnE w2 (w.heap.size) 54 (.slice aw00 (((r.getD Tab.zero)).xs).length capw00) E3.cs 3 (((r.getD Tab.zero)).xs) from OwnE.below Ow00.out hb2 rfl)
  replace Ow01 := Lib.hid (show OwnE w2 (w.heap.size) 54 (.slice aw01 (((r.getD Tab.zero)).zs).length capw01) E3.cs 3 (((r.getD Tab.zero)).zs) from OwnE.below Ow01.out hb2 rfl)
  replace c_w00 := below_cell hb2 rfl c_w00
  replace c_w01 := below_cell hb2 rfl c_w01
  replace c_w02 := below_cell hb2 rfl c_w02
  have BB2 : Below w.heap.size w w2 := below_step (below_step BB1 BP1.out) hb2
  have ZZ2 : w1.heap.size + 1 ≤ w2.heap.size := by have := hb2.size; (try simp at this); omega
  clear BP1
  have LT2_0 : w1.heap.size < w2.heap.size := World.block_lt_of_cell? w2 _ c_w00
  have Og00 := Lib.hid (show OwnE w2 (w.heap.size) 54 (.slice ag00 (((r.getD Tab.zero)).xs).length capg00) E3.cs 3 (((r.getD Tab.zero)).xs) from hog00); clear hog00
  have Og01 := Lib.hid (show OwnE w2 (w.heap.size) 54 (.slice ag01 (((r.getD Tab.zero)).zs).length capg01) E3.cs 3 (((r.getD Tab.zero)).zs) from hog01); clear hog01
  have AP_g0 := Lib.hid hapg0; clear hapg0
  clear hb2 BB1
  go_wp2_with fail
  have BP2 := Lib.hid (show Below w2.heap.size w2 (w2.alloc (.cells #[.int .i64 (((r.getD Tab.zero)).n), .slice ag00 (((r.getD Tab.zero)).xs).length capg00, .slice ag01 (((r.getD Tab.zero)).zs).length capg01] 24)) from (by repeat (first | exact Below.refl _ _ | assumption | refine Below.drew ?_ | refine below_drewN ?_ _ | refine Below.alloc ?_ (by first | omega | (simp <;> omega)) _ | refine Below.setCell ?_ (by first | omega | (simp <;> omega)) _ | refine Below.trans ?_ (Below.mono (by assumption) (by first | omega | (simp <;> omega))))))
  replace Ow00 := Lib.hid (show OwnE (w2.alloc (.cells #[.int .i64 (((r.getD Tab.zero)).n), .slice ag00 (((r.getD Tab.zero)).xs).length capg00, .slice ag01 (((r.getD Tab.zero)).zs).length capg01] 24)) (w.heap.size) 54 (.slice aw00 (((r.getD Tab.zero)).xs).length capw00) E3.cs 3 (((r.getD Tab.zero)).xs) from OwnE.below Ow00.out BP2.out rfl)
  replace Ow01 := Lib.hid (show OwnE (w2.alloc (.cells #[.int .i64 (((r.getD Tab.zero)).n), .slice ag00 (((r.getD Tab.zero)).xs).length capg00, .slice ag01 (((r.getD Tab.zero)).zs).length capg01] 24)) (w.heap.size) 54 (.slice aw01 (((r.getD Tab.zero)).zs).length capw01) E3.cs 3 (((r.getD Tab.zero)).zs) from OwnE.below Ow01.out BP2.out rfl)
  replace Og00 := Lib.hid (show OwnE (w2.alloc (.cells #[.int .i64 (((r.getD Tab.zero)).n), .slice ag00 (((r.getD Tab.zero)).xs).length capg00, .slice ag01 (((r.getD Tab.zero)).zs).length capg01] 24)) (w.heap.size) 54 (.slice ag00 (((r.getD Tab.zero)).xs).length capg00) E3.cs 3 (((r.getD Tab.zero)).xs) from OwnE.below Og00.out BP2.out rfl)
  replace Og01 := Lib.hid (show OwnE (w2.alloc (.cells #[.int .i64 (((r.getD Tab.zero)).n), .slice ag00 (((r.getD Tab.zero)).xs).length capg00, .slice ag01 (((r.getD Tab.zero)).zs).length capg01] 24)) (w.heap.size) 54 (.slice ag01 (((r.getD Tab.zero)).zs).length capg01) E3.cs 3 (((r.getD Tab.zero)).zs) from OwnE.below Og01.out BP2.out rfl)
  replace c_w00 := cell_alloc_keep (.cells #[.int .i64 (((r.getD Tab.zero)).n), .slice ag00 (((r.getD Tab.zero)).xs).length capg00, .slice ag01 (((r.getD Tab.zero)).zs).length capg01] 24) (c_w00)
  replace c_w01 := cell_alloc_keep (.cells #[.int .i64 (((r.getD Tab.zero)).n), .slice ag00 (((r.getD Tab.zero)).xs).length capg00, .slice ag01 (((r.getD Tab.zero)).zs).length capg01] 24) (c_w01)
  replace c_w02 := cell_alloc_keep (.cells #[.int .i64 (((r.getD Tab.zero)).n), .slice ag00 (((r.getD Tab.zero)).xs).length capg00, .slice ag01 (((r.getD Tab.zero)).zs).length capg01] 24) (c_w02)
  have c_g00 : (w2.alloc (.cells #[.int .i64 (((r.getD Tab.zero)).n), .slice ag00 (((r.getD Tab.zero)).xs).length capg00, .slice ag01 (((r.getD Tab.zero)).zs).length capg01] 24)).cell? ⟨w2.heap.size, 0, none⟩ = some (.int .i64 (((r.getD Tab.zero)).n)) := (by repeat (first | (refine Eq.trans (World.cell?_alloc_at _ _ _ _ ?hh) ?_; (case hh => (simp; done)); rfl) | refine cell_alloc_keep _ ?_))
  have c_g01 : (w2.alloc (.cells #[.int .i64 (((r.getD Tab.zero)).n), .slice ag00 (((r.getD Tab.zero)).xs).length capg00, .slice ag01 (((r.getD Tab.zero)).zs).length capg01] 24)).cell? ⟨w2.heap.size, 1, none⟩ = some (.slice ag00 (((r.getD Tab.zero)).xs).length capg00) := (by repeat (first | (refine Eq.trans (World.cell?_alloc_at _ _ _ _ ?hh) ?_; (case hh => (simp; done)); rfl) | refine cell_alloc_keep _ ?_))
  have c_g02 : (w2.alloc (.cells #[.int .i64 (((r.getD Tab.zero)).n), .slice ag00 (((r.getD Tab.zero)).xs).length capg00, .slice ag01 (((r.getD Tab.zero)).zs).length capg01] 24)).cell? ⟨w2.heap.size, 2, none⟩ = some (.slice ag01 (((r.getD Tab.zero)).zs).length capg01) := (by repeat (first | (refine Eq.trans (World.cell?_alloc_at _ _ _ _ ?hh) ?_; (case hh => (simp; done)); rfl) | refine cell_alloc_keep _ ?_))
  refine (laws_eqTableau_same (r.getD Tab.zero) _ _ _ _ _ (Og00.out).rd (Og01.out).rd (Ow00.out).rd (Ow01.out).rd).mono ?_; rintro e w3 ⟨rfl, hb3⟩
  replace Ow00 := Lib.hid (show OwnE w3 (w.heap.size) 54 (.slice aw00 (((r.getD Tab.zero)).xs).length capw00) E3.cs 3 (((r.getD Tab.zero)).xs) from OwnE.below Ow00.out hb3 rfl)
  replace Ow01 := Lib.hid (show OwnE w3 (w.heap.size) 54 (.slice aw01 (((r.getD Tab.zero)).zs).length capw01) E3.cs 3 (((r.getD Tab.zero)).zs) from OwnE.below Ow01.out hb3 rfl)
  replace Og00 := Lib.hid (show OwnE w3 (w.heap.size) 54 (.slice ag00 (((r.getD Tab.zero)).xs).length capg00) E3.cs 3 (((r.getD Tab.zero)).xs) from OwnE.below Og00.out hb3 rfl)
  replace Og01 := Lib.hid (show OwnE w3 (w.heap.size) 54 (.slice ag01 (((r.getD Tab.zero)).zs).length capg01) E3.cs 3 (((r.getD Tab.zero)).zs) from OwnE.below Og01.out hb3 rfl)
  replace c_w00 := below_cell hb3 rfl c_w00
  replace c_w01 := below_cell hb3 rfl c_w01
  replace c_w02 := below_cell hb3 rfl c_w02
  replace c_g00 := below_cell hb3 rfl c_g00
  replace c_g01 := below_cell hb3 rfl c_g01
  replace c_g02 := below_cell hb3 rfl c_g02
  have BB3 : Below w.heap.size w w3 := below_step (below_step BB2 BP2.out) hb3
  have ZZ3 : w2.heap.size + 1 ≤ w3.heap.size := by have := hb3.size; (try simp at this); omega
  clear BP2
  clear LT2_0
  have LT3_0 : w1.heap.size < w3.heap.size := World.block_lt_of_cell? w3 _ c_w00
  have LT3_1 : w2.heap.size < w3.heap.size := World.block_lt_of_cell? w3 _ c_g00
  clear hb3 BB2
  go_wp2_with fail
  refine (laws_markTableau_any _ _ _ _ _ _ _ _ _ _ Og00.out Og01.out AP_g0.out (by omega) (by omega) (by omega) (by omega)).mono ?_; rintro e w4 ⟨rfl, hmg00, hmg01, hg⟩
  have hb4 : Mid (w1.heap.size + 1) (w2.heap.size) w3 w4 := hg _ _ (fun k hk => LL_g00.out k hk) (fun k hk => LL_g01.out k hk)
  clear hg
  replace Ow00 := Lib.hid (show OwnE w4 (w.heap.size) 54 (.slice aw00 (((r.getD Tab.zero)).xs).length capw00) E3.cs 3 (((r.getD Tab.zero)).xs) from Mid.own hb4 Ow00.out (fun g hg => by have := LL_w00.out g hg; omega))
  replace Ow01 := Lib.hid (show OwnE w4 (w.heap.size) 54 (.slice aw01 (((r.getD Tab.zero)).zs).length capw01) E3.cs 3 (((r.getD Tab.zero)).zs) from Mid.own hb4 Ow01.out (fun g hg => by have := LL_w01.out g hg; omega))
  replace c_w00 := Mid.cell hb4 (by omega) c_w00
  replace c_w01 := Mid.cell hb4 (by omega) c_w01
  replace c_w02 := Mid.cell hb4 (by omega) c_w02
  replace c_g00 := Mid.cell hb4 (by omega) c_g00
  replace c_g01 := Mid.cell hb4 (by omega) c_g01
  replace c_g02 := Mid.cell hb4 (by omega) c_g02
  have BB4 : Below w.heap.size w w4 := Below.trans BB3 (Mid.below hb4 (by omega) (by first | omega | (simp <;> omega)))
  have ZZ4 : w3.heap.size ≤ w4.heap.size := by have := hb4.size; (try simp at this); omega
  clear LT3_0 LT3_1
  have LT4_0 : w1.heap.size < w4.heap.size := World.block_lt_of_cell? w4 _ c_w00
  have LT4_1 : w2.heap.size < w4.heap.size := World.block_lt_of_cell? w4 _ c_g00
  have Og00 := Lib.hid (show w4.ownsRow (w.heap.size) 54 3 (.slice ag00 (((r.getD Tab.zero)).xs).length capg00) (((r.getD Tab.zero)).xs).length (marks (1) ((((r.getD Tab.zero)).xs).length * 3)) from hmg00); clear hmg00
  have Og01 := Lib.hid (show w4.ownsRow (w.heap.size) 54 3 (.slice ag01 (((r.getD Tab.zero)).zs).length capg01) (((r.getD Tab.zero)).zs).length (marks (1 + (((((r.getD Tab.zero)).xs).length * 3 : Nat) : Int)) ((((r.getD Tab.zero)).zs).length * 3)) from hmg01); clear hmg01
  clear hb4 BB3
  go_wp2_with fail
  refine (laws_heldTableau_any _ _ _ _ _ _ _ (Rd.of_own Og00.out) (Rd.of_own Og01.out) (by omega) (by omega) (by omega) (by omega)).mono ?_; rintro e w5 ⟨rfl, hb5⟩
  replace Ow00 := Lib.hid (show OwnE w5 (w.heap.size) 54 (.slice aw00 (((r.getD Tab.zero)).xs).length capw00) E3.cs 3 (((r.getD Tab.zero)).xs) from OwnE.below Ow00.out hb5 rfl)
  replace Ow01 := Lib.hid (show OwnE w5 (w.heap.size) 54 (.slice aw01 (((r.getD Tab.zero)).zs).length capw01) E3.cs 3 (((r.getD Tab.zero)).zs) from OwnE.below Ow01.out hb5 rfl)
  replace Og00 := Lib.hid (show w5.ownsRow (w.heap.size) 54 3 (.slice ag00 (((r.getD Tab.zero)).xs).length capg00) (((r.getD Tab.zero)).xs).length (marks (1) ((((r.getD Tab.zero)).xs).length * 3)) from own_below Og00.out hb5 rfl)
  replace Og01 := Lib.hid (show w5.ownsRow (w.heap.size) 54 3 (.slice ag01 (((r.getD Tab.zero)).zs).length capg01) (((r.getD Tab.zero)).zs).length (marks (1 + (((((r.getD Tab.zero)).xs).length * 3 : Nat) : Int)) ((((r.getD Tab.zero)).zs).length * 3)) from own_below Og01.out hb5 rfl)
  replace c_w00 := below_cell hb5 rfl c_w00
  replace c_w01 := below_cell hb5 rfl c_w01
  replace c_w02 := below_cell hb5 rfl c_w02
  replace c_g00 := below_cell hb5 rfl c_g00
  replace c_g01 := below_cell hb5 rfl c_g01
  replace c_g02 := below_cell hb5 rfl c_g02
  have BB5 : Below w.heap.size w w5 := below_step BB4 hb5
  have ZZ5 : w4.heap.size ≤ w5.heap.size := by have := hb5.size; (try simp at this); omega
  clear LT4_0 LT4_1
  have LT5_0 : w1.heap.size < w5.heap.size := World.block_lt_of_cell? w5 _ c_w00
  have LT5_1 : w2.heap.size < w5.heap.size := World.block_lt_of_cell? w5 _ c_g00
  clear hb5 BB4
  have hne5 : ¬ (1 + (((((r.getD Tab.zero)).xs).length * 3 : Nat) : Int) + (((((r.getD Tab.zero)).zs).length * 3 : Nat) : Int) : Int) < 0 := by omega
  go_wp2_with fail
  refine (impl_IdentityTableau_any _ _).mono ?_; rw [← Hr.out]; rintro e w6 ⟨vh00, vh01, rfl, hoh00, hoh01, haph0, hb6⟩
  obtain ⟨ah00, caph00, rfl⟩ := hoh00.forms
  have LL_h00 := Lib.hid (show ∀ g, (Value.slice ah00 (((r.getD Tab.zero)).xs).length caph00).ownBlock = some g → w5.heap.size ≤ g ∧ g < w6.heap.size from fun g hg => by have := hoh00.lt g hg; (try simp at this); omega)
  replace hoh00 := OwnE.le hoh00 (base' := w.heap.size) (by have := BB5.size; first | omega | (simp; omega))
  obtain ⟨ah01, caph01, rfl⟩ := hoh01.forms
  have LL_h01 := Lib.hid (show ∀ g, (Value.slice ah01 (((r.getD Tab.zero)).zs).length caph01).ownBlock = some g → w5.heap.size ≤ g ∧ g < w6.heap.size from fun g hg => by have := hoh01.lt g hg; (try simp at this); omega)
  replace hoh01 := OwnE.le hoh01 (base' := w.heap.size) (by have := BB5.size; first | omega | (simp; omega))
  replace Ow00 := Lib.hid (show OwnE w6 (w.heap.size) 54 (.slice aw00 (((r.getD Tab.zero)).xs).length capw00) E3.cs 3 (((r.getD Tab.zero)).xs) from OwnE.below Ow00.out hb6 rfl)
  replace Ow01 := Lib.hid (show OwnE w6 (w.heap.size) 54 (.slice aw01 (((r.getD Tab.zero)).zs).length capw01) E3.cs 3 (((r.getD Tab.zero)).zs) from OwnE.below Ow01.out hb6 rfl)
  replace Og00 := Lib.hid (show w6.ownsRow (w.heap.size) 54 3 (.slice ag00 (((r.getD Tab.zero)).xs).length capg00) (((r.getD Tab.zero)).xs).length (marks (1) ((((r.getD Tab.zero)).xs).length * 3)) from own_below Og00.out hb6 rfl)
  replace Og01 := Lib.hid (show w6.ownsRow (w.heap.size) 54 3 (.slice ag01 (((r.getD Tab.zero)).zs).length capg01) (((r.getD Tab.zero)).zs).length (marks (1 + (((((r.getD Tab.zero)).xs).length * 3 : Nat) : Int)) ((((r.getD Tab.zero)).zs).length * 3)) from own_below Og01.out hb6 rfl)
  replace c_w00 := below_cell hb6 rfl c_w00
  replace c_w01 := below_cell hb6 rfl c_w01
  replace c_w02 := below_cell hb6 rfl c_w02
  replace c_g00 := below_cell hb6 rfl c_g00
  replace c_g01 := below_cell hb6 rfl c_g01
  replace c_g02 := below_cell hb6 rfl c_g02
  have BB6 : Below w.heap.size w w6 := below_step BB5 hb6
  have ZZ6 : w5.heap.size ≤ w6.heap.size := by have := hb6.size; (try simp at this); omega
  clear LT5_0 LT5_1
  have LT6_0 : w1.heap.size < w6.heap.size := World.block_lt_of_cell? w6 _ c_w00
  have LT6_1 : w2.heap.size < w6.heap.size := World.block_lt_of_cell? w6 _ c_g00
  have Oh00 := Lib.hid (show OwnE w6 (w.heap.size) 54 (.slice ah00 (((r.getD Tab.zero)).xs).length caph00) E3.cs 3 (((r.getD Tab.zero)).xs) from hoh00); clear hoh00
  have Oh01 := Lib.hid (show OwnE w6 (w.heap.size) 54 (.slice ah01 (((r.getD Tab.zero)).zs).length caph01) E3.cs 3 (((r.getD Tab.zero)).zs) from hoh01); clear hoh01
  have AP_h0 := Lib.hid haph0; clear haph0
  clear hb6 BB5
  go_wp2_with fail
  have BP6 := Lib.hid (show Below w6.heap.size w6 (w6.alloc (.cells #[.int .i64 (((r.getD Tab.zero)).n), .slice ah00 (((r.getD Tab.zero)).xs).length caph00, .slice ah01 (((r.getD Tab.zero)).zs).length caph01] 24)) from (by repeat (first | exact Below.refl _ _ | assumption | refine Below.drew ?_ | refine below_drewN ?_ _ | refine Below.alloc ?_ (by first | omega | (simp <;> omega)) _ | refine Below.setCell ?_ (by first | omega | (simp <;> omega)) _ | refine Below.trans ?_ (Below.mono (by assumption) (by first | omega | (simp <;> omega))))))
  replace Ow00 := Lib.hid (show OwnE (w6.alloc (.cells #[.int .i64 (((r.getD Tab.zero)).n), .slice ah00 (((r.getD Tab.zero)).xs).length caph00, .slice ah01 (((r.getD Tab.zero)).zs).length caph01] 24)) (w.heap.size) 54 (.slice aw00 (((r.getD Tab.zero)).xs).length capw00) E3.cs 3 (((r.getD Tab.zero)).xs) from OwnE.below Ow00.out BP6.out rfl)
  replace Ow01 := Lib.hid (show OwnE (w6.alloc (.cells #[.int .i64 (((r.getD Tab.zero)).n), .slice ah00 (((r.getD Tab.zero)).xs).length caph00, .slice ah01 (((r.getD Tab.zero)).zs).length caph01] 24)) (w.heap.size) 54 (.slice aw01 (((r.getD Tab.zero)).zs).length capw01) E3.cs 3 (((r.getD Tab.zero)).zs) from OwnE.below Ow01.out BP6.out rfl)
  replace Og00 := Lib.hid (show (w6.alloc (.cells #[.int .i64 (((r.getD Tab.zero)).n), .slice ah00 (((r.getD Tab.zero)).xs).length caph00, .slice ah01 (((r.getD Tab.zero)).zs).length caph01] 24)).ownsRow (w.heap.size) 54 3 (.slice ag00 (((r.getD Tab.zero)).xs).length capg00) (((r.getD Tab.zero)).xs).length (marks (1) ((((r.getD Tab.zero)).xs).length * 3)) from own_below Og00.out BP6.out rfl)
  replace Og01 := Lib.hid (show (w6.alloc (.cells #[.int .i64 (((r.getD Tab.zero)).n), .slice ah00 (((r.getD Tab.zero)).xs).length caph00, .slice ah01 (((r.getD Tab.zero)).zs).length caph01] 24)).ownsRow (w.heap.size) 54 3 (.slice ag01 (((r.getD Tab.zero)).zs).length capg01) (((r.getD Tab.zero)).zs).length (marks (1 + (((((r.getD Tab.zero)).xs).length * 3 : Nat) : Int)) ((((r.getD Tab.zero)).zs).length * 3)) from own_below Og01.out BP6.out rfl)
  replace Oh00 := Lib.hid (show OwnE (w6.alloc (.cells #[.int .i64 (((r.getD Tab.zero)).n), .slice ah00 (((r.getD Tab.zero)).xs).length caph00, .slice ah01 (((r.getD Tab.zero)).zs).length caph01] 24)) (w.heap.size) 54 (.slice ah00 (((r.getD Tab.zero)).xs).length caph00) E3.cs 3 (((r.getD Tab.zero)).xs) from OwnE.below Oh00.out BP6.out rfl)
  replace Oh01 := Lib.hid (show OwnE (w6.alloc (.cells #[.int .i64 (((r.getD Tab.zero)).n), .slice ah00 (((r.getD Tab.zero)).xs).length caph00, .slice ah01 (((r.getD Tab.zero)).zs).length caph01] 24)) (w.heap.size) 54 (.slice ah01 (((r.getD Tab.zero)).zs).length caph01) E3.cs 3 (((r.getD Tab.zero)).zs) from OwnE.below Oh01.out BP6.out rfl)
  replace c_w00 := cell_alloc_keep (.cells #[.int .i64 (((r.getD Tab.zero)).n), .slice ah00 (((r.getD Tab.zero)).xs).length caph00, .slice ah01 (((r.getD Tab.zero)).zs).length caph01] 24) (c_w00)
  replace c_w01 := cell_alloc_keep (.cells #[.int .i64 (((r.getD Tab.zero)).n), .slice ah00 (((r.getD Tab.zero)).xs).length caph00, .slice ah01 (((r.getD Tab.zero)).zs).length caph01] 24) (c_w01)
  replace c_w02 := cell_alloc_keep (.cells #[.int .i64 (((r.getD Tab.zero)).n), .slice ah00 (((r.getD Tab.zero)).xs).length caph00, .slice ah01 (((r.getD Tab.zero)).zs).length caph01] 24) (c_w02)
  replace c_g00 := cell_alloc_keep (.cells #[.int .i64 (((r.getD Tab.zero)).n), .slice ah00 (((r.getD Tab.zero)).xs).length caph00, .slice ah01 (((r.getD Tab.zero)).zs).length caph01] 24) (c_g00)
  replace c_g01 := cell_alloc_keep (.cells #[.int .i64 (((r.getD Tab.zero)).n), .slice ah00 (((r.getD Tab.zero)).xs).length caph00, .slice ah01 (((r.getD Tab.zero)).zs).length caph01] 24) (c_g01)
  replace c_g02 := cell_alloc_keep (.cells #[.int .i64 (((r.getD Tab.zero)).n), .slice ah00 (((r.getD Tab.zero)).xs).length caph00, .slice ah01 (((r.getD Tab.zero)).zs).length caph01] 24) (c_g02)
  have c_h00 : (w6.alloc (.cells #[.int .i64 (((r.getD Tab.zero)).n), .slice ah00 (((r.getD Tab.zero)).xs).length caph00, .slice ah01 (((r.getD Tab.zero)).zs).length caph01] 24)).cell? ⟨w6.heap.size, 0, none⟩ = some (.int .i64 (((r.getD Tab.zero)).n)) := (by repeat (first | (refine Eq.trans (World.cell?_alloc_at _ _ _ _ ?hh) ?_; (case hh => (simp; done)); rfl) | refine cell_alloc_keep _ ?_))
  have c_h01 : (w6.alloc (.cells #[.int .i64 (((r.getD Tab.zero)).n), .slice ah00 (((r.getD Tab.zero)).xs).length caph00, .slice ah01 (((r.getD Tab.zero)).zs).length caph01] 24)).cell? ⟨w6.heap.size, 1, none⟩ = some (.slice ah00 (((r.getD Tab.zero)).xs).length caph00) := (by repeat (first | (refine Eq.trans (World.cell?_alloc_at _ _ _ _ ?hh) ?_; (case hh => (simp; done)); rfl) | refine cell_alloc_keep _ ?_))
  have c_h02 : (w6.alloc (.cells #[.int .i64 (((r.getD Tab.zero)).n), .slice ah00 (((r.getD Tab.zero)).xs).length caph00, .slice ah01 (((r.getD Tab.zero)).zs).length caph01] 24)).cell? ⟨w6.heap.size, 2, none⟩ = some (.slice ah01 (((r.getD Tab.zero)).zs).length caph01) := (by repeat (first | (refine Eq.trans (World.cell?_alloc_at _ _ _ _ ?hh) ?_; (case hh => (simp; done)); rfl) | refine cell_alloc_keep _ ?_))
  refine (laws_eqTableau_same (r.getD Tab.zero) _ _ _ _ _ (Oh00.out).rd (Oh01.out).rd (Ow00.out).rd (Ow01.out).rd).mono ?_; rintro e w7 ⟨rfl, hb7⟩
  replace Ow00 := Lib.hid (show OwnE w7 (w.heap.size) 54 (.slice aw00 (((r.getD Tab.zero)).xs).length capw00) E3.cs 3 (((r.getD Tab.zero)).xs) from OwnE.below Ow00.out hb7 rfl)
  replace Ow01 := Lib.hid (show OwnE w7 (w.heap.size) 54 (.slice aw01 (((r.getD Tab.zero)).zs).length capw01) E3.cs 3 (((r.getD Tab.zero)).zs) from OwnE.below Ow01.out hb7 rfl)
  replace Og00 := Lib.hid (show w7.ownsRow (w.heap.size) 54 3 (.slice ag00 (((r.getD Tab.zero)).xs).length capg00) (((r.getD Tab.zero)).xs).length (marks (1) ((((r.getD Tab.zero)).xs).length * 3)) from own_below Og00.out hb7 rfl)
  replace Og01 := Lib.hid (show w7.ownsRow (w.heap.size) 54 3 (.slice ag01 (((r.getD Tab.zero)).zs).length capg01) (((r.getD Tab.zero)).zs).length (marks (1 + (((((r.getD Tab.zero)).xs).length * 3 : Nat) : Int)) ((((r.getD Tab.zero)).zs).length * 3)) from own_below Og01.out hb7 rfl)
  replace Oh00 := Lib.hid (show OwnE w7 (w.heap.size) 54 (.slice ah00 (((r.getD Tab.zero)).xs).length caph00) E3.cs 3 (((r.getD Tab.zero)).xs) from OwnE.below Oh00.out hb7 rfl)
  replace Oh01 := Lib.hid (show OwnE w7 (w.heap.size) 54 (.slice ah01 (((r.getD Tab.zero)).zs).length caph01) E3.cs 3 (((r.getD Tab.zero)).zs) from OwnE.below Oh01.out hb7 rfl)
  replace c_w00 := below_cell hb7 rfl c_w00
  replace c_w01 := below_cell hb7 rfl c_w01
  replace c_w02 := below_cell hb7 rfl c_w02
  replace c_g00 := below_cell hb7 rfl c_g00
  replace c_g01 := below_cell hb7 rfl c_g01
  replace c_g02 := below_cell hb7 rfl c_g02
  replace c_h00 := below_cell hb7 rfl c_h00
  replace c_h01 := below_cell hb7 rfl c_h01
  replace c_h02 := below_cell hb7 rfl c_h02
  have BB7 : Below w.heap.size w w7 := below_step (below_step BB6 BP6.out) hb7
  have ZZ7 : w6.heap.size + 1 ≤ w7.heap.size := by have := hb7.size; (try simp at this); omega
  clear BP6
  clear LT6_0 LT6_1
  have LT7_0 : w1.heap.size < w7.heap.size := World.block_lt_of_cell? w7 _ c_w00
  have LT7_1 : w2.heap.size < w7.heap.size := World.block_lt_of_cell? w7 _ c_g00
  have LT7_2 : w6.heap.size < w7.heap.size := World.block_lt_of_cell? w7 _ c_h00
  clear hb7 BB6
  go_wp2_with fail
  refine (laws_heldTableau_any _ _ _ _ _ _ _ (Rd.of_own Og00.out) (Rd.of_own Og01.out) (by omega) (by omega) (by omega) (by omega)).mono ?_; rintro e w8 ⟨rfl, hb8⟩
  replace Ow00 := Lib.hid (show OwnE w8 (w.heap.size) 54 (.slice aw00 (((r.getD Tab.zero)).xs).length capw00) E3.cs 3 (((r.getD Tab.zero)).xs) from OwnE.below Ow00.out hb8 rfl)
  replace Ow01 := Lib.hid (show OwnE w8 (w.heap.size) 54 (.slice aw01 (((r.getD Tab.zero)).zs).length capw01) E3.cs 3 (((r.getD Tab.zero)).zs) from OwnE.below Ow01.out hb8 rfl)
  replace Og00 := Lib.hid (show w8.ownsRow (w.heap.size) 54 3 (.slice ag00 (((r.getD Tab.zero)).xs).length capg00) (((r.getD Tab.zero)).xs).length (marks (1) ((((r.getD Tab.zero)).xs).length * 3)) from own_below Og00.out hb8 rfl)
  replace Og01 := Lib.hid (show w8.ownsRow (w.heap.size) 54 3 (.slice ag01 (((r.getD Tab.zero)).zs).length capg01) (((r.getD Tab.zero)).zs).length (marks (1 + (((((r.getD Tab.zero)).xs).length * 3 : Nat) : Int)) ((((r.getD Tab.zero)).zs).length * 3)) from own_below Og01.out hb8 rfl)
  replace Oh00 := Lib.hid (show OwnE w8 (w.heap.size) 54 (.slice ah00 (((r.getD Tab.zero)).xs).length caph00) E3.cs 3 (((r.getD Tab.zero)).xs) from OwnE.below Oh00.out hb8 rfl)
  replace Oh01 := Lib.hid (show OwnE w8 (w.heap.size) 54 (.slice ah01 (((r.getD Tab.zero)).zs).length caph01) E3.cs 3 (((r.getD Tab.zero)).zs) from OwnE.below Oh01.out hb8 rfl)
  replace c_w00 := below_cell hb8 rfl c_w00
  replace c_w01 := below_cell hb8 rfl c_w01
  replace c_w02 := below_cell hb8 rfl c_w02
  replace c_g00 := below_cell hb8 rfl c_g00
  replace c_g01 := below_cell hb8 rfl c_g01
  replace c_g02 := below_cell hb8 rfl c_g02
  replace c_h00 := below_cell hb8 rfl c_h00
  replace c_h01 := below_cell hb8 rfl c_h01
  replace c_h02 := below_cell hb8 rfl c_h02
  have BB8 : Below w.heap.size w w8 := below_step BB7 hb8
  have ZZ8 : w7.heap.size ≤ w8.heap.size := by have := hb8.size; (try simp at this); omega
  clear LT7_0 LT7_1 LT7_2
  have LT8_0 : w1.heap.size < w8.heap.size := World.block_lt_of_cell? w8 _ c_w00
  have LT8_1 : w2.heap.size < w8.heap.size := World.block_lt_of_cell? w8 _ c_g00
  have LT8_2 : w6.heap.size < w8.heap.size := World.block_lt_of_cell? w8 _ c_h00
  clear hb8 BB7
  have hne8 : ¬ (1 + (((((r.getD Tab.zero)).xs).length * 3 : Nat) : Int) + (((((r.getD Tab.zero)).zs).length * 3 : Nat) : Int) : Int) < 0 := by omega
  go_wp2_with fail
  go_ret
  exact ⟨rfl, BB8⟩
end Go.Proofs.Ytpeodfiapofagaa
