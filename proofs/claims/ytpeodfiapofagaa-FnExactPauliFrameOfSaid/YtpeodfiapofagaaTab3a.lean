/- What the tableau functions leave; IdentityTableau in the reference. -/
import Derived.Test.YtpeodfiapofagaaTab1
import Derived.Test.YtpeodfiapofagaaInt1
namespace Go.Proofs.Ytpeodfiapofagaa
set_option linter.unusedSimpArgs false
set_option linter.unusedVariables false
set_option linter.unnecessarySimpa false
set_option maxRecDepth 200000
open Go.ChangeShapes Go.WideShapes Go.ChangeAt Go.RowKit

/-- What a function that answers a tableau and 'ok' leaves. -/
def TabPost (w : World) (r : Option Tab) (e : Ending) (w' : World) : Prop :=
  ∃ u0 u1, e = .returned (.tuple #[.agg #[.int .i64 (r.getD Tab.zero).n, u0, u1], .bool r.isSome]) ∧ OwnE w' w.heap.size 54 u0 E3.cs 3 (r.getD Tab.zero).xs ∧ OwnE w' w.heap.size 54 u1 E3.cs 3 (r.getD Tab.zero).zs ∧ Apart u0 u1 ∧ Below w.heap.size w w'
def idTab (n : Int) : Option Tab := if inB n 1 5 then some (idT n) else none
theorem idTab_len (n : Int) : ((idTab n).getD Tab.zero).xs.length ≤ 1000000 ∧ ((idTab n).getD Tab.zero).zs.length ≤ 1000000 := by
  unfold idTab; split
  · next h =>
    have h2 : 1 ≤ n ∧ n ≤ 5 := by simpa [inB] using h
    simp [idT, idX_len, idZ_len]; omega
  · simp [Tab.zero]
theorem ownE_nil (w : World) (base : Nat) (t : TypeId) : OwnE w base t (.slice none 0 0) E3.cs 3 [] := World.ownsRow_nil _ _ _ _
theorem TabPost.none {w w' : World} {r : Option Tab} (hr : r = none) (hb : Below w.heap.size w w') : TabPost w r (.returned (.tuple #[.agg #[.int .i64 0, .slice none 0 0, .slice none 0 0], .bool false])) w' := by
  subst hr; exact ⟨_, _, rfl, ownE_nil _ _ _, ownE_nil _ _ _, apart_nil _, hb⟩
theorem TabPost.some {w w' : World} {r : Option Tab} {t : Tab} {u0 u1 : Value} (hr : r = some t) (h0 : OwnE w' w.heap.size 54 u0 E3.cs 3 t.xs) (h1 : OwnE w' w.heap.size 54 u1 E3.cs 3 t.zs) (ha : Apart u0 u1) (hb : Below w.heap.size w w') : TabPost w r (.returned (.tuple #[.agg #[.int .i64 t.n, u0, u1], .bool true])) w' := by
  subst hr; exact ⟨_, _, rfl, h0, h1, ha, hb⟩
theorem spec_IdentityTableau_any (n : Int) (w : World) :
    Calls Try.prog 13 #[.int .i64 n] w (TabPost w (idTab n)) := by
  cases hb : inB n 1 5
  · have HG := Lib.hid (show idTab n = none by simp [idTab, hb])
    have Hb := Lib.hid hb; clear hb
    go_enter Try.func13, Try.ntmps13
    go_wp2_with fail
    refine (l1In_any _ _ _ _).mono ?_; rintro e w' ⟨rfl, rfl⟩
    rw [Hb.out]
    go_wp2_with fail
    exact bodyPost_ret (v := .tuple #[.agg #[.int .i64 0, .slice none 0 0, .slice none 0 0], .bool false]) (by simp [results, Try.results13, go_sem]) rfl (TabPost.none HG.out (by repeat (first | exact Below.refl _ _ | assumption | refine Below.drew ?_ | refine below_drewN ?_ _ | refine Below.alloc ?_ (by first | omega | (simp <;> omega)) _ | refine Below.setCell ?_ (by first | omega | (simp <;> omega)) _ | refine Below.trans ?_ (Below.mono (by assumption) (by first | omega | (simp <;> omega))))))
  · have HG := Lib.hid (show idTab n = some (idT n) by simp [idTab, hb])
    have hn : 1 ≤ n ∧ n ≤ 5 := by simpa [inB] using hb
    obtain ⟨hn1, hn2⟩ := hn
    have Hb := Lib.hid hb; clear hb
    go_enter Try.func13, Try.ntmps13
    go_wp2_with fail
    refine (l1In_any _ _ _ _).mono ?_; rintro e w' ⟨rfl, rfl⟩
    rw [Hb.out]
    go_wp2_with fail
    refine (spec_l7Identity_any _ _ (by omega) (by omega)).mono ?_; rintro e w1 ⟨u0, u1, rfl, ho0, ho1, hap, hb1⟩
    obtain ⟨a0, cap0, rfl⟩ := ho0.forms
    obtain ⟨a1, cap1, rfl⟩ := ho1.forms
    rw [idX_len] at *; rw [idZ_len] at *
    have Ho0 := Lib.hid ho0; have Ho1 := Lib.hid ho1; have Hap := Lib.hid hap; clear ho0 ho1 hap
    have r0 : w1.cell? ⟨w.heap.size, 0, none⟩ = some (.int .i64 0) := below_cell hb1 rfl (by repeat (first | (refine Eq.trans (World.cell?_alloc_at _ _ _ _ ?hh) ?_; (case hh => (simp; done)); rfl) | refine cell_alloc_keep _ ?_))
    have r1 : w1.cell? ⟨w.heap.size, 1, none⟩ = some (.slice none 0 0) := below_cell hb1 rfl (by repeat (first | (refine Eq.trans (World.cell?_alloc_at _ _ _ _ ?hh) ?_; (case hh => (simp; done)); rfl) | refine cell_alloc_keep _ ?_))
    have r2 : w1.cell? ⟨w.heap.size, 2, none⟩ = some (.slice none 0 0) := below_cell hb1 rfl (by repeat (first | (refine Eq.trans (World.cell?_alloc_at _ _ _ _ ?hh) ?_; (case hh => (simp; done)); rfl) | refine cell_alloc_keep _ ?_))
    have hZ := box_set3 (.int .i64 n) (.slice a0 n.toNat cap0) (.slice a1 n.toNat cap1) r0 r1 r2
    obtain ⟨hc_hb1, hf_hb1⟩ := bcell hb1; have hz_hb1 := hb1.size; (try simp at hz_hb1); have hs0_hb1 : w.heap.size < w1.heap.size := (by omega)
    go_wp2_with fail
    exact bodyPost_ret (v := .tuple #[.agg #[.int .i64 n, .slice a0 n.toNat cap0, .slice a1 n.toNat cap1], .bool true]) (by simp [results, Try.results13, go_sem, hZ]) rfl (TabPost.some HG.out (OwnE.le (OwnE.set (OwnE.set (OwnE.set Ho0.out (by simp) _) (by simp) _) (by simp) _) (by simp)) (OwnE.le (OwnE.set (OwnE.set (OwnE.set Ho1.out (by simp) _) (by simp) _) (by simp) _) (by simp)) Hap.out (by repeat (first | exact Below.refl _ _ | assumption | refine Below.drew ?_ | refine below_drewN ?_ _ | refine Below.alloc ?_ (by first | omega | (simp <;> omega)) _ | refine Below.setCell ?_ (by first | omega | (simp <;> omega)) _ | refine Below.trans ?_ (Below.mono (by assumption) (by first | omega | (simp <;> omega))))))
end Go.Proofs.Ytpeodfiapofagaa
