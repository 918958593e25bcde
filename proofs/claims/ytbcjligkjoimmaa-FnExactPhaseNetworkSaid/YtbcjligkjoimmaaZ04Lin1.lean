/- Linear maps in the laws' helpers (equal, mark, held), and the identity map as the program and the reference return it. -/
import Derived.Test.YtbcjligkjoimmaaZ03Lin0
namespace Go.Proofs.Ytbcjligkjoimmaa
set_option linter.unusedSimpArgs false
set_option linter.unusedVariables false
set_option linter.unnecessarySimpa false
set_option maxRecDepth 200000
open Go.ChangeShapes Go.WideShapes Go.ChangeAt Go.RowKit

theorem grown_trans {a b c : World} {row : Option Nat} (h1 : a.grownBy b row) (h2 : b.grownBy c row) : a.grownBy c row :=
  ⟨h2.os.trans h1.os, h2.tape.trans h1.tape, h2.output.trans h1.output, Nat.le_trans h1.size h2.size, fun i hi hn => (h2.block i (Nat.lt_of_lt_of_le hi h1.size) hn).trans (h1.block i hi hn)⟩

theorem laws_eqLinear_any (va vb : Value) (xs ys : List Int) (w : World) (ha : RdI w va xs) (hb : RdI w vb ys) :
    Calls Try.prog 37 #[.agg #[va], .agg #[vb]] w fun e w' => e = .returned (.bool (decide (xs = ys))) ∧ Below w.heap.size w w' := by
  have ha2 := Lib.hid (fun X Y => Rd.below ha (show Below w.heap.size w ((w.alloc X).alloc Y) from (by repeat (first | exact Below.refl _ _ | assumption | refine Below.drew ?_ | refine below_drewN ?_ _ | refine Below.alloc ?_ (by first | omega | (simp <;> omega)) _ | refine Below.setCell ?_ (by first | omega | (simp <;> omega)) _ | refine Below.trans ?_ (Below.mono (by assumption) (by first | omega | (simp <;> omega)))))) rfl)
  have hb2 := Lib.hid (fun X Y => Rd.below hb (show Below w.heap.size w ((w.alloc X).alloc Y) from (by repeat (first | exact Below.refl _ _ | assumption | refine Below.drew ?_ | refine below_drewN ?_ _ | refine Below.alloc ?_ (by first | omega | (simp <;> omega)) _ | refine Below.setCell ?_ (by first | omega | (simp <;> omega)) _ | refine Below.trans ?_ (Below.mono (by assumption) (by first | omega | (simp <;> omega)))))) rfl)
  by_cases h : xs = ys
  all_goals
    have hd : decide (xs = ys) = _ := (by first | exact decide_eq_true h | exact decide_eq_false h)
    rw [hd]
    have Hd := Lib.hid hd; clear hd h
    go_enter Try.func37, Try.ntmps37
    go_wp2_with fail
    refine (laws_eqIntS_any _ _ xs ys _ (ha2.out _ _) (hb2.out _ _)).mono ?_; rintro e w1 ⟨rfl, hb1⟩
    rw [Hd.out]; obtain ⟨hc_hb1, hf_hb1⟩ := bcell hb1; have hz_hb1 := hb1.size; (try simp at hz_hb1); have hs0_hb1 : w.heap.size < w1.heap.size := (by omega)
    go_wp2_with fail
    go_ret
    exact ⟨rfl, (by repeat (first | exact Below.refl _ _ | assumption | refine Below.drew ?_ | refine below_drewN ?_ _ | refine Below.alloc ?_ (by first | omega | (simp <;> omega)) _ | refine Below.setCell ?_ (by first | omega | (simp <;> omega)) _ | refine Below.trans ?_ (Below.mono (by assumption) (by first | omega | (simp <;> omega)))))⟩

theorem laws_markLinear_any (v : Value) (base n : Nat) (xs : List Value) (k : Int) (w : World) (h : w.ownsRow base 3 1 v n xs) (hk0 : 0 ≤ k) (hk1 : k + n ≤ 4611686018427387904) :
    Calls Try.prog 39 #[.agg #[v], .int .i64 k] w fun e w' => e = .returned (.int .i64 (k + n)) ∧ w'.ownsRow base 3 1 v n (marks k n) ∧ w.grownBy w' v.ownBlock := by
  have h2 := Lib.hid (fun X => h.alloc X)
  have hg := Lib.hid (fun X => World.grownBy_alloc w X v.ownBlock)
  go_enter Try.func39, Try.ntmps39
  go_wp2_with fail
  refine (laws_markIntS_any v base n xs k _ (h2.out _) hk0 hk1).mono ?_; rintro e w1 ⟨rfl, ho, hgr⟩
  have Ho := Lib.hid ho; have Hg := Lib.hid hgr; clear ho hgr
  go_wp2_with fail
  go_ret
  exact ⟨rfl, Ho.out, grown_trans (hg.out _) Hg.out⟩

/-- What a function that answers a linear map and 'ok' leaves: the rows in a block of its own. -/
def LinPost (w : World) (r : Option (List Int)) (e : Ending) (w' : World) : Prop :=
  ∃ v, e = .returned (.tuple #[.agg #[v], .bool r.isSome]) ∧ OwnI w' w.heap.size v (r.getD []) ∧ Below w.heap.size w w'
theorem own_nil (w : World) (base : Nat) : OwnI w base (.slice none 0 0) [] := World.ownsRow_nil _ _ _ _
theorem OwnI.forms {w : World} {base : Nat} {v : Value} {zs : List Int} (h : OwnI w base v zs) : ∃ a cap, v = .slice a zs.length cap := by
  rcases Go.Joins.ownsRow_forms h with ⟨rfl, h0⟩ | ⟨g, cap, rfl⟩
  · exact ⟨none, 0, by rw [h0]⟩
  · exact ⟨_, _, rfl⟩
theorem OwnI.below {w w' : World} {base B : Nat} {v : Value} {zs : List Int} (h : OwnI w base v zs) (hb : Below B w w') (hB : B = w.heap.size) : OwnI w' base v zs := own_below h hb hB
theorem OwnI.set {w : World} {base : Nat} {v : Value} {zs : List Int} (h : OwnI w base v zs) {a : Addr} (ha : a.block < base) (u : Value) : OwnI (w.setCell a u) base v zs := ownsRow_setCell_below h ha u
theorem OwnI.le {w : World} {base base' : Nat} {v : Value} {zs : List Int} (h : OwnI w base v zs) (hb : base' ≤ base) : OwnI w base' v zs := own_le h hb

def idLin (n : Int) : Option (List Int) := if inB n 1 5 then some (idRows n.toNat) else none
theorem idLin_len (n : Int) : ((idLin n).getD []).length ≤ 1000000 := by
  unfold idLin; split
  · simp [idRows_len]; have h2 : 1 ≤ n ∧ n ≤ 5 := by simpa [inB] using (by assumption : inB n 1 5 = true)
    omega
  · simp
theorem OwnI.lt {w : World} {base : Nat} {v : Value} {zs : List Int} (h : OwnI w base v zs) : ∀ k, v.ownBlock = some k → base ≤ k ∧ k < w.heap.size := World.ownsRow.lt h
end Go.Proofs.Ytbcjligkjoimmaa
