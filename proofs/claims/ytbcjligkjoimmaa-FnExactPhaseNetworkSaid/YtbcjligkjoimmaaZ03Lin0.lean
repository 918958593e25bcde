/- The identity of n qubits as rows of bits, in the program and in the reference. -/
import Derived.Test.YtbcjligkjoimmaaZ01M
import Derived.Deep.RegionLaw
import Derived.Deep.RegionHeld3
import Derived.Deep.AppendLies
import Derived.Deep.DrawnRows
import Derived.Deep.DeepFit
import Derived.Deep.DeepMust
namespace Go.Proofs.Ytbcjligkjoimmaa
set_option linter.unusedSimpArgs false
set_option linter.unusedVariables false
set_option linter.unnecessarySimpa false
set_option maxRecDepth 200000
open Go.ChangeShapes Go.WideShapes Go.ChangeAt Go.RowKit

theorem info_int : (Try.prog.info? 3).map (fun i => (i.zero, i.size, i.bytes)) = some (some (.int .i64 0), 1, 8) := by kernel_rfl
/-- A slice of whole numbers that the call itself has made. -/
def OwnI (w : World) (base : Nat) (v : Value) (zs : List Int) : Prop := w.ownsRow base 3 1 v zs.length (zs.map (Value.int .i64))
theorem OwnI.rd {w : World} {base : Nat} {v : Value} {zs : List Int} (h : OwnI w base v zs) : RdI w v zs := Rd.of_own h
def idRows (n : Nat) : List Int := (List.range n).map fun i : Nat => (2 : Int) ^ i
theorem idRows_len (n : Nat) : (idRows n).length = n := by simp [idRows]
theorem idRows_succ (n : Nat) : idRows (n + 1) = idRows n ++ [(2 : Int) ^ n] := by simp [idRows, List.range_succ]
theorem pow_small (k : Nat) (h : k ≤ 61) : (2 : Int) ^ k ≤ 2305843009213693952 ∧ 1 ≤ (2 : Int) ^ k := by
  have h1 : (2 : Nat) ^ k ≤ 2 ^ 61 := Nat.pow_le_pow_right (by decide) h
  have h2 : 0 < (2 : Nat) ^ k := Nat.pow_pos (by decide)
  have e : ((2 : Int) ^ k) = ((2 ^ k : Nat) : Int) := by simp
  rw [e]
  constructor
  · exact Int.ofNat_le.2 h1
  · omega

theorem spec_l12Identity_any (n : Int) (w : World) (h0 : 0 ≤ n) (h1 : n ≤ 60) :
    Calls Try.prog 50 #[.int .i64 n] w fun e w' => ∃ v, e = .returned (.agg #[v]) ∧ OwnI w' w.heap.size v (idRows n.toNat) ∧ Below w.heap.size w w' := by
  obtain ⟨m, rfl⟩ := Int.eq_ofNat_of_zero_le h0
  rw [Int.toNat_natCast]
  obtain ⟨i0, hi, hz0, hz1, hz2⟩ := info_parts info_int
  go_enter Try.func50, Try.ntmps50
  go_wp2_with fail
  go_loopw [4] (fun i wr => ∃ (k : Nat) (v : Value), k ≤ m ∧ i = .int .i64 k ∧ wr.cell? ⟨w.heap.size + 1, 0, none⟩ = some v ∧ wr.frozen? ⟨w.heap.size + 1, 0, none⟩ = false ∧ Hid (wr.ownsRow (w.heap.size + 2) 3 1 v k ((idRows k).map (Value.int .i64))) ∧ Below (w.heap.size + 1) (w.alloc (.cells #[.slice none 0 0] 35)) wr ∧ w.heap.size + 2 ≤ wr.heap.size) (fun i _ => m - (intOf i).toNat)
  case atStart => exact ⟨0, .slice none 0 0, Nat.zero_le _, rfl, by simp, by simp, World.ownsRow_nil _ _ _ _, (by repeat (first | exact Below.refl _ _ | assumption | refine Below.drew ?_ | refine below_drewN ?_ _ | refine Below.alloc ?_ (by first | omega | (simp <;> omega)) _ | refine Below.setCell ?_ (by first | omega | (simp <;> omega)) _ | refine Below.trans ?_ (Below.mono (by assumption) (by first | omega | (simp <;> omega))))), by simp⟩
  case round =>
    obtain ⟨k, v, hk, rfl, hcell, hfz, hown, hbel, hsz⟩ := hrel
    by_cases hlt : k < m
    · have i1 : (k : Int) < (m : Int) := by omega
      obtain ⟨p1, p2⟩ := pow_small k (by omega)
      go_wp2_with (at_builtin; go_must (refine wpList_append_some _ rfl _ _ 23 rfl (w.heap.size + 2) 3 i0 (.int .i64 0) 1 8 Try.underlying23 hi hz0 hz1 hz2 rfl (by decide) v k _ rfl (hown.out.alloc _) ⟨wr.heap.size, 0, none⟩ 1 1 [.int .i64 (2 ^ k)] rfl rfl (news_cells _ [_] _) (fun x hx => by simp at hx; subst hx; rfl) (by unfold maxLen; omega) (by omega) (by simp; omega) (by omega) ?_; intro g cap w1 hown1 hg1 hgr1 hsz1; obtain ⟨hc1, hf1⟩ := grown_keep _ hown.out hgr1 hcell hfz (by omega)))
      go_roundw
      case rel =>
        have hb1 := grown_below (hbel.alloc (by omega) _) (hown.out.alloc _) hgr1 (by omega) (by simp; omega)
        have hz : w.heap.size + 2 ≤ w1.heap.size := by simp at hsz1; omega
        refine ⟨k + 1, _, by omega, by go_num, World.cell?_setCell_same _ _ _ hc1, by rw [World.frozen?_setCell]; exact hf1, ?_, (by repeat (first | exact Below.refl _ _ | assumption | refine Below.drew ?_ | refine below_drewN ?_ _ | refine Below.alloc ?_ (by first | omega | (simp <;> omega)) _ | refine Below.setCell ?_ (by first | omega | (simp <;> omega)) _ | refine Below.trans ?_ (Below.mono (by assumption) (by first | omega | (simp <;> omega))))), by simpa using hz⟩
        rw [idRows_succ, List.map_append]
        exact ownsRow_setCell_below hown1 (by simp) _
      case measure => simp [intOf]; omega
    · have e : k = m := by omega
      subst e
      have hform := Go.Joins.ownsRow_forms hown.out
      have hc0 : wr.cell? ⟨w.heap.size, 0, none⟩ = some (.slice none 0 0) := by rw [hbel.cell (p := ⟨w.heap.size, 0, none⟩) (by simp)]; simp
      have hf0 : wr.frozen? ⟨w.heap.size, 0, none⟩ = false := by rw [hbel.frozen (p := ⟨w.heap.size, 0, none⟩) (by simp)]; simp
      rcases hform with ⟨rfl, hk0⟩ | ⟨g, cap, rfl⟩
      all_goals
        go_wp2_with fail
        refine bodyPost_ret (v := .agg #[_]) (by simp [results, Try.results50, go_sem, hc0]; rfl) rfl ⟨_, rfl, ?_, (by repeat (first | exact Below.refl _ _ | assumption | refine Below.drew ?_ | refine below_drewN ?_ _ | refine Below.alloc ?_ (by first | omega | (simp <;> omega)) _ | refine Below.setCell ?_ (by first | omega | (simp <;> omega)) _ | refine Below.trans ?_ (Below.mono (by assumption) (by first | omega | (simp <;> omega)))))⟩
        unfold OwnI
        rw [idRows_len]
        exact own_le (ownsRow_setCell_below hown.out (by simp) _) (by omega)

attribute [local go_sem ↓] Go.wp_at_zero Go.wp_at_succ
theorem impl_identityLinear_any (n : Int) (w : World) (h0 : 0 ≤ n) (h1 : n ≤ 60) :
    Calls Try.prog 67 #[.int .i64 n] w fun e w' => ∃ v, e = .returned (.agg #[v]) ∧ OwnI w' w.heap.size v (idRows n.toNat) ∧ Below w.heap.size w w' := by
  obtain ⟨m, rfl⟩ := Int.eq_ofNat_of_zero_le h0
  rw [Int.toNat_natCast]
  obtain ⟨i0, hi, hz0, hz1, hz2⟩ := info_parts info_int
  go_enter Try.func67, Try.ntmps67
  go_wp2_with fail
  go_loopw [7] (fun i wr => ∃ (k : Nat) (v : Value), k ≤ m ∧ i = .int .i64 k ∧ wr.cell? ⟨w.heap.size + 1, 0, none⟩ = some v ∧ wr.frozen? ⟨w.heap.size + 1, 0, none⟩ = false ∧ Hid (wr.ownsRow (w.heap.size + 2) 3 1 v k ((idRows k).map (Value.int .i64))) ∧ Below (w.heap.size + 1) (w.alloc (.cells #[.slice none 0 0] 35)) wr ∧ w.heap.size + 2 ≤ wr.heap.size) (fun i _ => m - (intOf i).toNat)
  case atStart => exact ⟨0, .slice none 0 0, Nat.zero_le _, rfl, by simp, by simp, World.ownsRow_nil _ _ _ _, (by repeat (first | exact Below.refl _ _ | assumption | refine Below.drew ?_ | refine below_drewN ?_ _ | refine Below.alloc ?_ (by first | omega | (simp <;> omega)) _ | refine Below.setCell ?_ (by first | omega | (simp <;> omega)) _ | refine Below.trans ?_ (Below.mono (by assumption) (by first | omega | (simp <;> omega))))), by simp⟩
  case round =>
    obtain ⟨k, v, hk, rfl, hcell, hfz, hown, hbel, hsz⟩ := hrel
    by_cases hlt : k < m
    · have i1 : (k : Int) < (m : Int) := by omega
      obtain ⟨p1, p2⟩ := pow_small k (by omega)
      have hca : ∀ X, (wr.alloc X).cell? ⟨w.heap.size + 1, 0, none⟩ = some v := fun X => cell_alloc_keep X hcell
      have hw : IntKind.i64.wrap ((2 : Int) ^ k) = (2 : Int) ^ k := IntWalk.i64_in _ (by omega)
      go_wp2_with fail
      go_region_law ((refine step_append_lies _ (by rfl) _ _ 23 (by rfl) (w.heap.size + 2) 3 i0 (.int .i64 0) 1 8 Try.underlying23 hi hz0 hz1 hz2 rfl (by omega) v k _ (by rfl) (hown.out.alloc _).drew ⟨wr.heap.size, 0, none⟩ 1 1 [.int .i64 (2 ^ k)] (by rfl) (by rfl) (news_cells wr [_] 3) (fun x hx => by simp at hx; subst hx; rfl) (by omega) (by unfold maxLen; omega) (by omega) (by simp; omega) (wr.heap.size + 1) (by simp) ?_; intro g cap w1 hown1 hgr1 hat hsz1; obtain ⟨hc1, hf1⟩ := grown_same (hown.out.alloc _).drew hgr1 (cell_alloc_keep _ hcell) (frozen_alloc_keep _ hcell hfz) (by omega)))
      all_goals
        go_wp2_with fail
        go_roundw
        case rel =>
          have hb1 := grown_below (hbel.alloc (by omega) _).drew (hown.out.alloc _).drew hgr1 (by omega) (by simp; omega)
          have hz : w.heap.size + 2 ≤ w1.heap.size := by have := hgr1.size; simp at this; omega
          refine ⟨k + 1, _, by omega, by go_num, World.cell?_setCell_same _ _ _ hc1, by rw [World.frozen?_setCell]; exact hf1, ?_, (by repeat (first | exact Below.refl _ _ | assumption | refine Below.drew ?_ | refine below_drewN ?_ _ | refine Below.alloc ?_ (by first | omega | (simp <;> omega)) _ | refine Below.setCell ?_ (by first | omega | (simp <;> omega)) _ | refine Below.trans ?_ (Below.mono (by assumption) (by first | omega | (simp <;> omega))))), by simpa using hz⟩
          rw [idRows_succ, List.map_append]
          exact ownsRow_setCell_below hown1 (by simp) _
        case measure => simp [intOf]; omega
    · have e : k = m := by omega
      subst e
      have hform := Go.Joins.ownsRow_forms hown.out
      have hc0 : wr.cell? ⟨w.heap.size, 0, none⟩ = some (.slice none 0 0) := by rw [hbel.cell (p := ⟨w.heap.size, 0, none⟩) (by simp)]; simp
      have hf0 : wr.frozen? ⟨w.heap.size, 0, none⟩ = false := by rw [hbel.frozen (p := ⟨w.heap.size, 0, none⟩) (by simp)]; simp
      rcases hform with ⟨rfl, hk0⟩ | ⟨g, cap, rfl⟩
      all_goals
        go_wp2_with fail
        refine bodyPost_ret (v := .agg #[_]) (by simp [results, Try.results67, go_sem, hc0]; rfl) rfl ⟨_, rfl, ?_, (by repeat (first | exact Below.refl _ _ | assumption | refine Below.drew ?_ | refine below_drewN ?_ _ | refine Below.alloc ?_ (by first | omega | (simp <;> omega)) _ | refine Below.setCell ?_ (by first | omega | (simp <;> omega)) _ | refine Below.trans ?_ (Below.mono (by assumption) (by first | omega | (simp <;> omega)))))⟩
        unfold OwnI
        rw [idRows_len]
        exact own_le (ownsRow_setCell_below hown.out (by simp) _) (by omega)
end Go.Proofs.Ytbcjligkjoimmaa
