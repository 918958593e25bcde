/- slices.Delete on a row of numbers that the call owns: what the library's contract leaves, in this work's words. -/
import Derived.Test.YtbcjligkjoimmaaZ10Sl
import Derived.Test.YtbcjligkjoimmaaShelf
import Derived.Sort.Row
namespace Go.Proofs.Ytbcjligkjoimmaa
set_option linter.unusedSimpArgs false
set_option linter.unusedVariables false
set_option linter.unnecessarySimpa false
set_option maxRecDepth 200000
open Go.ChangeShapes Go.WideShapes Go.ChangeAt Go.RowKit
open Go.Sort (putRow putCells mapBlock onCells Holds)

def ints (L : List Nat) : List Int := L.map fun n : Nat => (n : Int)
theorem ints_len (L : List Nat) : (ints L).length = L.length := by simp [ints]
/-- A row of small numbers that the call owns, known to lie in block g. -/
def OwnN (w : World) (base g n cap : Nat) (M : List Nat) : Prop := w.ownsRow base 3 1 (.slice (some ⟨g, 0, none⟩) n cap) n ((ints M).map (Value.int .i64))
theorem OwnN.frz {w : World} {base g n cap : Nat} {M : List Nat} (h : OwnN w base g n cap M) (j : Nat) : w.frozen? ⟨g, j, none⟩ = false := World.ownsRow.frozenAt h j
theorem OwnN.set {w : World} {base g n cap : Nat} {M : List Nat} (h : OwnN w base g n cap M) (j x : Nat) : OwnN (w.setCell ⟨g, j, none⟩ (.int .i64 (x : Int))) base g n cap (M.set j x) := by
  have := (World.ownsRow.stored h j (.int .i64 (x : Int))).1
  simpa [OwnN, ints, List.map_set] using this
theorem OwnN.of {w : World} {base g cap : Nat} {M : List Nat} (h : OwnI w base (.slice (some ⟨g, 0, none⟩) M.length cap) (ints M)) : OwnN w base g M.length cap M := by
  unfold OwnI at h; rw [ints_len] at h; exact h
theorem OwnN.len {w : World} {base g n cap : Nat} {M : List Nat} (h : OwnN w base g n cap M) : M.length = n := by
  have := h.1; simpa [ints] using this
theorem OwnN.below {w w' : World} {base g n cap B : Nat} {M : List Nat} (h : OwnN w base g n cap M) (hb : Below B w w') (hB : B = w.heap.size) : OwnN w' base g n cap M := own_below h hb hB
theorem OwnN.lt {w : World} {base g n cap : Nat} {M : List Nat} (h : OwnN w base g n cap M) : base ≤ g ∧ g < w.heap.size := World.ownsRow.lt h g rfl
theorem OwnN.caps {w : World} {base g n cap : Nat} {M : List Nat} (h : OwnN w base g n cap M) : n ≤ cap ∧ cap ≤ 9223372036854775807 := by
  rcases h.2 with ⟨e, _⟩ | ⟨g', cap', cur, e, _, _, h1, h2, _⟩
  · cases e
  · injection e with _ _ e3; subst e3; exact ⟨h1, by simpa [maxLen] using h2⟩
theorem OwnN.rd {w : World} {base g n cap : Nat} {M : List Nat} (h : OwnN w base g n cap M) : RdI w (.slice (some ⟨g, 0, none⟩) n cap) (ints M) := by
  have hl := h.len; subst hl
  have := Rd.of_own (show w.ownsRow base 3 1 (.slice (some ⟨g, 0, none⟩) M.length cap) (ints M).length ((ints M).map (Value.int .i64)) from by rw [ints_len]; exact h)
  exact this
theorem own_int_cell {w : World} {base g n cap : Nat} {M : List Nat} (h : OwnN w base g n cap M) (j : Nat) (hj : j < M.length) : w.cell? ⟨g, j, none⟩ = some (.int .i64 (M.getD j 0 : Nat)) := by
  have := World.ownsRow.cells h (g := g) rfl j (.int .i64 (M.getD j 0 : Nat)) (by simp [ints, List.getD, hj])
  rw [Addr.add_lit, Nat.zero_add] at this
  exact this
theorem own_ints {w : World} {base : Nat} {v : Value} {M : List Nat} (h : OwnI w base v (ints M)) (h0 : 0 < M.length) : ∃ g cap, v = .slice (some ⟨g, 0, none⟩) M.length cap ∧ base ≤ g ∧ g < w.heap.size := by
  rcases Go.Joins.ownsRow_forms h with ⟨rfl, e⟩ | ⟨g, cap, rfl⟩
  · rw [ints_len] at e; omega
  · have := h.lt g rfl
    rw [ints_len]
    exact ⟨g, cap, rfl, this.1, this.2⟩
theorem putRow_block {α : Type} [Inhabited α] {enc : α → Value} {w : World} {q g : Nat} {d : Array α} {c : Array Value} {e : TypeId} {fr : Nat × Nat} (h : w.heap[g]? = some (.cells c e fr)) :
    (putRow enc (Go.Sort.ahead w q) g 0 d).heap[g]? = some (.cells (putCells enc 0 d c) e fr) := by
  unfold putRow mapBlock Go.Sort.ahead
  simp [Array.getElem?_modify, h, onCells]
theorem putRow_far {α : Type} [Inhabited α] {enc : α → Value} {w : World} {q g k : Nat} {d : Array α} (h : k ≠ g) : (putRow enc (Go.Sort.ahead w q) g 0 d).heap[k]? = w.heap[k]? := by
  unfold putRow mapBlock Go.Sort.ahead
  simp [Array.getElem?_modify, Ne.symm h]
theorem putCells_take {α : Type} [Inhabited α] {enc : α → Value} {d : List α} {c : Array Value} {m : Nat} (hm : m ≤ d.length) (hd : d.length ≤ c.size) : (putCells enc 0 d.toArray c).toList.take m = (d.take m).map enc := by
  apply List.ext_getElem?
  intro i
  simp only [putCells, List.getElem?_take, Array.toList_mapIdx, List.getElem?_mapIdx, List.getElem?_map]
  by_cases hi : i < m
  · have h1 : i < c.size := by omega
    have h2 : i < d.length := by omega
    simp [hi, h1, h2]
  · simp [hi]
theorem del_ints {w : World} {base g n cap q j : Nat} {M : List Nat} (h : OwnN w base g n cap M) (hj : j < n) :
    OwnN (putRow (Value.int .i64) (Go.Sort.ahead w q) g 0 ((ints M).take j ++ (ints M).drop (j + 1) ++ List.replicate (j + 1 - j) (0 : Int)).toArray) base g (n - 1) cap (M.eraseIdx j) := by
  have hl := h.len
  obtain ⟨_, h2⟩ := h
  rcases h2 with ⟨e, _⟩ | ⟨g', cap', cur, e, hb, hg, h1, h3, h4, h5⟩
  · cases e
  · injection e with e1 _ e3; subst e3; injection e1 with e1; injection e1 with e1; subst e1
    refine ⟨by simp [ints, List.length_eraseIdx, hl, hj], .inr ⟨g, cap, _, rfl, hb, putRow_block hg, by omega, h3, by simp [putCells, h4], ?_⟩⟩
    rw [putCells_take (by simp [ints, hl]; omega) (by simp [ints, hl]; omega)]
    have e6 : (ints M).take j ++ (ints M).drop (j + 1) = ints (M.eraseIdx j) := by simp [ints, List.eraseIdx_eq_take_drop_succ]
    rw [e6, Nat.mul_one, List.take_left' (by rw [ints_len, List.length_eraseIdx, hl, if_pos hj])]
theorem del_below {w0 w : World} {g q B : Nat} {d : Array Int} (h : Below B w0 w) (hg : B ≤ g) : Below B w0 (putRow (Value.int .i64) (Go.Sort.ahead w q) g 0 d) :=
  ⟨h.os, h.tape, h.output, by simpa [putRow, mapBlock, Go.Sort.ahead] using h.size, fun k hk => by rw [putRow_far (by omega)]; exact h.block k hk⟩
theorem slices_Delete_one (g n cap j base : Nat) (M : List Nat) (w w0 : World) (h : OwnN w base g n cap M) (hj : j < n) (hn : n ≤ 1048576) (hb0 : Below base w0 w) :
    Calls Try.prog 99 #[.slice (some ⟨g, 0, none⟩) n cap, .int .i64 (j : Int), .int .i64 ((j : Int) + 1)] w fun e w' => e = .returned (.slice (some ⟨g, 0, none⟩) (n - 1) cap) ∧ OwnN w' base g (n - 1) cap (M.eraseIdx j) ∧ Below base w0 w' ∧ ∀ b o u, b ≠ g → w.cell? ⟨b, o, none⟩ = some u → w'.cell? ⟨b, o, none⟩ = some u := by
  have hl := h.len
  obtain ⟨hc1, hc2⟩ := h.caps
  have hH : Holds (Value.int .i64) w g 0 (ints M).toArray := by
    intro t ht
    simp [ints] at ht
    refine ⟨?_, by simpa using h.frz t⟩
    have := own_int_cell h t ht
    simpa [ints, ht, List.getD] using this
  have hd := Try.slices_Delete_int g 0 cap j (j + 1) (ints M) w hH (by rw [ints_len]; omega) hc2 (by omega) (by rw [ints_len]; omega)
  rw [ints_len, hl] at hd
  refine (show Calls Try.prog 99 #[.slice (some ⟨g, 0, none⟩) n cap, .int .i64 (j : Int), .int .i64 ((j + 1 : Nat) : Int)] w _ from hd).mono ?_
  rintro e w' ⟨rfl, q, rfl⟩
  exact ⟨by rw [show j + 1 - j = 1 from by omega], del_ints h hj, del_below hb0 h.lt.1, fun b o u hne hc => by rw [World.cell?_of_block (w := w) (a := ⟨b, o, none⟩) (putRow_far hne)]; exact hc⟩
end Go.Proofs.Ytbcjligkjoimmaa
