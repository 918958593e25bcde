/- The parities that appear in a network, in the reference. -/
import Derived.Test.YtbcjligkjoimmaaZ15Net1
import Derived.Test.YtbcjligkjoimmaaZ18Has1
import Derived.Test.YtbcjligkjoimmaaZ20M
import Derived.Test.YtbcjligkjoimmaaZ21Two2
namespace Go.Proofs.Ytbcjligkjoimmaa
set_option linter.unusedSimpArgs false
set_option linter.unusedVariables false
set_option linter.unnecessarySimpa false
set_option maxRecDepth 200000
open Go.ChangeShapes Go.WideShapes Go.ChangeAt Go.RowKit

def idN (n : Nat) : List Nat := (List.range n).map fun i => 2 ^ i
theorem idN_ints (n : Nat) : idRows n = ints (idN n) := by
  unfold idRows idN ints
  rw [List.map_map]
  apply List.map_congr_left
  intro i _
  simp
theorem idN_len (n : Nat) : (idN n).length = n := by simp [idN]
theorem idN_small {n : Nat} (h : n ≤ 5) : Small (idN n) := by
  intro x hx
  obtain ⟨i, hi, rfl⟩ := List.mem_map.1 hx
  have hi2 : i < n := by simpa using hi
  have : (2 : Nat) ^ i ≤ 2 ^ 4 := Nat.pow_le_pow_right (by omega) (by omega)
  omega
def parF (s : List Nat × List Nat) (g : E3) : List Nat × List Nat :=
  (cxN s.1 g.b.toNat g.c.toNat, if hasB s.2 ((cxN s.1 g.b.toNat g.c.toNat).getD g.c.toNat 0) = true then s.2 else s.2 ++ [(cxN s.1 g.b.toNat g.c.toNat).getD g.c.toNat 0])
def parTo (n : Nat) (gs : List E3) (k : Nat) : List Nat × List Nat := (gs.take k).foldl parF (idN n, idN n)
theorem parTo_succ {n : Nat} {gs : List E3} {k : Nat} (h : k < gs.length) : parTo n gs (k + 1) = parF (parTo n gs k) (gs.getD k ⟨0, 0, 0⟩) := by
  unfold parTo
  rw [List.take_succ_eq_append_getElem h, List.foldl_append]
  simp [List.getD, h]
structure ParOk (n m : Nat) (s : List Nat × List Nat) : Prop where
  len : s.1.length = n
  small : Small s.1
  small2 : Small s.2
  pos : 0 < s.2.length
  few : s.2.length ≤ m
theorem parTo_ok {n : Nat} (h1 : 1 ≤ n) (h2 : n ≤ 5) (gs : List E3) : ∀ k, ParOk n (n + k) (parTo n gs k)
  | 0 => ⟨idN_len n, idN_small h2, idN_small h2, by show 0 < (idN n).length; rw [idN_len]; omega, by show (idN n).length ≤ _; rw [idN_len]; omega⟩
  | k + 1 => by
    have ih := parTo_ok h1 h2 gs k
    by_cases h : k < gs.length
    · rw [parTo_succ h]
      have hs := ih.small.cx (gs.getD k ⟨0, 0, 0⟩).b.toNat (gs.getD k ⟨0, 0, 0⟩).c.toNat
      refine ⟨by simp [parF, cxN_len]; exact ih.len, hs, ?_, ?_, ?_⟩
      · unfold parF; dsimp only; split
        · exact ih.small2
        · intro x hx
          rcases List.mem_append.1 hx with hx | hx
          · exact ih.small2 x hx
          · simp only [List.mem_singleton] at hx; subst hx; exact hs.get _
      · unfold parF; dsimp only; split
        · exact ih.pos
        · simp
      · unfold parF; dsimp only; have := ih.few; split
        · omega
        · simp; omega
    · have e : parTo n gs (k + 1) = parTo n gs k := by unfold parTo; rw [List.take_of_length_le (by omega), List.take_of_length_le (by omega)]
      rw [e]; exact ⟨ih.len, ih.small, ih.small2, ih.pos, by have := ih.few; omega⟩
/-- What a round of either loop needs of its gate. -/
theorem net_gate {d : Circ} (h : netB d = true) {k : Nat} (hk : k < d.gs.length) : ∃ a b : Nat, d.gs.getD k ⟨0, 0, 0⟩ = ⟨9, (a : Int), (b : Int)⟩ ∧ (a : Int) < d.n ∧ (b : Int) < d.n ∧ a ≠ b := by
  unfold netB at h
  rw [Bool.and_eq_true] at h
  have hc : CircOk d := of_decide_eq_true h.1
  have e : d.gs.getD k ⟨0, 0, 0⟩ = d.gs[k] := by simp [List.getD, hk]
  have h9 := List.all_eq_true.1 h.2 d.gs[k] (List.getElem_mem hk)
  have hg := hc.2.2 d.gs[k] (List.getElem_mem hk)
  rw [e]
  generalize d.gs[k] = g at h9 hg ⊢
  obtain ⟨x, y, z⟩ := g
  have h9' : x = 9 := by simpa using h9
  subst h9'
  unfold GateOk at hg
  dsimp only at hg
  have hg2 : 0 ≤ y ∧ y ≤ d.n - 1 ∧ 0 ≤ z ∧ z ≤ d.n - 1 ∧ y ≠ z := by omega
  obtain ⟨a, rfl⟩ := Int.eq_ofNat_of_zero_le hg2.1
  obtain ⟨b, rfl⟩ := Int.eq_ofNat_of_zero_le hg2.2.2.1
  exact ⟨a, b, rfl, by omega, by omega, fun h => hg2.2.2.2.2 (by rw [h])⟩
theorem net_n {d : Circ} (h : netB d = true) : 1 ≤ d.n ∧ d.n ≤ 5 ∧ d.gs.length ≤ 400 := by
  unfold netB at h
  rw [Bool.and_eq_true] at h
  have hc : CircOk d := of_decide_eq_true h.1
  exact ⟨hc.1.1, hc.1.2, hc.2.1⟩
theorem one_reads (w : World) (x : Nat) : Reads (w.alloc (.cells #[.int .i64 (x : Int)] 3)) (w.heap.size + 1) 1 (some ⟨w.heap.size, 0, none⟩) 1 [.int .i64 (x : Int)] :=
  ⟨rfl, fun _ => ⟨_, rfl, by simp, news_cells w [_] _⟩⟩
theorem one_one (x : Nat) : ∀ u ∈ [Value.int .i64 (x : Int)], u.oneCell' = true := fun u hu => by simp at hu; subst hu; rfl
end Go.Proofs.Ytbcjligkjoimmaa
