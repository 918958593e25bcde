/- A valid tableau: the program's test. -/
import Derived.Test.YtdkfoleippncnaaPau6
import Derived.Test.YtdkfoleippncnaaIdxPauli
import Derived.Test.YtdkfoleippncnaaCatPauli
import Derived.Deep.RegionHeld3
namespace Go.Proofs.Ytdkfoleippncnaa
set_option linter.unusedSimpArgs false
set_option linter.unusedVariables false
set_option linter.unnecessarySimpa false
set_option maxRecDepth 200000
open Go.ChangeShapes Go.WideShapes Go.ChangeAt Go.RowKit

theorem tab_n {d : Tab} (h : ¬ (1 ≤ d.n ∧ d.n ≤ 5)) : tabB d = false := decide_eq_false fun k => h k.1
theorem tab_x {d : Tab} (h : (d.xs.length : Int) ≠ d.n) : tabB d = false := decide_eq_false fun k => h k.2.1
theorem tab_z {d : Tab} (h : (d.zs.length : Int) ≠ d.n) : tabB d = false := decide_eq_false fun k => h k.2.2.1
theorem getD_E {L : List E3} {i : Nat} (h : i < L.length) : L.getD i ⟨0, 0, 0⟩ = L[i] := by simp [List.getD, h]
theorem im_all {n : Int} {L : List E3} (h1 : 1 ≤ n ∧ n ≤ 5) (h : (L.any fun g => !imB n g) = false) : ∀ i, i < L.length → ImOk n (L.getD i ⟨0, 0, 0⟩) := by
  intro i hi
  rw [getD_E hi]
  have h2 := List.any_eq_false.1 h L[i] (List.getElem_mem hi)
  simp at h2
  exact (of_decide_eq_true h2).2
theorem tab_im {d : Tab} (h : ((d.xs ++ d.zs).any fun g => !imB d.n g) = true) : tabB d = false := by
  refine decide_eq_false fun k => ?_
  obtain ⟨g, hg, hb⟩ := List.any_eq_true.1 h
  obtain ⟨i, hi, rfl⟩ := List.mem_iff_getElem.1 hg
  have h2 := k.2.2.2.1 i (by simpa using hi)
  rw [getD_E hi] at h2
  have h3 : imB d.n (d.xs ++ d.zs)[i] = true := decide_eq_true ⟨k.1, h2⟩
  rw [h3] at hb; cases hb
def PairsTo (n : Int) (L : List E3) (k : Nat) : Prop := ∀ i, i < k → ∀ j, j < i → pairB n L i j = true
def PairsAt (n : Int) (L : List E3) (i k : Nat) : Prop := ∀ j, j < k → pairB n L i j = true
theorem PairsTo.next {n : Int} {L : List E3} {k : Nat} (h : PairsTo n L k) (h2 : PairsAt n L k k) : PairsTo n L (k + 1) := by
  intro i hi j hj
  by_cases e : i = k
  · subst e; exact h2 j hj
  · exact h i (by omega) j hj
theorem PairsAt.next {n : Int} {L : List E3} {i k : Nat} (h : PairsAt n L i k) (h2 : pairB n L i k = true) : PairsAt n L i (k + 1) := by
  intro j hj
  by_cases e : j = k
  · subst e; exact h2
  · exact h j (by omega)
theorem tab_yes {d : Tab} {k : Nat} (h1 : 1 ≤ d.n ∧ d.n ≤ 5) (h2 : (d.xs.length : Int) = d.n) (h3 : (d.zs.length : Int) = d.n) (h4 : ∀ i, i < d.xs.length + d.zs.length → ImOk d.n ((d.xs ++ d.zs).getD i ⟨0, 0, 0⟩))
    (h5 : PairsTo d.n (d.xs ++ d.zs) k) (hk : d.xs.length + d.zs.length ≤ k) : true = tabB d :=
  (decide_eq_true ⟨h1, h2, h3, h4, fun i hi j hj => h5 i (by omega) j hj⟩).symm
theorem tab_no {d : Tab} {i j : Nat} (hi : i < d.xs.length + d.zs.length) (hj : j < i) (h : pairB d.n (d.xs ++ d.zs) i j = false) : false = tabB d := by
  refine (decide_eq_false fun k => ?_).symm
  have := k.2.2.2.2 i hi j hj
  rw [h] at this; cases this
/-- The cells of a slice of valid operators. -/
theorem pau_at {w : World} {v : Value} {L : List E3} {n : Int} (h : RdE w v E3.cs 3 L) (h0 : 1 ≤ n) (h1 : n ≤ 5) (hi : ∀ i, i < L.length → PauOk n (L.getD i ⟨0, 0, 0⟩)) : ∃ A c, v = .slice A L.length c ∧ Hid (∀ k, k < L.length → ∃ b off, A = some ⟨b, off, none⟩ ∧ b < w.heap.size ∧ PNok (tn (L.getD k ⟨0, 0, 0⟩)) ∧ w.cell? ⟨b, off + k * 3, none⟩ = some (.int .i64 ((tn (L.getD k ⟨0, 0, 0⟩)).p : Int)) ∧ w.cell? ⟨b, off + k * 3 + 1, none⟩ = some (.int .i64 ((tn (L.getD k ⟨0, 0, 0⟩)).x : Int)) ∧ w.cell? ⟨b, off + k * 3 + 2, none⟩ = some (.int .i64 ((tn (L.getD k ⟨0, 0, 0⟩)).z : Int))) := by
  rcases h.cases0 E3.len with ⟨he, A, c, rfl⟩ | ⟨_, b, off, cap, rfl, hb, hl, hm, hc⟩
  · subst he
    exact ⟨A, c, rfl, show ∀ _, _ from fun k hk => by simp at hk⟩
  · refine ⟨_, cap, rfl, show ∀ _, _ from fun k hk => ⟨b, off, rfl, hb, ?_⟩⟩
    obtain ⟨e, ok⟩ := (hi k hk).nat h0 h1
    rw [getD_E hk] at e ok ⊢
    refine ⟨ok, ?_⟩
    have e0 : L[k].a = ((tn L[k]).p : Int) := congrArg E3.a e
    have e1 : L[k].b = ((tn L[k]).x : Int) := congrArg E3.b e
    have e2 : L[k].c = ((tn L[k]).z : Int) := congrArg E3.c e
    exact ⟨hc k hk 0 _ (by omega) (by rw [← e0]; rfl), hc k hk 1 _ (by omega) (by rw [← e1]; rfl), hc k hk 2 _ (by omega) (by rw [← e2]; rfl)⟩
end Go.Proofs.Ytdkfoleippncnaa
