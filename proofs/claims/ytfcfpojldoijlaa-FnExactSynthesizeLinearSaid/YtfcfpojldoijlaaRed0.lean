/- The elimination of a map's rows, plain: the rows and the gates that have been applied. -/
import Derived.Test.YtfcfpojldoijlaaLin3
import Derived.Test.YtfcfpojldoijlaaDat
namespace Go.Proofs.Ytfcfpojldoijlaa
set_option linter.unusedSimpArgs false
set_option linter.unusedVariables false
set_option linter.unnecessarySimpa false
set_option maxRecDepth 200000
open Go.ChangeShapes Go.WideShapes Go.ChangeAt Go.RowKit

structure RS where (L : List Nat) (gs : List E3)
def RS.add (s : RS) (a b : Nat) : RS := ⟨cxN s.L a b, s.gs ++ [⟨9, (a : Int), (b : Int)⟩]⟩
def bitAt (L : List Nat) (i k : Nat) : Bool := (L.getD i 0).testBit k
/-- The first inner loop, d rounds before its end at n = i + d. -/
def red1 (k : Nat) : Nat → Nat → RS → RS
  | 0, _, s => s
  | d + 1, i, s => if bitAt s.L k k = true then s else red1 k d (i + 1) (if bitAt s.L i k = true then s.add i k else s)
/-- The second inner loop. -/
def red2 (k : Nat) : Nat → Nat → RS → RS
  | 0, _, s => s
  | d + 1, i, s => red2 k d (i + 1) (if i ≠ k ∧ bitAt s.L i k = true then s.add k i else s)
def redK (n k : Nat) (s : RS) : RS := red2 k n 0 (red1 k (n - (k + 1)) (k + 1) s)
/-- The outer loop, d rounds before its end. -/
def red0 (n : Nat) : Nat → Nat → RS → RS
  | 0, _, s => s
  | d + 1, k, s => red0 n d (k + 1) (redK n k s)
def redG (L : List Nat) : List E3 := (red0 L.length L.length 0 ⟨L, []⟩).gs
theorem RS.add_len (s : RS) (a b : Nat) : (s.add a b).L.length = s.L.length := by simp [RS.add, cxN_len]
theorem red1_stop {k d i : Nat} {s : RS} (h : bitAt s.L k k = true) : red1 k d i s = s := by
  cases d with
  | zero => rfl
  | succ d => simp [red1, h]
/-- What holds of all states: rows stay small, their number stays, gates are valid controlled NOTs, and few. -/
structure RSok (n : Nat) (m : Nat) (s : RS) : Prop where
  len : s.L.length = n
  small : Small s.L
  gates : ∀ g ∈ s.gs, g.a = 9 ∧ 0 ≤ g.b ∧ g.b < n ∧ 0 ≤ g.c ∧ g.c < n ∧ g.b ≠ g.c
  few : s.gs.length ≤ m
theorem RSok.mono {n m m' : Nat} {s : RS} (h : RSok n m s) (hm : m ≤ m') : RSok n m' s := ⟨h.len, h.small, h.gates, Nat.le_trans h.few hm⟩
theorem RSok.add {n m : Nat} {s : RS} {a b : Nat} (h : RSok n m s) (ha : a < n) (hb : b < n) (hab : a ≠ b) : RSok n (m + 1) (s.add a b) := by
  refine ⟨by rw [RS.add_len]; exact h.len, h.small.cx a b, fun g hg => ?_, by simp [RS.add]; exact h.few⟩
  simp [RS.add] at hg
  rcases hg with hg | rfl
  · exact h.gates g hg
  · refine ⟨rfl, by simp, by simpa using ha, by simp, by simpa using hb, fun e => hab (by dsimp only at e; omega)⟩
theorem RSok.red1 {n k : Nat} (hk : k < n) : ∀ {d i m : Nat} {s : RS}, i + d = n → k < i → RSok n m s → RSok n (m + d) (red1 k d i s)
  | 0, _, m, s, _, _, h => h
  | d + 1, i, m, s, hd, hi, h => by
    unfold Go.Proofs.Ytfcfpojldoijlaa.red1
    split
    · exact h.mono (by omega)
    · split
      · exact (RSok.red1 hk (by omega) (by omega) (h.add (by omega) hk (by omega))).mono (by omega)
      · exact (RSok.red1 hk (by omega) (by omega) h).mono (by omega)
theorem RSok.red2 {n k : Nat} (hk : k < n) : ∀ {d i m : Nat} {s : RS}, i + d = n → RSok n m s → RSok n (m + d) (red2 k d i s)
  | 0, _, m, s, _, h => h
  | d + 1, i, m, s, hd, h => by
    unfold Go.Proofs.Ytfcfpojldoijlaa.red2
    split
    · next hc => exact (RSok.red2 hk (by omega) (h.add hk (by omega) (fun e => hc.1 e.symm))).mono (by omega)
    · exact (RSok.red2 hk (by omega) h).mono (by omega)
theorem RSok.redK {n k m : Nat} {s : RS} (hk : k < n) (h : RSok n m s) : RSok n (m + 2 * n) (redK n k s) :=
  (RSok.red2 hk (by omega) (RSok.red1 hk (by omega) (by omega) h)).mono (by omega)
theorem RSok.red0 {n : Nat} : ∀ {d k m : Nat} {s : RS}, k + d = n → RSok n m s → RSok n (m + d * (2 * n)) (red0 n d k s)
  | 0, _, m, s, _, h => h.mono (by omega)
  | d + 1, k, m, s, hd, h => (RSok.red0 (by omega) (RSok.redK (by omega) h)).mono (by rw [show (d + 1) * (2 * n) = d * (2 * n) + 2 * n from Nat.succ_mul d (2 * n)]; omega)
theorem redG_ok {L : List Nat} (h : Small L) : RSok L.length (L.length * (2 * L.length)) (red0 L.length L.length 0 ⟨L, []⟩) :=
  (RSok.red0 (by omega) (⟨rfl, h, by simp, by simp⟩ : RSok L.length 0 ⟨L, []⟩)).mono (by omega)
/-- Rows with gates applied one behind the other. -/
def cxs (L : List Nat) (gs : List E3) : List Nat := gs.foldl (fun L g => cxN L g.b.toNat g.c.toNat) L
theorem cxs_len (L : List Nat) (gs : List E3) : (cxs L gs).length = L.length := by
  induction gs generalizing L with
  | nil => rfl
  | cons g gs ih => simp [cxs] at ih ⊢; rw [ih, cxN_len]
theorem Small.cxs {L : List Nat} (h : Small L) (gs : List E3) : Small (cxs L gs) := by
  induction gs generalizing L with
  | nil => exact h
  | cons g gs ih => exact ih (h.cx _ _)
theorem cxs_take {L : List Nat} {gs : List E3} {k : Nat} (h : k < gs.length) : cxs L (gs.take (k + 1)) = cxN (cxs L (gs.take k)) gs[k].b.toNat gs[k].c.toNat := by
  rw [List.take_succ_eq_append_getElem h, cxs, List.foldl_append]; rfl
end Go.Proofs.Ytfcfpojldoijlaa
