/- The tableaux of gates in the program and in the reference. -/
import Derived.Test.YtjdffjnennodaaaZ29M
import Derived.Test.YtjdffjnennodaaaZ28M
import Derived.Test.YtjdffjnennodaaaZ30M
import Derived.Test.YtjdffjnennodaaaZ12Pau4
import Derived.Test.YtjdffjnennodaaaZ31Tab2
import Derived.Test.YtjdffjnennodaaaZ26Tab1
import Derived.Test.YtjdffjnennodaaaZ11Brk
import Derived.BigRegion
import Derived.BigQuiet
import Derived.Deep.QuietTactic
namespace Go.Proofs.Ytjdffjnennodaaa
set_option linter.unusedSimpArgs false
set_option linter.unusedVariables false
set_option linter.unnecessarySimpa false
set_option maxRecDepth 200000
open Go.ChangeShapes Go.WideShapes Go.ChangeAt Go.RowKit

/-- The images under a gate: of X operators. -/
def gtX (n k a b : Nat) : List PN :=
  if k = 1 then (idPX n).set a ⟨0, 0, 2 ^ a⟩ else
  if k = 3 then (idPX n).set a ⟨2, 2 ^ a, 0⟩ else
  if k = 4 then (idPX n).set a ⟨2, 2 ^ a, 0⟩ else
  if k = 5 then (idPX n).set a ⟨0, 2 ^ a, 2 ^ a⟩ else
  if k = 6 then (idPX n).set a ⟨2, 2 ^ a, 2 ^ a⟩ else
  if k = 9 then (idPX n).set a ⟨0, 2 ^ a ||| 2 ^ b, 0⟩ else
  if k = 10 then ((idPX n).set a ⟨0, 2 ^ a, 2 ^ b⟩).set b ⟨0, 2 ^ b, 2 ^ a⟩ else
  if k = 11 then ((idPX n).set a ⟨0, 2 ^ b, 0⟩).set b ⟨0, 2 ^ a, 0⟩ else idPX n
/-- And of Z operators. -/
def gtZ (n k a b : Nat) : List PN :=
  if k = 1 then (idPZ n).set a ⟨0, 2 ^ a, 0⟩ else
  if k = 2 then (idPZ n).set a ⟨2, 0, 2 ^ a⟩ else
  if k = 3 then (idPZ n).set a ⟨2, 0, 2 ^ a⟩ else
  if k = 9 then (idPZ n).set b ⟨0, 0, 2 ^ a ||| 2 ^ b⟩ else
  if k = 11 then ((idPZ n).set a ⟨0, 0, 2 ^ b⟩).set b ⟨0, 0, 2 ^ a⟩ else idPZ n
structure GtOk (n k a b : Nat) : Prop where
  kind : (k = 12 ∧ a = 0 ∧ b = 0) ∨ (9 ≤ k ∧ k ≤ 11 ∧ a ≠ b) ∨ (1 ≤ k ∧ k ≤ 6 ∧ b = 0)
  la : a < n
  lb : b < n
theorem gtX_len (n k a b : Nat) : (gtX n k a b).length = n := by
  unfold gtX
  simp only [apply_ite List.length, List.length_set, idPX_len, ite_self]
theorem gtZ_len (n k a b : Nat) : (gtZ n k a b).length = n := by
  unfold gtZ
  simp only [apply_ite List.length, List.length_set, idPZ_len, ite_self]
theorem LtL.set {n : Nat} {L : List PN} (h : LtL n L) (h5 : n ≤ 5) (i : Nat) {e : PN} (hp : e.p ≤ 3) (hx : e.x < 2 ^ n ∧ e.z < 2 ^ n) : LtL n (L.set i e) := by
  have h32 : 2 ^ n ≤ 2 ^ 5 := Nat.pow_le_pow_right (by omega) h5
  refine ⟨⟨fun a ha => ?_⟩, fun a ha => ?_⟩
  · rcases List.mem_or_eq_of_mem_set ha with ha | rfl
    · exact h.ok.all a ha
    · exact ⟨hp, by omega, by omega⟩
  · rcases List.mem_or_eq_of_mem_set ha with ha | rfl
    · exact h.lt a ha
    · exact hx
theorem gtX_lt {n k a b : Nat} (h5 : n ≤ 5) (h : GtOk n k a b) : LtL n (gtX n k a b) := by
  have pa : 2 ^ a < 2 ^ n := Nat.pow_lt_pow_right (by omega) h.la
  have pb : 2 ^ b < 2 ^ n := Nat.pow_lt_pow_right (by omega) h.lb
  have po : 2 ^ a ||| 2 ^ b < 2 ^ n := Nat.or_lt_two_pow pa pb
  have p0 := Nat.two_pow_pos n
  have hI := idPX_lt h5
  unfold gtX
  repeat (first | exact hI | exact (hI.set h5 _ (by dsimp only; omega) ⟨by first | exact pa | exact pb | exact po | exact p0, by first | exact pa | exact pb | exact p0⟩) | exact ((hI.set h5 _ (by dsimp only; omega) ⟨by first | exact pa | exact pb | exact p0, by first | exact pa | exact pb | exact p0⟩).set h5 _ (by dsimp only; omega) ⟨by first | exact pa | exact pb | exact p0, by first | exact pa | exact pb | exact p0⟩) | split)
theorem gtZ_lt {n k a b : Nat} (h5 : n ≤ 5) (h : GtOk n k a b) : LtL n (gtZ n k a b) := by
  have pa : 2 ^ a < 2 ^ n := Nat.pow_lt_pow_right (by omega) h.la
  have pb : 2 ^ b < 2 ^ n := Nat.pow_lt_pow_right (by omega) h.lb
  have po : 2 ^ a ||| 2 ^ b < 2 ^ n := Nat.or_lt_two_pow pa pb
  have p0 := Nat.two_pow_pos n
  have hI := idPZ_lt h5
  unfold gtZ
  repeat (first | exact hI | exact (hI.set h5 _ (by dsimp only; omega) ⟨by first | exact pa | exact pb | exact p0, by first | exact pa | exact pb | exact po | exact p0⟩) | exact ((hI.set h5 _ (by dsimp only; omega) ⟨by first | exact pa | exact pb | exact p0, by first | exact pa | exact pb | exact p0⟩).set h5 _ (by dsimp only; omega) ⟨by first | exact pa | exact pb | exact p0, by first | exact pa | exact pb | exact p0⟩) | split)
/-- The tableau of the first k gates. -/
def tofX (n : Nat) (gs : List E3) : Nat → List PN
  | 0 => idPX n
  | k + 1 => compL imgN (gtX n (gs.getD k ⟨0, 0, 0⟩).a.toNat (gs.getD k ⟨0, 0, 0⟩).b.toNat (gs.getD k ⟨0, 0, 0⟩).c.toNat) (gtZ n (gs.getD k ⟨0, 0, 0⟩).a.toNat (gs.getD k ⟨0, 0, 0⟩).b.toNat (gs.getD k ⟨0, 0, 0⟩).c.toNat) n (tofX n gs k)
def tofZ (n : Nat) (gs : List E3) : Nat → List PN
  | 0 => idPZ n
  | k + 1 => compL imgN (gtX n (gs.getD k ⟨0, 0, 0⟩).a.toNat (gs.getD k ⟨0, 0, 0⟩).b.toNat (gs.getD k ⟨0, 0, 0⟩).c.toNat) (gtZ n (gs.getD k ⟨0, 0, 0⟩).a.toNat (gs.getD k ⟨0, 0, 0⟩).b.toNat (gs.getD k ⟨0, 0, 0⟩).c.toNat) n (tofZ n gs k)
theorem tofX_0 (n : Nat) (gs : List E3) : tofX n gs 0 = idPX n := rfl
theorem tofZ_0 (n : Nat) (gs : List E3) : tofZ n gs 0 = idPZ n := rfl
theorem tofX_succ (n : Nat) {gs : List E3} {k kk a b : Nat} (_ : k < gs.length) (hg : gs.getD k ⟨0, 0, 0⟩ = ⟨(kk : Int), (a : Int), (b : Int)⟩) : tofX n gs (k + 1) = compL imgN (gtX n kk a b) (gtZ n kk a b) n (tofX n gs k) := by
  show compL _ _ _ _ _ = _
  rw [hg]; simp
theorem tofZ_succ (n : Nat) {gs : List E3} {k kk a b : Nat} (_ : k < gs.length) (hg : gs.getD k ⟨0, 0, 0⟩ = ⟨(kk : Int), (a : Int), (b : Int)⟩) : tofZ n gs (k + 1) = compL imgN (gtX n kk a b) (gtZ n kk a b) n (tofZ n gs k) := by
  show compL _ _ _ _ _ = _
  rw [hg]; simp
theorem tofX_len (n : Nat) (gs : List E3) : ∀ k, (tofX n gs k).length = n
  | 0 => idPX_len n
  | k + 1 => by unfold tofX; rw [compL_len, tofX_len n gs k]
theorem tofZ_len (n : Nat) (gs : List E3) : ∀ k, (tofZ n gs k).length = n
  | 0 => idPZ_len n
  | k + 1 => by unfold tofZ; rw [compL_len, tofZ_len n gs k]
theorem clif_nat {d : Circ} (h : clifB d = true) : ∃ n : Nat, d.n = (n : Int) ∧ 1 ≤ n ∧ n ≤ 5 := by
  obtain ⟨⟨⟨h1, h2⟩, _⟩, _⟩ := clif_parts h
  exact ⟨d.n.toNat, by omega, by omega, by omega⟩
theorem clif_n {d : Circ} {n : Nat} (h : clifB d = true) (hn : d.n = (n : Int)) : 1 ≤ n ∧ n ≤ 5 := by
  obtain ⟨⟨⟨h1, h2⟩, _⟩, _⟩ := clif_parts h
  omega
theorem clif_gate {d : Circ} {n k : Nat} (h : clifB d = true) (hn : d.n = (n : Int)) (hk : k < d.gs.length) : ∃ kk a b : Nat, d.gs.getD k ⟨0, 0, 0⟩ = ⟨(kk : Int), (a : Int), (b : Int)⟩ ∧ GtOk n kk a b := by
  obtain ⟨⟨⟨h1, h2⟩, _, hg⟩, ht⟩ := clif_parts h
  have e : d.gs.getD k ⟨0, 0, 0⟩ = d.gs[k] := by simp [List.getD, hk]
  have h3 := hg d.gs[k] (List.getElem_mem hk)
  have h4 := ht d.gs[k] (List.getElem_mem hk)
  rw [e]
  generalize d.gs[k] = g at h3 h4
  obtain ⟨x, y, z⟩ := g
  have h5 := of_decide_eq_false h4
  unfold GateOk at h3
  dsimp only at h3 h5
  obtain ⟨kk, rfl⟩ : ∃ kk : Nat, x = (kk : Int) := ⟨x.toNat, by omega⟩
  obtain ⟨a, rfl⟩ : ∃ a : Nat, y = (a : Int) := ⟨y.toNat, by omega⟩
  obtain ⟨b, rfl⟩ : ∃ b : Nat, z = (b : Int) := ⟨z.toNat, by omega⟩
  refine ⟨kk, a, b, rfl, ?_, by omega, by omega⟩
  have hab : (a : Int) ≠ (b : Int) ↔ a ≠ b := by omega
  rw [hab] at h3
  omega
theorem compX_lt {n : Nat} (h5 : n ≤ 5) {X Z L : List PN} (hX : LtL n X) (hZ : LtL n Z) : LtL n (compL imgN X Z n L) := LtL.comp hX hZ
theorem tCount_no {d : Circ} (h : circB d = false) : tCount d = 0 := by unfold tCount; rw [h]; rfl
theorem tCount_pos {d : Circ} (h : (tCount d == 0) = false) : 0 < tCount d := by
  have h1 : ¬ tCount d = 0 := by simpa using h
  have h2 : 0 ≤ tCount d := by unfold tCount; split <;> omega
  omega
theorem tof_lt {d : Circ} {n : Nat} (h : clifB d = true) (hn : d.n = (n : Int)) : ∀ k, k ≤ d.gs.length → LtL n (tofX n d.gs k) ∧ LtL n (tofZ n d.gs k)
  | 0, _ => ⟨idPX_lt (clif_n h hn).2, idPZ_lt (clif_n h hn).2⟩
  | k + 1, hk => by
    obtain ⟨kk, a, b, hg, hgt⟩ := clif_gate h hn (show k < d.gs.length by omega)
    rw [tofX_succ n (by omega) hg, tofZ_succ n (by omega) hg]
    exact ⟨LtL.comp (gtX_lt (clif_n h hn).2 hgt) (gtZ_lt (clif_n h hn).2 hgt), LtL.comp (gtX_lt (clif_n h hn).2 hgt) (gtZ_lt (clif_n h hn).2 hgt)⟩
/-- What TableauOf answers. -/
noncomputable def tofG (d : Circ) : Option Tab := if clifB d = true then some ⟨d.n, pes (tofX d.n.toNat d.gs d.gs.length), pes (tofZ d.n.toNat d.gs d.gs.length)⟩ else none
theorem tofG_len (d : Circ) : ((tofG d).getD Tab.zero).xs.length ≤ 1000000 ∧ ((tofG d).getD Tab.zero).zs.length ≤ 1000000 := by
  unfold tofG; split
  · next h =>
    obtain ⟨n, hn, _, h5⟩ := clif_nat h
    simp [pes_len, tofX_len, tofZ_len]; omega
  · simp [Tab.zero]
end Go.Proofs.Ytjdffjnennodaaa
