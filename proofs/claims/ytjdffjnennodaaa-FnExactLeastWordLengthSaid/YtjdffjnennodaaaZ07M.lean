/- Tableaux of Pauli operators, plain: valid ones, images, products of tableaux. -/
import Derived.Test.YtjdffjnennodaaaZ04Pau0
import Derived.Test.YtjdffjnennodaaaZ06Dat
import Derived.Test.YtjdffjnennodaaaZ01M
import Derived.Test.YtjdffjnennodaaaZ00Base
namespace Go.Proofs.Ytjdffjnennodaaa
set_option linter.unusedSimpArgs false
set_option linter.unusedVariables false
set_option linter.unnecessarySimpa false
set_option maxRecDepth 200000
open Go.ChangeShapes Go.WideShapes Go.ChangeAt Go.RowKit

def tn (g : E3) : PN := ⟨g.a.toNat, g.b.toNat, g.c.toNat⟩
/-- A valid operator on n qubits. -/
def PauOk (n : Int) (g : E3) : Prop := (0 ≤ g.a ∧ g.a ≤ 3) ∧ (0 ≤ g.b ∧ g.b ≤ 2 ^ n.toNat - 1) ∧ (0 ≤ g.c ∧ g.c ≤ 2 ^ n.toNat - 1)
instance (n : Int) (g : E3) : Decidable (PauOk n g) := by unfold PauOk; infer_instance
/-- A valid image. -/
def ImOk (n : Int) (g : E3) : Prop := PauOk n g ∧ g.a % 2 = 0
instance (n : Int) (g : E3) : Decidable (ImOk n g) := by unfold ImOk; infer_instance
def pauB (n : Int) (g : E3) : Bool := decide ((1 ≤ n ∧ n ≤ 5) ∧ PauOk n g)
theorem pow_5 {n : Int} (h0 : 1 ≤ n) (h1 : n ≤ 5) : (2 : Int) ^ n.toNat ≤ 32 ∧ 2 ≤ (2 : Int) ^ n.toNat := by
  obtain h | h | h | h | h : n = 1 ∨ n = 2 ∨ n = 3 ∨ n = 4 ∨ n = 5 := by omega
  all_goals subst h; decide
theorem PauOk.nat {n : Int} {g : E3} (h0 : 1 ≤ n) (h1 : n ≤ 5) (h : PauOk n g) : g = (tn g).e ∧ PNok (tn g) := by
  obtain ⟨⟨a0, a1⟩, ⟨b0, b1⟩, ⟨c0, c1⟩⟩ := h
  have hp := (pow_5 h0 h1).1
  obtain ⟨a, b, c⟩ := g
  dsimp only at *
  refine ⟨?_, ⟨?_, ?_, ?_⟩⟩
  · unfold tn PN.e; dsimp only; congr 1 <;> omega
  all_goals (unfold tn; dsimp only; omega)
theorem tn_e (a : PN) : tn a.e = a := by unfold tn PN.e; simp
/-- Two images stand as those of a tableau: they commute unless they are of one qubit. -/
def pairB (n : Int) (L : List E3) (i j : Nat) : Bool := commN (tn (L.getD i ⟨0, 0, 0⟩)) (tn (L.getD j ⟨0, 0, 0⟩)) != decide ((i : Int) = (j : Int) + n)
def TabOk (d : Tab) : Prop :=
  (1 ≤ d.n ∧ d.n ≤ 5) ∧ (d.xs.length : Int) = d.n ∧ (d.zs.length : Int) = d.n ∧ (∀ i, i < d.xs.length + d.zs.length → ImOk d.n ((d.xs ++ d.zs).getD i ⟨0, 0, 0⟩)) ∧
    ∀ i, i < d.xs.length + d.zs.length → ∀ j, j < i → pairB d.n (d.xs ++ d.zs) i j = true
noncomputable instance (d : Tab) : Decidable (TabOk d) := Classical.propDecidable _
noncomputable def tabB (d : Tab) : Bool := decide (TabOk d)
/-- The image of an operator, as the program makes it: after k qubits. -/
def imgN (xs zs : List PN) (p : PN) : Nat → PN
  | 0 => ⟨(p.p + pop (p.x &&& p.z)) % 4, 0, 0⟩
  | k + 1 =>
    let s1 := if p.x.testBit k = true then mulN (imgN xs zs p k) (xs.getD k ⟨0, 0, 0⟩) else imgN xs zs p k
    if p.z.testBit k = true then mulN s1 (zs.getD k ⟨0, 0, 0⟩) else s1
/-- The same, as the reference makes it. -/
def imgS (xs zs : List PN) (p : PN) : Nat → PN
  | 0 => ⟨p.p, 0, 0⟩
  | k + 1 =>
    let s1 := if p.x.testBit k = true then mulN (imgS xs zs p k) (xs.getD k ⟨0, 0, 0⟩) else imgS xs zs p k
    let s2 := if p.z.testBit k = true then mulN s1 (zs.getD k ⟨0, 0, 0⟩) else s1
    if p.x.testBit k = true ∧ p.z.testBit k = true then ⟨(s2.p + 1) % 4, s2.x, s2.z⟩ else s2
def cb (m k : Nat) : Nat := (setB m k).length
theorem cb_succ (m k : Nat) : cb m (k + 1) = cb m k + bt m k := by
  unfold cb bt; rw [setB_succ]
  cases h : m.testBit k <;> simp
def Shift (s t : PN) (u : Nat) : Prop := s.x = t.x ∧ s.z = t.z ∧ s.p ≤ 3 ∧ t.p ≤ 3 ∧ s.p % 4 = (t.p + u) % 4
theorem Shift.mul {s t : PN} {u : Nat} (h : Shift s t u) (b : PN) : Shift (mulN s b) (mulN t b) u := by
  obtain ⟨h1, h2, h3, h4, h5⟩ := h
  refine ⟨by unfold mulN; dsimp only; rw [h1], by unfold mulN; dsimp only; rw [h2], ?_, ?_, ?_⟩
  · unfold mulN; dsimp only; omega
  · unfold mulN; dsimp only; omega
  · unfold mulN; dsimp only; rw [h1, h2]; omega
theorem img_shift (xs zs : List PN) (p : PN) (hp : p.p ≤ 3) : ∀ k, Shift (imgN xs zs p k) (imgS xs zs p k) (pop (p.x &&& p.z) + 3 * cb (p.x &&& p.z) k)
  | 0 => by
    refine ⟨rfl, rfl, by unfold imgN; dsimp only; omega, by unfold imgS; dsimp only; omega, ?_⟩
    unfold imgN imgS cb setB; simp
  | k + 1 => by
    have ih := img_shift xs zs p hp k
    have hb : bt (p.x &&& p.z) k = (p.x.testBit k && p.z.testBit k).toNat := by unfold bt; rw [Nat.testBit_and]
    rw [cb_succ, hb]
    unfold imgN imgS
    cases h1 : p.x.testBit k <;> cases h2 : p.z.testBit k
    · simpa using ih
    · simpa using ih.mul _
    · simpa using ih.mul _
    · have i2 := (ih.mul (xs.getD k ⟨0, 0, 0⟩)).mul (zs.getD k ⟨0, 0, 0⟩)
      obtain ⟨a1, a2, a3, a4, a5⟩ := i2
      simp only [if_true, and_self, Bool.and_self, Bool.toNat_true]
      refine ⟨a1, a2, a3, by dsimp only; omega, by dsimp only; omega⟩
theorem PN.eq_of {s t : PN} (h0 : s.p = t.p) (h1 : s.x = t.x) (h2 : s.z = t.z) : s = t := by
  cases s; cases t; dsimp only at *; rw [h0, h1, h2]
theorem cb_all {m n : Nat} (h : m < 2 ^ n) (hn : n ≤ 64) : cb m n = pop m := by
  unfold cb pop
  rw [setB_eq h (Nat.lt_of_lt_of_le h (Nat.pow_le_pow_right (by omega) hn))]
theorem img_same (xs zs : List PN) {p : PN} {n : Nat} (hp : p.p ≤ 3) (hx : p.x < 2 ^ n) (hn : n ≤ 64) : imgS xs zs p n = imgN xs zs p n := by
  obtain ⟨h1, h2, h3, h4, h5⟩ := img_shift xs zs p hp n
  have hlt : p.x &&& p.z < 2 ^ n := Nat.lt_of_le_of_lt Nat.and_le_left hx
  rw [cb_all hlt hn] at h5
  exact PN.eq_of (by omega) h1.symm h2.symm
structure PLok (L : List PN) : Prop where
  all : ∀ a ∈ L, PNok a
theorem PLok.get {L : List PN} (h : PLok L) (i : Nat) : PNok (L.getD i ⟨0, 0, 0⟩) := by
  by_cases hi : i < L.length
  · have e : L.getD i ⟨0, 0, 0⟩ = L[i] := by simp [List.getD, hi]
    rw [e]; exact h.all _ (List.getElem_mem hi)
  · have e : L.getD i ⟨0, 0, 0⟩ = ⟨0, 0, 0⟩ := by simp [List.getD, hi]
    rw [e]; exact ⟨by decide, by decide, by decide⟩
theorem imgN_ok {xs zs : List PN} {p : PN} (hx : PLok xs) (hz : PLok zs) : ∀ k, PNok (imgN xs zs p k)
  | 0 => ⟨by unfold imgN; dsimp only; omega, by simp [imgN], by simp [imgN]⟩
  | k + 1 => by
    have ih := imgN_ok (p := p) hx hz k
    unfold imgN
    dsimp only
    split
    · split
      · exact mulN_ok (mulN_ok ih (hx.get k)) (hz.get k)
      · exact mulN_ok ih (hz.get k)
    · split
      · exact mulN_ok ih (hx.get k)
      · exact ih
theorem imgS_ok {xs zs : List PN} {p : PN} (hp : p.p ≤ 3) (hx : PLok xs) (hz : PLok zs) : ∀ k, PNok (imgS xs zs p k)
  | 0 => ⟨hp, by simp [imgS], by simp [imgS]⟩
  | k + 1 => by
    have ih := imgS_ok (p := p) hp hx hz k
    have h1 : PNok (if p.x.testBit k = true then mulN (imgS xs zs p k) (xs.getD k ⟨0, 0, 0⟩) else imgS xs zs p k) := by
      split
      · exact mulN_ok ih (hx.get k)
      · exact ih
    have h2 : PNok (if p.z.testBit k = true then mulN (if p.x.testBit k = true then mulN (imgS xs zs p k) (xs.getD k ⟨0, 0, 0⟩) else imgS xs zs p k) (zs.getD k ⟨0, 0, 0⟩) else (if p.x.testBit k = true then mulN (imgS xs zs p k) (xs.getD k ⟨0, 0, 0⟩) else imgS xs zs p k)) := by
      split
      · exact mulN_ok h1 (hz.get k)
      · exact h1
    unfold imgS
    dsimp only
    split
    · exact ⟨by dsimp only; omega, h2.x, h2.z⟩
    · exact h2
end Go.Proofs.Ytjdffjnennodaaa
namespace Go.Proofs.Ytjdffjnennodaaa
set_option linter.unusedSimpArgs false
set_option linter.unusedVariables false
set_option linter.unnecessarySimpa false
set_option maxRecDepth 200000
open Go.ChangeShapes Go.WideShapes Go.ChangeAt Go.RowKit

theorem toNat_u64 (x : Nat) (h1 : x < 18446744073709551616) : (BitVec.ofInt 64 (x : Int)).toNat = x := by
  rw [BitVec.ofInt_natCast, BitVec.toNat_ofNat]
  exact Nat.mod_eq_of_lt (by omega)
theorem bits_andU (x y : Nat) (hx : x < 9223372036854775808) (hy : y < 9223372036854775808) : bits .and .u64 (x : Int) (y : Int) = ((x &&& y : Nat) : Int) := by
  show IntKind.u64.wrap ((BitVec.ofInt 64 (x : Int) &&& BitVec.ofInt 64 (y : Int)).toNat : Int) = _
  rw [BitVec.toNat_and, toNat_u64 _ (by omega), toNat_u64 _ (by omega)]
  have : x &&& y ≤ x := Nat.and_le_left
  exact IntWalk.u64_in _ (by omega)
theorem and_127 (y : Nat) (hy : y < 9223372036854775808) : bits .and .i64 (y : Int) 127 = ((y % 128 : Nat) : Int) := by
  have h := bits_and y 127 hy (by omega)
  have e : y &&& 127 = y % 128 := Nat.and_two_pow_sub_one_eq_mod y 7
  rw [e] at h; exact h
theorem S1_le (k x : Nat) : S1 k x ≤ x / 2 + x := by unfold S1; have := @Nat.and_le_left (x / 2) (repB 85 k); have := @Nat.and_le_left x (repB 85 k); omega
theorem OnesCount64_any (x : Nat) (w : World) (hx : x < 4294967296) :
    Calls Try.prog 69 #[.int .u64 (x : Int)] w fun e w' => e = .returned (.int .i64 (pop x : Int)) ∧ w = w' := by
  obtain ⟨a1, h1⟩ : ∃ a, a = x / 2 &&& repB 85 8 := ⟨_, rfl⟩
  obtain ⟨a2, h2⟩ : ∃ a, a = x &&& repB 85 8 := ⟨_, rfl⟩
  have l1 : a1 ≤ x / 2 := h1 ▸ Nat.and_le_left
  have l2 : a2 ≤ x := h2 ▸ Nat.and_le_left
  obtain ⟨b1, h3⟩ : ∃ b, b = (a1 + a2) / 4 &&& repB 51 8 := ⟨_, rfl⟩
  obtain ⟨b2, h4⟩ : ∃ b, b = (a1 + a2) &&& repB 51 8 := ⟨_, rfl⟩
  have l3 : b1 ≤ (a1 + a2) / 4 := h3 ▸ Nat.and_le_left
  have l4 : b2 ≤ a1 + a2 := h4 ▸ Nat.and_le_left
  obtain ⟨y, h5⟩ : ∃ y, y = ((b1 + b2) / 16 + (b1 + b2)) &&& repB 15 8 := ⟨_, rfl⟩
  have l5 : y ≤ (b1 + b2) / 16 + (b1 + b2) := h5 ▸ Nat.and_le_left
  have m0 : repB 85 8 = 6148914691236517205 := by decide
  have m1 : repB 51 8 = 3689348814741910323 := by decide
  have m2 : repB 15 8 = 1085102592571150095 := by decide
  have e1 : bits .and .u64 ((x : Int) / 2) 6148914691236517205 = (a1 : Int) := by
    have := bits_andU (x / 2) 6148914691236517205 (by omega) (by omega); rw [h1, m0, ← this]; simp
  have e2 : bits .and .u64 (x : Int) 6148914691236517205 = (a2 : Int) := by
    have := bits_andU x 6148914691236517205 (by omega) (by omega); rw [h2, m0, ← this]; simp
  have e3 : bits .and .u64 (((a1 : Int) + (a2 : Int)) / 4) 3689348814741910323 = (b1 : Int) := by
    have := bits_andU ((a1 + a2) / 4) 3689348814741910323 (by omega) (by omega); rw [h3, m1, ← this]; simp
  have e4 : bits .and .u64 ((a1 : Int) + (a2 : Int)) 3689348814741910323 = (b2 : Int) := by
    have := bits_andU (a1 + a2) 3689348814741910323 (by omega) (by omega); rw [h4, m1, ← this]; simp
  have e5 : bits .and .u64 (((b1 : Int) + (b2 : Int)) / 16 + ((b1 : Int) + (b2 : Int))) 1085102592571150095 = (y : Int) := by
    have := bits_andU ((b1 + b2) / 16 + (b1 + b2)) 1085102592571150095 (by omega) (by omega); rw [h5, m2, ← this]; simp
  obtain ⟨y1, h6⟩ : ∃ y1, y1 = y + y / 256 := ⟨_, rfl⟩
  obtain ⟨y2, h7⟩ : ∃ y2, y2 = y1 + y1 / 65536 := ⟨_, rfl⟩
  obtain ⟨y3, h8⟩ : ∃ y3, y3 = y2 + y2 / 4294967296 := ⟨_, rfl⟩
  obtain ⟨r1, r2⟩ := pop_sum x y y1 y2 y3 (by rw [h5, show b1 + b2 = S2 8 (a1 + a2) from by rw [h3, h4]; rfl, show a1 + a2 = S1 8 x from by rw [h1, h2]; rfl]; rfl) h6 h7 h8
  have e8 : bits .and .i64 (y3 : Int) 127 = (pop x : Int) := by rw [and_127 _ r1, r2]
  have s6 : ((y : Int) + (y : Int) / 256) = (y1 : Int) := by omega
  have s7 : ((y1 : Int) + (y1 : Int) / 65536) = (y2 : Int) := by omega
  have s8 : ((y2 : Int) + (y2 : Int) / 4294967296) = (y3 : Int) := by omega
  have k1 : y ≤ 8589934592 := by omega
  have k2 : y1 ≤ 17179869184 := by omega
  have k3 : y2 ≤ 34359738368 := by omega
  have k4 : a1 ≤ 2147483648 := by omega
  have k5 : a2 ≤ 4294967296 := by omega
  have k6 : b1 ≤ 4294967296 := by omega
  have k7 : b2 ≤ 8589934592 := by omega
  have k8 : y3 ≤ 34359738368 + 8 := by omega
  clear h1 h2 h3 h4 h5 h6 h7 h8 m0 m1 m2 r2 l1 l2 l3 l4 l5
  go_enter Try.func69, Try.ntmps69
  go_wp2_with fail
  go_ret
  exact ⟨rfl, rfl⟩
theorem OnesCount_any (x : Nat) (w : World) (hx : x < 4294967296) :
    Calls Try.prog 60 #[.int .u64 (x : Int)] w fun e w' => e = .returned (.int .i64 (pop x : Int)) ∧ w = w' := by
  go_enter Try.func60, Try.ntmps60
  go_wp2_with fail
  refine (OnesCount64_any x _ hx).mono ?_; rintro e w' ⟨rfl, rfl⟩
  go_wp2_with fail
  go_ret
  exact ⟨rfl, rfl⟩
end Go.Proofs.Ytjdffjnennodaaa
namespace Go.Proofs.Ytjdffjnennodaaa
set_option linter.unusedSimpArgs false
set_option linter.unusedVariables false
set_option linter.unnecessarySimpa false
set_option maxRecDepth 200000
open Go.ChangeShapes Go.WideShapes Go.ChangeAt Go.RowKit
theorem cell_drew {w : World} {a : Addr} {u : Value} (h : w.cell? a = some u) : w.drew.cell? a = some u := h
theorem frz_drew {w : World} {a : Addr} (h : w.frozen? a = false) : w.drew.frozen? a = false := h
theorem cell_set_far {w : World} {b nb o o2 : Nat} {u v : Value} (hne : b ≠ nb) (h : w.cell? ⟨b, o, none⟩ = some u) : (w.setCell ⟨nb, o2, none⟩ v).cell? ⟨b, o, none⟩ = some u :=
  (World.cell?_setCell_other _ _ _ _ (fun e => hne (by injection e with e1; exact e1.symm))).trans h
theorem calls_below {f : FuncId} {args : Array Value} {w : World} {Q : Ending → Prop} (h : Calls Try.prog f args w fun e w' => Q e ∧ w = w') : Calls Try.prog f args w fun e w' => Q e ∧ Below w.heap.size w w' :=
  h.mono fun _ _ ⟨h1, h2⟩ => ⟨h1, h2 ▸ Below.refl _ _⟩
theorem new_cell (W : World) (cs : Array Value) (t : TypeId) (j : Nat) (v : Value) (h : cs[j]? = some v) : (W.alloc (.cells cs t)).cell? ⟨W.heap.size, j, none⟩ = some v := by
  rw [World.cell?_alloc_at _ _ _ _ rfl]; exact h
theorem new_frz (W : World) (cs : Array Value) (t : TypeId) (j : Nat) : (W.alloc (.cells cs t)).frozen? ⟨W.heap.size, j, none⟩ = false := World.frozen?_alloc_at _ _ _ _ rfl
end Go.Proofs.Ytjdffjnennodaaa
