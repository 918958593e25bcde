/- Two tableaux, one after the other: ComposeTableaux in the program and in the reference. -/
import Derived.Test.YtjdffjnennodaaaZ18Comp2
import Derived.Test.YtjdffjnennodaaaZ24Img3
import Derived.Test.YtjdffjnennodaaaZ27Tab3a
namespace Go.Proofs.Ytjdffjnennodaaa
set_option linter.unusedSimpArgs false
set_option linter.unusedVariables false
set_option linter.unnecessarySimpa false
set_option maxRecDepth 200000
open Go.ChangeShapes Go.WideShapes Go.ChangeAt Go.RowKit

noncomputable def cmpG (d1 d2 : Tab) : Option Tab := if TabOk d1 ∧ TabOk d2 ∧ d1.n = d2.n then some ⟨d1.n, pes (compL imgN (d2.xs.map tn) (d2.zs.map tn) d1.n.toNat (d1.xs.map tn)), pes (compL imgN (d2.xs.map tn) (d2.zs.map tn) d1.n.toNat (d1.zs.map tn))⟩ else none
theorem cmpG_some {d1 d2 : Tab} (h1 : TabOk d1) (h2 : TabOk d2) (h3 : d1.n = d2.n) : cmpG d1 d2 = some ⟨d1.n, pes (compL imgN (d2.xs.map tn) (d2.zs.map tn) d1.n.toNat (d1.xs.map tn)), pes (compL imgN (d2.xs.map tn) (d2.zs.map tn) d1.n.toNat (d1.zs.map tn))⟩ := if_pos ⟨h1, h2, h3⟩
theorem cmpG_len (d1 d2 : Tab) : ((cmpG d1 d2).getD Tab.zero).xs.length ≤ 1000000 ∧ ((cmpG d1 d2).getD Tab.zero).zs.length ≤ 1000000 := by
  unfold cmpG; split
  · next h =>
    obtain ⟨⟨a1, a2⟩, a3, a4, _⟩ := h.1
    simp [pes, compL]; omega
  · simp [Tab.zero]
theorem compL_same {n : Nat} {X Z : List PN} (hn : n ≤ 5) {L : List PN} (h : PLok L) (hl : ∀ a ∈ L, a.x < 2 ^ n) : compL imgS X Z n L = compL imgN X Z n L := by
  unfold compL
  apply List.map_congr_left
  intro a ha
  exact img_same X Z (h.all a ha).p (hl a ha) (by omega)
theorem tab_lt {d : Tab} {m : Nat} (h : TabOk d) (hm : d.n = (m : Int)) : (∀ a ∈ d.xs.map tn, a.x < 2 ^ m) ∧ (∀ a ∈ d.zs.map tn, a.x < 2 ^ m) := by
  obtain ⟨⟨h1, h2⟩, h3, h4, h5, _⟩ := h
  constructor
  · intro a ha
    obtain ⟨g, hg, rfl⟩ := List.mem_map.1 ha
    obtain ⟨i, hi, rfl⟩ := List.mem_iff_getElem.1 hg
    have h6 := (h5 i (by omega)).1
    have e : (d.xs ++ d.zs).getD i ⟨0, 0, 0⟩ = d.xs[i] := by simp [List.getD, List.getElem?_append_left hi, hi]
    rw [e] at h6
    exact pau_lt (by omega) h6 hm rfl
  · intro a ha
    obtain ⟨g, hg, rfl⟩ := List.mem_map.1 ha
    obtain ⟨i, hi, rfl⟩ := List.mem_iff_getElem.1 hg
    have h6 := (h5 (d.xs.length + i) (by omega)).1
    have e : (d.xs ++ d.zs).getD (d.xs.length + i) ⟨0, 0, 0⟩ = d.zs[i] := by simp [List.getD, List.getElem?_append_right, hi]
    rw [e] at h6
    exact pau_lt (by omega) h6 hm rfl
end Go.Proofs.Ytjdffjnennodaaa
namespace Go.Proofs.Ytjdffjnennodaaa
set_option linter.unusedSimpArgs false
set_option linter.unusedVariables false
set_option linter.unnecessarySimpa false
set_option maxRecDepth 200000
open Go.ChangeShapes Go.WideShapes Go.ChangeAt Go.RowKit

/-- Operators whose masks lie below 2^n. -/
structure LtL (n : Nat) (L : List PN) : Prop where
  ok : PLok L
  lt : ∀ a ∈ L, a.x < 2 ^ n ∧ a.z < 2 ^ n
theorem LtL.get {n : Nat} {L : List PN} (h : LtL n L) (i : Nat) : (L.getD i ⟨0, 0, 0⟩).x < 2 ^ n ∧ (L.getD i ⟨0, 0, 0⟩).z < 2 ^ n := by
  by_cases hi : i < L.length
  · have e : L.getD i ⟨0, 0, 0⟩ = L[i] := by simp [List.getD, hi]
    rw [e]; exact h.lt _ (List.getElem_mem hi)
  · have e : L.getD i ⟨0, 0, 0⟩ = ⟨0, 0, 0⟩ := by simp [List.getD, hi]
    rw [e]; exact ⟨Nat.two_pow_pos n, Nat.two_pow_pos n⟩
theorem mulN_lt {n : Nat} {a b : PN} (ha : a.x < 2 ^ n ∧ a.z < 2 ^ n) (hb : b.x < 2 ^ n ∧ b.z < 2 ^ n) : (mulN a b).x < 2 ^ n ∧ (mulN a b).z < 2 ^ n :=
  ⟨Nat.xor_lt_two_pow ha.1 hb.1, Nat.xor_lt_two_pow ha.2 hb.2⟩
theorem imgN_lt {n : Nat} {X Z : List PN} (hX : LtL n X) (hZ : LtL n Z) (p : PN) : ∀ k, (imgN X Z p k).x < 2 ^ n ∧ (imgN X Z p k).z < 2 ^ n
  | 0 => ⟨Nat.two_pow_pos n, Nat.two_pow_pos n⟩
  | k + 1 => by
    have ih := imgN_lt hX hZ p k
    unfold imgN
    dsimp only
    split
    · split
      · exact mulN_lt (mulN_lt ih (hX.get k)) (hZ.get k)
      · exact mulN_lt ih (hZ.get k)
    · split
      · exact mulN_lt ih (hX.get k)
      · exact ih
theorem LtL.comp {n : Nat} {X Z L : List PN} (hX : LtL n X) (hZ : LtL n Z) : LtL n (compL imgN X Z n L) := by
  refine ⟨⟨fun a ha => ?_⟩, fun a ha => ?_⟩
  · obtain ⟨p, _, rfl⟩ := List.mem_map.1 ha; exact imgN_ok hX.ok hZ.ok n
  · obtain ⟨p, _, rfl⟩ := List.mem_map.1 ha; exact imgN_lt hX hZ p n
theorem compL_len (f : List PN → List PN → PN → Nat → PN) (X Z : List PN) (n : Nat) (L : List PN) : (compL f X Z n L).length = L.length := by simp [compL]
theorem TabOk.lt {d : Tab} {m : Nat} (h : TabOk d) (hm : d.n = (m : Int)) : LtL m (d.xs.map tn) ∧ LtL m (d.zs.map tn) := by
  obtain ⟨m2, hm2, _, _, _, _, _, _, okx, okz⟩ := h.parts
  obtain rfl : m2 = m := by omega
  obtain ⟨⟨h1, h2⟩, h3, h4, h5, _⟩ := h
  have key : ∀ g : E3, PauOk d.n g → (tn g).x < 2 ^ m2 ∧ (tn g).z < 2 ^ m2 := by
    intro g hg
    obtain ⟨_, ⟨b0, b1⟩, c0, c1⟩ := hg
    rw [hm2, Int.toNat_natCast] at b1 c1
    have e : (2 : Int) ^ m2 = ((2 ^ m2 : Nat) : Int) := by simp
    rw [e] at b1 c1
    have hp := Nat.two_pow_pos m2
    unfold tn; dsimp only
    generalize 2 ^ m2 = q at *
    omega
  refine ⟨⟨okx, fun a ha => ?_⟩, ⟨okz, fun a ha => ?_⟩⟩
  · obtain ⟨g, hg, rfl⟩ := List.mem_map.1 ha
    obtain ⟨i, hi, rfl⟩ := List.mem_iff_getElem.1 hg
    have h6 := (h5 i (by omega)).1
    have e : (d.xs ++ d.zs).getD i ⟨0, 0, 0⟩ = d.xs[i] := by simp [List.getD, List.getElem?_append_left hi, hi]
    rw [e] at h6
    exact key _ h6
  · obtain ⟨g, hg, rfl⟩ := List.mem_map.1 ha
    obtain ⟨i, hi, rfl⟩ := List.mem_iff_getElem.1 hg
    have h6 := (h5 (d.xs.length + i) (by omega)).1
    have e : (d.xs ++ d.zs).getD (d.xs.length + i) ⟨0, 0, 0⟩ = d.zs[i] := by simp [List.getD, List.getElem?_append_right, hi]
    rw [e] at h6
    exact key _ h6
theorem compL_samet {n : Nat} {X Z : List PN} (hn : n ≤ 5) {L : List PN} (h : LtL n L) : compL imgS X Z n L = compL imgN X Z n L :=
  compL_same hn h.ok (fun a ha => (h.lt a ha).1)
/-- The identity's images. -/
def idPX (n : Nat) : List PN := (List.range n).map fun q => ⟨0, 2 ^ q, 0⟩
def idPZ (n : Nat) : List PN := (List.range n).map fun q => ⟨0, 0, 2 ^ q⟩
theorem idPX_len (n : Nat) : (idPX n).length = n := by simp [idPX]
theorem idPZ_len (n : Nat) : (idPZ n).length = n := by simp [idPZ]
theorem idX_pes (n : Nat) : idX n = pes (idPX n) := by
  unfold idX pes idPX; rw [List.map_map]; apply List.map_congr_left; intro q _; simp [PN.e]
theorem idZ_pes (n : Nat) : idZ n = pes (idPZ n) := by
  unfold idZ pes idPZ; rw [List.map_map]; apply List.map_congr_left; intro q _; simp [PN.e]
theorem idPX_lt {n : Nat} (h : n ≤ 5) : LtL n (idPX n) := by
  refine ⟨⟨fun a ha => ?_⟩, fun a ha => ?_⟩
  all_goals
    obtain ⟨q, hq, rfl⟩ := List.mem_map.1 ha
    have hq := List.mem_range.1 hq
    have h2 : 2 ^ q < 2 ^ n := Nat.pow_lt_pow_right (by omega) hq
    have h3 : 2 ^ n ≤ 2 ^ 5 := Nat.pow_le_pow_right (by omega) h
  · exact ⟨by simp, by dsimp only; omega, by simp⟩
  · exact ⟨h2, Nat.two_pow_pos n⟩
theorem idPZ_lt {n : Nat} (h : n ≤ 5) : LtL n (idPZ n) := by
  refine ⟨⟨fun a ha => ?_⟩, fun a ha => ?_⟩
  all_goals
    obtain ⟨q, hq, rfl⟩ := List.mem_map.1 ha
    have hq := List.mem_range.1 hq
    have h2 : 2 ^ q < 2 ^ n := Nat.pow_lt_pow_right (by omega) hq
    have h3 : 2 ^ n ≤ 2 ^ 5 := Nat.pow_le_pow_right (by omega) h
  · exact ⟨by simp, by simp, by dsimp only; omega⟩
  · exact ⟨Nat.two_pow_pos n, h2⟩
theorem PN.e_inj {a b : PN} (h : a.e = b.e) : a = b := by
  unfold PN.e at h; injection h with h1 h2 h3
  exact PN.eq_of (by omega) (by omega) (by omega)
theorem pes_inj {L M : List PN} : pes L = pes M ↔ L = M := by
  constructor
  · intro h
    unfold pes at h
    exact List.map_inj_right (fun _ _ => PN.e_inj) |>.1 h
  · rintro rfl; rfl
/-- The power k + 1 of a tableau. -/
def powX (X Z : List PN) (n : Nat) : Nat → List PN
  | 0 => X
  | k + 1 => compL imgN X Z n (powX X Z n k)
def powZ (X Z : List PN) (n : Nat) : Nat → List PN
  | 0 => Z
  | k + 1 => compL imgN X Z n (powZ X Z n k)
theorem powX_len (X Z : List PN) (n : Nat) : ∀ k, (powX X Z n k).length = X.length
  | 0 => rfl
  | k + 1 => by unfold powX; rw [compL_len, powX_len X Z n k]
theorem powZ_len (X Z : List PN) (n : Nat) : ∀ k, (powZ X Z n k).length = Z.length
  | 0 => rfl
  | k + 1 => by unfold powZ; rw [compL_len, powZ_len X Z n k]
theorem powX_lt {X Z : List PN} {n : Nat} (hX : LtL n X) (hZ : LtL n Z) : ∀ k, LtL n (powX X Z n k)
  | 0 => hX
  | k + 1 => LtL.comp hX hZ
theorem powZ_lt {X Z : List PN} {n : Nat} (hX : LtL n X) (hZ : LtL n Z) : ∀ k, LtL n (powZ X Z n k)
  | 0 => hZ
  | k + 1 => LtL.comp hX hZ
/-- Is the power k + 1 the identity? -/
def ordAt (X Z : List PN) (n k : Nat) : Bool := decide (powX X Z n k = idPX n ∧ powZ X Z n k = idPZ n)
def OrdTo (X Z : List PN) (n k : Nat) : Prop := ∀ j, j < k → ordAt X Z n j = false
theorem OrdTo.next {X Z : List PN} {n k : Nat} (h : OrdTo X Z n k) (h2 : ordAt X Z n k = false) : OrdTo X Z n (k + 1) := by
  intro j hj
  by_cases e : j = k
  · subst e; exact h2
  · exact h j (by omega)
def ordN (X Z : List PN) (n : Nat) : Option Nat := (List.range 1000).find? (ordAt X Z n)
theorem ord_yes {X Z : List PN} {n k : Nat} (h : OrdTo X Z n k) (hk : k < 1000) (h2 : ordAt X Z n k = true) : ordN X Z n = some k := by
  unfold ordN
  rw [List.find?_range_eq_some]
  exact ⟨h2, List.mem_range.2 hk, fun j hj => by rw [h j hj]; rfl⟩
theorem ord_no {X Z : List PN} {n : Nat} (h : OrdTo X Z n 1000) : ordN X Z n = none := by
  unfold ordN
  rw [List.find?_eq_none]
  intro j hj
  rw [h j (List.mem_range.1 hj)]; simp
/-- What OrderOf answers. -/
noncomputable def ordG (d : Tab) : Option Int := if TabOk d then (ordN (d.xs.map tn) (d.zs.map tn) d.n.toNat).map (fun k => (k : Int) + 1) else none
end Go.Proofs.Ytjdffjnennodaaa
namespace Go.Proofs.Ytjdffjnennodaaa
set_option linter.unusedSimpArgs false
set_option linter.unusedVariables false
set_option linter.unnecessarySimpa false
set_option maxRecDepth 200000
open Go.ChangeShapes Go.WideShapes Go.ChangeAt Go.RowKit

/-- 1 if two operators anticommute, else 0. -/
def sy (a b : PN) : Nat := (pop (a.x &&& b.z) + pop (a.z &&& b.x)) % 2
theorem sy_lt (a b : PN) : sy a b < 2 := Nat.mod_lt _ (by decide)
theorem commN_sy (a b : PN) : commN a b = (sy a b == 0) := rfl
theorem xorand_bt (a b c q : Nat) : (bt ((a ^^^ b) &&& c) q) % 2 = (bt (a &&& c) q + bt (b &&& c) q) % 2 := by
  unfold bt
  rw [Nat.testBit_and, Nat.testBit_xor, Nat.testBit_and, Nat.testBit_and]
  cases a.testBit q <;> cases b.testBit q <;> cases c.testBit q <;> rfl
theorem pop_xorand {a b c : Nat} (ha : a ≤ 31) (hb : b ≤ 31) : (pop ((a ^^^ b) &&& c)) % 2 = (pop (a &&& c) + pop (b &&& c)) % 2 := by
  rw [pop_5 (and31 (xor31 ha hb)), pop_5 (and31 ha), pop_5 (and31 hb)]
  have h0 := xorand_bt a b c 0; have h1 := xorand_bt a b c 1; have h2 := xorand_bt a b c 2; have h3 := xorand_bt a b c 3; have h4 := xorand_bt a b c 4
  unfold pop5
  omega
theorem sy_mul {a b : PN} (c : PN) (ha : PNok a) (hb : PNok b) : sy (mulN a b) c = (sy a c + sy b c) % 2 := by
  unfold sy mulN; dsimp only
  have h1 := pop_xorand (c := c.z) ha.x hb.x
  have h2 := pop_xorand (c := c.x) ha.z hb.z
  omega
theorem sy_comm (a b : PN) : sy a b = sy b a := by
  unfold sy
  rw [Nat.and_comm b.x a.z, Nat.and_comm b.z a.x, Nat.add_comm]
theorem sy_masks {a b : PN} (c : PN) (hx : a.x = b.x) (hz : a.z = b.z) : sy a c = sy b c := by unfold sy; rw [hx, hz]
theorem mul_par {a b : PN} (ha : PNok a) (hb : PNok b) : (mulN a b).p % 2 = (a.p + b.p + sy a b) % 2 := by
  have h1 := pop_xorand (a := a.x) (b := b.x) (c := a.z ^^^ b.z) ha.x hb.x
  have h2 := pop_xorand (a := a.z) (b := b.z) (c := a.x) ha.z hb.z
  have h3 := pop_xorand (a := a.z) (b := b.z) (c := b.x) ha.z hb.z
  rw [Nat.and_comm (a.z ^^^ b.z) a.x, Nat.and_comm a.z a.x, Nat.and_comm b.z a.x] at h2
  rw [Nat.and_comm (a.z ^^^ b.z) b.x, Nat.and_comm b.z b.x] at h3
  unfold mulN sy; dsimp only
  omega
/-- The images of a valid tableau. -/
structure Sym (m : Nat) (X Z : List PN) : Prop where
  m1 : 1 ≤ m
  m5 : m ≤ 5
  lx : X.length = m
  lz : Z.length = m
  ltx : LtL m X
  ltz : LtL m Z
  evx : ∀ q, (X.getD q ⟨0, 0, 0⟩).p % 2 = 0
  evz : ∀ q, (Z.getD q ⟨0, 0, 0⟩).p % 2 = 0
  xx : ∀ i j, i < m → j < m → sy (X.getD i ⟨0, 0, 0⟩) (X.getD j ⟨0, 0, 0⟩) = 0
  zz : ∀ i j, i < m → j < m → sy (Z.getD i ⟨0, 0, 0⟩) (Z.getD j ⟨0, 0, 0⟩) = 0
  xz : ∀ i j, i < m → j < m → sy (X.getD i ⟨0, 0, 0⟩) (Z.getD j ⟨0, 0, 0⟩) = if i = j then 1 else 0
theorem sy_self (a : PN) : sy a a = 0 := by unfold sy; rw [Nat.and_comm a.z a.x]; omega
theorem TabOk.sym {d : Tab} {m : Nat} (h : TabOk d) (hm : d.n = (m : Int)) : Sym m (d.xs.map tn) (d.zs.map tn) := by
  obtain ⟨m2, hm2, m1, m5, _, _, lx, lz, okx, okz⟩ := h.parts
  obtain rfl : m2 = m := by omega
  obtain ⟨ltx, ltz⟩ := h.lt hm
  obtain ⟨⟨h1, h2⟩, h3, h4, h5, h6⟩ := h
  have hx : d.xs.length = m2 := by omega
  have hz : d.zs.length = m2 := by omega
  have ex : ∀ i, i < m2 → tn ((d.xs ++ d.zs).getD i ⟨0, 0, 0⟩) = (d.xs.map tn).getD i ⟨0, 0, 0⟩ := by
    intro i hi
    simp [List.getD, List.getElem?_append_left (show i < d.xs.length by omega), show i < d.xs.length by omega]
  have ez : ∀ i, i < m2 → tn ((d.xs ++ d.zs).getD (i + m2) ⟨0, 0, 0⟩) = (d.zs.map tn).getD i ⟨0, 0, 0⟩ := by
    intro i hi
    simp [List.getD, List.getElem?_append_right (show d.xs.length ≤ i + m2 by omega), hx, show i < d.zs.length by omega]
  have pr : ∀ i j, i < m2 + m2 → j < i → commN (tn ((d.xs ++ d.zs).getD i ⟨0, 0, 0⟩)) (tn ((d.xs ++ d.zs).getD j ⟨0, 0, 0⟩)) = !decide (i = j + m2) := by
    intro i j hi hj
    have := h6 i (by omega) j hj
    unfold pairB at this
    rw [hm2] at this
    have e : decide ((i : Int) = (j : Int) + (m2 : Int)) = decide (i = j + m2) := by
      rw [Bool.eq_iff_iff, decide_eq_true_eq, decide_eq_true_eq]; omega
    rw [e] at this
    revert this
    cases commN (tn ((d.xs ++ d.zs).getD i ⟨0, 0, 0⟩)) (tn ((d.xs ++ d.zs).getD j ⟨0, 0, 0⟩)) <;> cases decide (i = j + m2) <;> simp
  have cz : ∀ a b : PN, commN a b = true → sy a b = 0 := fun a b h => by rw [commN_sy] at h; simpa using h
  have cn : ∀ a b : PN, commN a b = false → sy a b = 1 := fun a b h => by rw [commN_sy] at h; have := sy_lt a b; have : ¬ sy a b = 0 := by simpa using h
                                                                          omega
  have evd : ∀ i, i < m2 + m2 → (tn ((d.xs ++ d.zs).getD i ⟨0, 0, 0⟩)).p % 2 = 0 := by
    intro i hi
    have h7 := h5 i (by omega)
    have h8 := h7.1.1; have h9 := h7.2
    unfold tn; dsimp only; omega
  have xx0 : ∀ i j, i < m2 → j < i → sy ((d.xs.map tn).getD i ⟨0, 0, 0⟩) ((d.xs.map tn).getD j ⟨0, 0, 0⟩) = 0 := by
    intro i j hi hj
    have := pr i j (by omega) hj
    rw [ex i hi, ex j (by omega), show decide (i = j + m2) = false from decide_eq_false (by omega)] at this
    exact cz _ _ this
  have zz0 : ∀ i j, i < m2 → j < i → sy ((d.zs.map tn).getD i ⟨0, 0, 0⟩) ((d.zs.map tn).getD j ⟨0, 0, 0⟩) = 0 := by
    intro i j hi hj
    have := pr (i + m2) (j + m2) (by omega) (by omega)
    rw [ez i hi, ez j (by omega), show decide (i + m2 = j + m2 + m2) = false from decide_eq_false (by omega)] at this
    exact cz _ _ this
  refine ⟨m1, m5, lx, lz, ltx, ltz, fun q => ?_, fun q => ?_, fun i j hi hj => ?_, fun i j hi hj => ?_, fun i j hi hj => ?_⟩
  · by_cases hq : q < m2
    · rw [← ex q hq]; exact evd q (by omega)
    · have e : (d.xs.map tn).getD q ⟨0, 0, 0⟩ = ⟨0, 0, 0⟩ := by simp [List.getD, List.getElem?_eq_none (show d.xs.length ≤ q by omega)]
      rw [e]; rfl
  · by_cases hq : q < m2
    · rw [← ez q hq]; exact evd (q + m2) (by omega)
    · have e : (d.zs.map tn).getD q ⟨0, 0, 0⟩ = ⟨0, 0, 0⟩ := by simp [List.getD, List.getElem?_eq_none (show d.zs.length ≤ q by omega)]
      rw [e]; rfl
  · rcases Nat.lt_trichotomy i j with h | h | h
    · rw [sy_comm]; exact xx0 j i hj h
    · subst h; exact sy_self _
    · exact xx0 i j hi h
  · rcases Nat.lt_trichotomy i j with h | h | h
    · rw [sy_comm]; exact zz0 j i hj h
    · subst h; exact sy_self _
    · exact zz0 i j hi h
  · have := pr (j + m2) i (by omega) (by omega)
    rw [ez j hj, ex i hi] at this
    rw [sy_comm]
    by_cases e : i = j
    · subst e
      rw [show decide (i + m2 = i + m2) = true from decide_eq_true rfl] at this
      rw [if_pos rfl]; exact cn _ _ this
    · rw [show decide (j + m2 = i + m2) = false from decide_eq_false (by omega)] at this
      rw [if_neg e]; exact cz _ _ this
section
variable {m : Nat} {X Z : List PN}
theorem Sym.okN (S : Sym m X Z) (p : PN) (k : Nat) : PNok (imgN X Z p k) := imgN_ok S.ltx.ok S.ltz.ok k
/-- Which generators an image anticommutes with. -/
theorem Sym.img_z (S : Sym m X Z) (p : PN) (j : Nat) (hj : j < m) : ∀ k, k ≤ m → sy (imgN X Z p k) (Z.getD j ⟨0, 0, 0⟩) = if j < k ∧ p.x.testBit j = true then 1 else 0
  | 0, _ => by
    have h0 : pop 0 = 0 := by decide
    simp [imgN, sy, h0]
  | k + 1, hk => by
    have ih := S.img_z p j hj k (by omega)
    have hxz := S.xz k j (by omega) hj
    have hzz := S.zz k j (by omega) hj
    have o0 := S.okN p k
    have ox := S.ltx.ok.get k
    have oz := S.ltz.ok.get k
    have o1 : PNok (if p.x.testBit k = true then mulN (imgN X Z p k) (X.getD k ⟨0, 0, 0⟩) else imgN X Z p k) := by
      split
      · exact mulN_ok o0 ox
      · exact o0
    have e1 : sy (if p.x.testBit k = true then mulN (imgN X Z p k) (X.getD k ⟨0, 0, 0⟩) else imgN X Z p k) (Z.getD j ⟨0, 0, 0⟩) = if j < k + 1 ∧ p.x.testBit j = true then 1 else 0 := by
      by_cases hb : p.x.testBit k = true
      · rw [if_pos hb, sy_mul _ o0 ox, ih, hxz]
        by_cases e : k = j
        · subst e; simp [hb]
        · have : (j < k + 1) ↔ (j < k) := by omega
          rw [if_neg e]
          simp only [this]
          split <;> rfl
      · rw [if_neg hb, ih]
        by_cases e : k = j
        · subst e; simp [hb]
        · have : (j < k + 1) ↔ (j < k) := by omega
          simp only [this]
    unfold imgN
    dsimp only
    split
    · rw [sy_mul _ o1 oz, e1, hzz]; split <;> rfl
    · exact e1
theorem Sym.img_x (S : Sym m X Z) (p : PN) (j : Nat) (hj : j < m) : ∀ k, k ≤ m → sy (imgN X Z p k) (X.getD j ⟨0, 0, 0⟩) = if j < k ∧ p.z.testBit j = true then 1 else 0
  | 0, _ => by
    have h0 : pop 0 = 0 := by decide
    simp [imgN, sy, h0]
  | k + 1, hk => by
    have ih := S.img_x p j hj k (by omega)
    have hzx : sy (Z.getD k ⟨0, 0, 0⟩) (X.getD j ⟨0, 0, 0⟩) = if j = k then 1 else 0 := by rw [sy_comm]; exact S.xz j k hj (by omega)
    have hxx := S.xx k j (by omega) hj
    have o0 := S.okN p k
    have ox := S.ltx.ok.get k
    have oz := S.ltz.ok.get k
    have o1 : PNok (if p.x.testBit k = true then mulN (imgN X Z p k) (X.getD k ⟨0, 0, 0⟩) else imgN X Z p k) := by
      split
      · exact mulN_ok o0 ox
      · exact o0
    have e1 : sy (if p.x.testBit k = true then mulN (imgN X Z p k) (X.getD k ⟨0, 0, 0⟩) else imgN X Z p k) (X.getD j ⟨0, 0, 0⟩) = if j < k ∧ p.z.testBit j = true then 1 else 0 := by
      by_cases hb : p.x.testBit k = true
      · rw [if_pos hb, sy_mul _ o0 ox, ih, hxx]; split <;> rfl
      · rw [if_neg hb, ih]
    unfold imgN
    dsimp only
    by_cases hb : p.z.testBit k = true
    · rw [if_pos hb, sy_mul _ o1 oz, e1, hzx]
      by_cases e : j = k
      · subst e; simp [hb]
      · have : (j < k + 1) ↔ (j < k) := by omega
        rw [if_neg e]
        simp only [this]
        split <;> rfl
    · rw [if_neg hb, e1]
      by_cases e : j = k
      · subst e; simp [hb]
      · have : (j < k + 1) ↔ (j < k) := by omega
        simp only [this]
theorem Sym.img_par (S : Sym m X Z) (p : PN) : ∀ k, k ≤ m → (imgN X Z p k).p % 2 = (p.p + pop (p.x &&& p.z) + cb (p.x &&& p.z) k) % 2
  | 0, _ => by unfold imgN cb setB; simp
  | k + 1, hk => by
    have ih := S.img_par p k (by omega)
    have hb : bt (p.x &&& p.z) k = (p.x.testBit k && p.z.testBit k).toNat := by unfold bt; rw [Nat.testBit_and]
    have o0 := S.okN p k
    have ox := S.ltx.ok.get k
    have oz := S.ltz.ok.get k
    have i1 := S.img_x p k (by omega) k (by omega)
    have i2 := S.img_z p k (by omega) k (by omega)
    have i3 := S.xz k k (by omega) (by omega)
    have ex := S.evx k
    have ez := S.evz k
    simp only [Nat.lt_irrefl, false_and, if_false, if_true] at i1 i2 i3
    rw [cb_succ, hb]
    unfold imgN
    cases h1 : p.x.testBit k <;> cases h2 : p.z.testBit k
    · simpa using ih
    · simp only [Bool.false_eq_true, if_false, if_true, Bool.false_and, Bool.toNat_false]
      rw [mul_par o0 oz, i2]; omega
    · simp only [Bool.false_eq_true, if_false, if_true, Bool.and_false, Bool.toNat_false]
      rw [mul_par o0 ox, i1]; omega
    · simp only [if_true, Bool.and_self, Bool.toNat_true]
      have a1 := mul_par o0 ox
      rw [mul_par (mulN_ok o0 ox) oz, sy_mul _ o0 ox, i2, i3]
      rw [i1] at a1
      omega
theorem Sym.img_even (S : Sym m X Z) {x z : Nat} (hx : x < 2 ^ m) : (imgN X Z ⟨0, x, z⟩ m).p % 2 = 0 := by
  have h := S.img_par ⟨0, x, z⟩ m (Nat.le_refl _)
  dsimp only at h
  have hlt : x &&& z < 2 ^ m := Nat.lt_of_le_of_lt Nat.and_le_left hx
  rw [cb_all hlt (by have := S.m5; omega)] at h
  omega
end
/-- The bits of the operators that anticommute with p. -/
def preB (L : List PN) (p : PN) : Nat → Nat
  | 0 => 0
  | k + 1 => if commN p (L.getD k ⟨0, 0, 0⟩) = true then preB L p k else preB L p k ||| 2 ^ k
theorem preB_lt (L : List PN) (p : PN) : ∀ k, preB L p k < 2 ^ k
  | 0 => by show 0 < 1; omega
  | k + 1 => by
    have ih := preB_lt L p k
    have h1 : 2 ^ k < 2 ^ (k + 1) := Nat.pow_lt_pow_right (by omega) (by omega)
    unfold preB
    split
    · omega
    · exact Nat.or_lt_two_pow (by omega) h1
theorem preB_bit (L : List PN) (p : PN) : ∀ k j, (preB L p k).testBit j = (decide (j < k) && !commN p (L.getD j ⟨0, 0, 0⟩))
  | 0, j => by simp [preB]
  | k + 1, j => by
    have ih := preB_bit L p k j
    unfold preB
    by_cases e : j = k
    · subst e
      have e0 : (preB L p j).testBit j = false := Nat.testBit_lt_two_pow (preB_lt L p j)
      cases h : commN p (L.getD j ⟨0, 0, 0⟩)
      · rw [if_neg (by simp), Nat.testBit_or, e0]; simp [Nat.testBit_two_pow_self]
      · rw [if_pos rfl, e0]; simp
    · have e2 : decide (j < k + 1) = decide (j < k) := by rw [Bool.eq_iff_iff, decide_eq_true_eq, decide_eq_true_eq]; omega
      rw [e2, ← ih]
      split
      · rfl
      · rw [Nat.testBit_or, Nat.testBit_two_pow]; simp [Ne.symm e]
theorem preB_31 (L : List PN) (p : PN) {k : Nat} (h : k ≤ 5) : preB L p k ≤ 31 := by
  have h1 := preB_lt L p k
  have h2 : 2 ^ k ≤ 2 ^ 5 := Nat.pow_le_pow_right (by omega) h
  omega
theorem bits_eq {x y m : Nat} (hx : x < 2 ^ m) (hy : y < 2 ^ m) (h : ∀ j, j < m → x.testBit j = y.testBit j) : x = y := by
  apply Nat.eq_of_testBit_eq
  intro j
  by_cases hj : j < m
  · exact h j hj
  · rw [Nat.testBit_lt_two_pow (Nat.lt_of_lt_of_le hx (Nat.pow_le_pow_right (by omega) (by omega))), Nat.testBit_lt_two_pow (Nat.lt_of_lt_of_le hy (Nat.pow_le_pow_right (by omega) (by omega)))]
section
variable {m : Nat} {X Z : List PN}
/-- The masks tell the operator. -/
theorem Sym.only (S : Sym m X Z) {p : PN} {x z : Nat} (hx : x < 2 ^ m) (hz : z < 2 ^ m) (h1 : (imgN X Z ⟨0, x, z⟩ m).x = p.x) (h2 : (imgN X Z ⟨0, x, z⟩ m).z = p.z) : x = preB Z p m ∧ z = preB X p m := by
  constructor
  · refine bits_eq hx (preB_lt _ _ _) fun j hj => ?_
    have h := S.img_z ⟨0, x, z⟩ j hj m (Nat.le_refl _)
    rw [sy_masks _ h1 h2] at h
    rw [preB_bit, commN_sy, h]
    dsimp only
    cases x.testBit j <;> simp [hj]
  · refine bits_eq hz (preB_lt _ _ _) fun j hj => ?_
    have h := S.img_x ⟨0, x, z⟩ j hj m (Nat.le_refl _)
    rw [sy_masks _ h1 h2] at h
    rw [preB_bit, commN_sy, h]
    dsimp only
    cases z.testBit j <;> simp [hj]
end
theorem pigeon : ∀ (n : Nat) (l : List Nat), l.Nodup → (∀ x ∈ l, x < n) → l.length ≤ n
  | 0, l, _, h => by
    cases l with
    | nil => simp
    | cons a l => exact absurd (h a (by simp)) (Nat.not_lt_zero _)
  | n + 1, l, hn, h => by
    have h1 := pigeon n (l.erase n) (hn.erase n) (fun x hx => by
      have h2 := h x (List.mem_of_mem_erase hx)
      have h3 : x ≠ n := fun e => by subst e; exact hn.not_mem_erase hx
      omega)
    have h2 : l.length ≤ (l.erase n).length + 1 := by rw [List.length_erase]; split <;> omega
    omega
theorem onto {N : Nat} {f : Nat → Nat} (hf : ∀ x, x < N → f x < N) (hi : ∀ x y, x < N → y < N → f x = f y → x = y) {t : Nat} (ht : t < N) : ∃ x, x < N ∧ f x = t := by
  apply Classical.byContradiction
  intro hno
  have hno2 : ∀ x, x < N → f x ≠ t := fun x hx e => hno ⟨x, hx, e⟩
  have hnd : ((List.range N).map f).Nodup := by
    unfold List.Nodup
    rw [List.pairwise_map]
    refine List.Pairwise.imp_of_mem (R := fun a b => a ≠ b) ?_ List.nodup_range
    intro a b ha hb hab e
    exact hab (hi a b (List.mem_range.1 ha) (List.mem_range.1 hb) e)
  have h1 := pigeon N (t :: (List.range N).map f) (List.nodup_cons.2 ⟨fun h => by
    obtain ⟨x, hx, e⟩ := List.mem_map.1 h
    exact hno2 x (List.mem_range.1 hx) e, hnd⟩) (fun x hx => by
    rcases List.mem_cons.1 hx with rfl | hx
    · exact ht
    · obtain ⟨y, hy, rfl⟩ := List.mem_map.1 hx
      exact hf y (List.mem_range.1 hy))
  simp at h1
  omega
section
variable {m : Nat} {X Z : List PN}
theorem Sym.exists (S : Sym m X Z) {p : PN} (hp : p.x < 2 ^ m ∧ p.z < 2 ^ m) : (imgN X Z ⟨0, preB Z p m, preB X p m⟩ m).x = p.x ∧ (imgN X Z ⟨0, preB Z p m, preB X p m⟩ m).z = p.z := by
  obtain ⟨hpx, hpz⟩ := hp
  have hq := Nat.two_pow_pos m
  obtain ⟨q, hqe⟩ : ∃ q, q = 2 ^ m := ⟨_, rfl⟩
  rw [← hqe] at hpx hpz hq
  have hcode : ∀ a b, a < q → b < q → a * q + b < q * q := by
    intro a b ha hb
    have : (a + 1) * q ≤ q * q := Nat.mul_le_mul_right q ha
    rw [Nat.add_mul, Nat.one_mul] at this
    omega
  have hdm : ∀ a b, b < q → (a * q + b) / q = a ∧ (a * q + b) % q = b := by
    intro a b hb
    constructor
    · rw [Nat.mul_comm, Nat.mul_add_div hq, Nat.div_eq_of_lt hb]; rfl
    · rw [Nat.mul_comm, Nat.mul_add_mod, Nat.mod_eq_of_lt hb]
  obtain ⟨c, hc, hcf⟩ := onto (N := q * q) (f := fun c => (imgN X Z ⟨0, c / q, c % q⟩ m).x * q + (imgN X Z ⟨0, c / q, c % q⟩ m).z)
    (fun c _ => by
      have := imgN_lt S.ltx S.ltz ⟨0, c / q, c % q⟩ m
      rw [← hqe] at this
      exact hcode _ _ this.1 this.2)
    (fun c d hc hd e => by
      have lc := imgN_lt S.ltx S.ltz ⟨0, c / q, c % q⟩ m
      have ld := imgN_lt S.ltx S.ltz ⟨0, d / q, d % q⟩ m
      rw [← hqe] at lc ld
      (try dsimp only at e)
      have e1 := hdm (imgN X Z ⟨0, c / q, c % q⟩ m).x (imgN X Z ⟨0, c / q, c % q⟩ m).z lc.2
      have e2 := hdm (imgN X Z ⟨0, d / q, d % q⟩ m).x (imgN X Z ⟨0, d / q, d % q⟩ m).z ld.2
      rw [e] at e1
      have hx : (imgN X Z ⟨0, c / q, c % q⟩ m).x = (imgN X Z ⟨0, d / q, d % q⟩ m).x := e1.1.symm.trans e2.1
      have hz : (imgN X Z ⟨0, c / q, c % q⟩ m).z = (imgN X Z ⟨0, d / q, d % q⟩ m).z := e1.2.symm.trans e2.2
      have c1 : c / q < 2 ^ m := by rw [← hqe]; exact Nat.div_lt_of_lt_mul hc
      have d1 : d / q < 2 ^ m := by rw [← hqe]; exact Nat.div_lt_of_lt_mul hd
      have c2 : c % q < 2 ^ m := by rw [← hqe]; exact Nat.mod_lt _ hq
      have d2 : d % q < 2 ^ m := by rw [← hqe]; exact Nat.mod_lt _ hq
      have a := S.only c1 c2 hx hz
      have b := S.only d1 d2 rfl rfl
      have e3 : c / q = d / q := a.1.trans b.1.symm
      have e4 : c % q = d % q := a.2.trans b.2.symm
      rw [← Nat.div_add_mod c q, ← Nat.div_add_mod d q, e3, e4])
    (t := p.x * q + p.z) (hcode _ _ hpx hpz)
  (try dsimp only at hcf)
  have lc := imgN_lt S.ltx S.ltz ⟨0, c / q, c % q⟩ m
  rw [← hqe] at lc
  have e1 := hdm (imgN X Z ⟨0, c / q, c % q⟩ m).x (imgN X Z ⟨0, c / q, c % q⟩ m).z lc.2
  have e2 := hdm p.x p.z hpz
  rw [hcf] at e1
  have hx : (imgN X Z ⟨0, c / q, c % q⟩ m).x = p.x := e1.1.symm.trans e2.1
  have hz : (imgN X Z ⟨0, c / q, c % q⟩ m).z = p.z := e1.2.symm.trans e2.2
  have c1 : c / q < 2 ^ m := by rw [← hqe]; exact Nat.div_lt_of_lt_mul hc
  have c2 : c % q < 2 ^ m := by rw [← hqe]; exact Nat.mod_lt _ hq
  have a := S.only c1 c2 hx hz
  rw [← a.1, ← a.2]
  exact ⟨hx, hz⟩
end
/-- The operator whose image is p, up to sign. -/
def invN (X Z : List PN) (m : Nat) (p : PN) : PN := ⟨(imgN X Z ⟨0, preB Z p m, preB X p m⟩ m).p, preB Z p m, preB X p m⟩
def invXs (X Z : List PN) (m : Nat) (k : Nat) : List PN := (List.range k).map fun q => invN X Z m ⟨0, 2 ^ q, 0⟩
def invZs (X Z : List PN) (m : Nat) (k : Nat) : List PN := (List.range k).map fun q => invN X Z m ⟨0, 0, 2 ^ q⟩
theorem invXs_len (X Z : List PN) (m k : Nat) : (invXs X Z m k).length = k := by simp [invXs]
theorem invZs_len (X Z : List PN) (m k : Nat) : (invZs X Z m k).length = k := by simp [invZs]
theorem invXs_succ (X Z : List PN) (m k : Nat) : (pes (invXs X Z m (k + 1))).flatMap E3.cs = (pes (invXs X Z m k)).flatMap E3.cs ++ (invN X Z m ⟨0, 2 ^ k, 0⟩).e.cs := by
  simp [invXs, pes, List.range_succ, List.flatMap_append]
theorem invZs_succ (X Z : List PN) (m k : Nat) : (pes (invZs X Z m (k + 1))).flatMap E3.cs = (pes (invZs X Z m k)).flatMap E3.cs ++ (invN X Z m ⟨0, 0, 2 ^ k⟩).e.cs := by
  simp [invZs, pes, List.range_succ, List.flatMap_append]
noncomputable def invG (d : Tab) : Option Tab := if TabOk d then some ⟨d.n, pes (invXs (d.xs.map tn) (d.zs.map tn) d.n.toNat d.n.toNat), pes (invZs (d.xs.map tn) (d.zs.map tn) d.n.toNat d.n.toNat)⟩ else none
theorem invG_len (d : Tab) : ((invG d).getD Tab.zero).xs.length ≤ 1000000 ∧ ((invG d).getD Tab.zero).zs.length ≤ 1000000 := by
  unfold invG; split
  · next h =>
    obtain ⟨⟨a1, a2⟩, _⟩ := h
    simp [pes_len, invXs_len, invZs_len]; omega
  · simp [Tab.zero]
theorem invN_ok {m : Nat} {X Z : List PN} (S : Sym m X Z) (p : PN) : PNok (invN X Z m p) :=
  ⟨(S.okN _ _).p, preB_31 _ _ S.m5, preB_31 _ _ S.m5⟩
end Go.Proofs.Ytjdffjnennodaaa
namespace Go.Proofs.Ytjdffjnennodaaa
set_option linter.unusedSimpArgs false
set_option linter.unusedVariables false
set_option linter.unnecessarySimpa false
set_option maxRecDepth 200000
open Go.ChangeShapes Go.WideShapes Go.ChangeAt Go.RowKit

theorem mulN_phi (a b : PN) : ((mulN a b).p + pop ((mulN a b).x &&& (mulN a b).z)) % 4 = (a.p + pop (a.x &&& a.z) + b.p + pop (b.x &&& b.z) + 2 * pop (a.z &&& b.x)) % 4 := by
  unfold mulN; dsimp only; omega
theorem PN.eq_phi {a b : PN} (hx : a.x = b.x) (hz : a.z = b.z) (ha : a.p ≤ 3) (hb : b.p ≤ 3) (h : (a.p + pop (a.x &&& a.z)) % 4 = (b.p + pop (b.x &&& b.z)) % 4) : a = b := by
  refine PN.eq_of ?_ hx hz
  rw [hx, hz] at h; omega
theorem mulN_p (a b : PN) : (mulN a b).p ≤ 3 := by unfold mulN; dsimp only; omega
theorem mulN_x (a b : PN) : (mulN a b).x = a.x ^^^ b.x := rfl
theorem mulN_z (a b : PN) : (mulN a b).z = a.z ^^^ b.z := rfl
theorem pop_andxor {a b c : Nat} (ha : a ≤ 31) (hb : b ≤ 31) : (pop (c &&& (a ^^^ b))) % 2 = (pop (c &&& a) + pop (c &&& b)) % 2 := by
  rw [Nat.and_comm c, Nat.and_comm c, Nat.and_comm c]; exact pop_xorand ha hb
theorem mulN_assoc {a b c : PN} (ha : PNok a) (hb : PNok b) (hc : PNok c) : mulN (mulN a b) c = mulN a (mulN b c) := by
  refine PN.eq_phi (Nat.xor_assoc _ _ _) (Nat.xor_assoc _ _ _) (mulN_p _ _) (mulN_p _ _) ?_
  have h1 := mulN_phi (mulN a b) c
  have h2 := mulN_phi a b
  have h3 := mulN_phi a (mulN b c)
  have h4 := mulN_phi b c
  have h5 : (pop ((mulN a b).z &&& c.x)) % 2 = (pop (a.z &&& c.x) + pop (b.z &&& c.x)) % 2 := pop_xorand (c := c.x) ha.z hb.z
  have h6 : (pop (a.z &&& (mulN b c).x)) % 2 = (pop (a.z &&& b.x) + pop (a.z &&& c.x)) % 2 := pop_andxor (c := a.z) hb.x hc.x
  omega
def PN.one : PN := ⟨0, 0, 0⟩
theorem one_okN : PNok PN.one := ⟨by decide, by decide, by decide⟩
def sh (s : Nat) (a : PN) : PN := ⟨(a.p + s) % 4, a.x, a.z⟩
theorem sh_ok {s : Nat} {a : PN} (h : PNok a) : PNok (sh s a) := ⟨by unfold sh; dsimp only; omega, h.x, h.z⟩
theorem sh_zero {a : PN} (h : a.p ≤ 3) : sh 0 a = a := by unfold sh; exact PN.eq_of (by dsimp only; omega) rfl rfl
theorem sh_sh (s t : Nat) (a : PN) : sh s (sh t a) = sh (t + s) a := by unfold sh; exact PN.eq_of (by dsimp only; omega) rfl rfl
theorem sh_mod {s t : Nat} (h : s % 4 = t % 4) (a : PN) : sh s a = sh t a := by unfold sh; exact PN.eq_of (by dsimp only; omega) rfl rfl
theorem sh_mulL (s : Nat) (a b : PN) : mulN (sh s a) b = sh s (mulN a b) := by
  unfold mulN sh; exact PN.eq_of (by dsimp only; omega) rfl rfl
theorem sh_mulR (s : Nat) (a b : PN) : mulN a (sh s b) = sh s (mulN a b) := by
  unfold mulN sh; exact PN.eq_of (by dsimp only; omega) rfl rfl
theorem pop_zero : pop 0 = 0 := by decide
theorem mulN_one {a : PN} (h : a.p ≤ 3) : mulN a PN.one = a := by
  unfold mulN PN.one; exact PN.eq_of (by dsimp only; simp [pop_zero]; omega) (by simp) (by simp)
theorem one_mulN {a : PN} (h : a.p ≤ 3) : mulN PN.one a = a := by
  unfold mulN PN.one; exact PN.eq_of (by dsimp only; simp [pop_zero]; omega) (by simp) (by simp)
theorem mulN_self {a : PN} (h : a.p % 2 = 0) : mulN a a = PN.one := by
  unfold mulN PN.one
  refine PN.eq_of ?_ (by simp) (by simp)
  dsimp only
  rw [Nat.xor_self, Nat.xor_self, Nat.and_comm a.z a.x]
  simp [pop_zero]; omega
theorem mulN_swap (a b : PN) : mulN b a = sh (2 * sy a b) (mulN a b) := by
  unfold mulN sh sy
  rw [Nat.xor_comm b.x a.x, Nat.xor_comm b.z a.z, Nat.and_comm b.z a.x]
  exact PN.eq_of (by dsimp only; omega) rfl rfl
def gp (a : PN) (b : Bool) : PN := if b then a else PN.one
theorem gp_ok {a : PN} (h : PNok a) (b : Bool) : PNok (gp a b) := by cases b; exact one_okN; exact h
theorem gp_mul {a : PN} (h : PNok a) (he : a.p % 2 = 0) (x u : Bool) : mulN (gp a x) (gp a u) = gp a (x ^^ u) := by
  cases x <;> cases u
  · exact mulN_one (a := PN.one) (by decide)
  · exact one_mulN h.p
  · exact mulN_one h.p
  · exact mulN_self he
theorem gp_swap {a b : PN} (ha : PNok a) (hb : PNok b) (h : sy a b = 1) (z u : Bool) : mulN (gp b z) (gp a u) = sh (2 * (z && u).toNat) (mulN (gp a u) (gp b z)) := by
  cases z <;> cases u
  · rw [show 2 * (false && false).toNat = 0 from rfl, sh_zero (mulN_p _ _)]; rfl
  · rw [show 2 * (false && true).toNat = 0 from rfl, sh_zero (mulN_p _ _)]
    show mulN PN.one a = mulN a PN.one
    rw [one_mulN ha.p, mulN_one ha.p]
  · rw [show 2 * (true && false).toNat = 0 from rfl, sh_zero (mulN_p _ _)]
    show mulN b PN.one = mulN PN.one b
    rw [one_mulN hb.p, mulN_one hb.p]
  · show mulN b a = sh 2 (mulN a b)
    rw [mulN_swap a b, h]
theorem comm_gp {a h : PN} (hh : PNok h) (hs : sy h a = 0) (b : Bool) : mulN (gp a b) h = mulN h (gp a b) := by
  cases b
  · show mulN PN.one h = mulN h PN.one
    rw [one_mulN hh.p, mulN_one hh.p]
  · show mulN a h = mulN h a
    rw [mulN_swap h a, hs, sh_zero (mulN_p _ _)]
/-- The image, by its phase and masks. -/
def imF (X Z : List PN) (f x z : Nat) : Nat → PN
  | 0 => ⟨f % 4, 0, 0⟩
  | k + 1 => mulN (mulN (imF X Z f x z k) (gp (X.getD k ⟨0, 0, 0⟩) (x.testBit k))) (gp (Z.getD k ⟨0, 0, 0⟩) (z.testBit k))
theorem imF_ok {X Z : List PN} (hX : PLok X) (hZ : PLok Z) (f x z : Nat) : ∀ k, PNok (imF X Z f x z k)
  | 0 => ⟨by unfold imF; dsimp only; omega, by simp [imF], by simp [imF]⟩
  | k + 1 => mulN_ok (mulN_ok (imF_ok hX hZ f x z k) (gp_ok (hX.get k) _)) (gp_ok (hZ.get k) _)
theorem imgN_imF {X Z : List PN} (hX : PLok X) (hZ : PLok Z) (p : PN) : ∀ k, imgN X Z p k = imF X Z (p.p + pop (p.x &&& p.z)) p.x p.z k
  | 0 => rfl
  | k + 1 => by
    have ih := imgN_imF hX hZ p k
    have ok := imF_ok hX hZ (p.p + pop (p.x &&& p.z)) p.x p.z k
    have o1 := mulN_p (imF X Z (p.p + pop (p.x &&& p.z)) p.x p.z k) (X.getD k ⟨0, 0, 0⟩)
    simp only [imgN, imF]
    rw [ih]
    cases hx : p.x.testBit k <;> cases hz : p.z.testBit k <;> simp only [gp, if_true, if_false, Bool.false_eq_true]
    · rw [mulN_one ok.p, mulN_one ok.p]
    · rw [mulN_one ok.p]
    · rw [mulN_one o1]
theorem imF_sh {X Z : List PN} (f s x z : Nat) : ∀ k, imF X Z (f + s) x z k = sh s (imF X Z f x z k)
  | 0 => by unfold imF sh; exact PN.eq_of (by dsimp only; omega) rfl rfl
  | k + 1 => by
    simp only [imF]
    rw [imF_sh f s x z k, sh_mulL, sh_mulL]
theorem imF_comm {m : Nat} {X Z : List PN} (S : Sym m X Z) (f x z : Nat) {k : Nat} (hk : k < m) : ∀ j, j ≤ k → sy (imF X Z f x z j) (X.getD k ⟨0, 0, 0⟩) = 0 ∧ sy (imF X Z f x z j) (Z.getD k ⟨0, 0, 0⟩) = 0
  | 0, _ => by
    have e : ∀ c : PN, sy ⟨f % 4, 0, 0⟩ c = 0 := fun c => by unfold sy; simp [pop_zero]
    exact ⟨e _, e _⟩
  | j + 1, hj => by
    obtain ⟨i1, i2⟩ := imF_comm S f x z hk j (by omega)
    have ok := imF_ok S.ltx.ok S.ltz.ok f x z j
    have oX := gp_ok (S.ltx.ok.get j) (x.testBit j)
    have oZ := gp_ok (S.ltz.ok.get j) (z.testBit j)
    have one : ∀ c : PN, sy PN.one c = 0 := fun c => by unfold sy PN.one; simp [pop_zero]
    have gx : ∀ c : PN, sy (X.getD j ⟨0, 0, 0⟩) c = 0 → sy (gp (X.getD j ⟨0, 0, 0⟩) (x.testBit j)) c = 0 := fun c h => by cases x.testBit j; exact one c; exact h
    have gz : ∀ c : PN, sy (Z.getD j ⟨0, 0, 0⟩) c = 0 → sy (gp (Z.getD j ⟨0, 0, 0⟩) (z.testBit j)) c = 0 := fun c h => by cases z.testBit j; exact one c; exact h
    have h1 := gx _ (S.xx j k (by omega) hk)
    have h2 := gx (Z.getD k ⟨0, 0, 0⟩) (by rw [S.xz j k (by omega) hk, if_neg (by omega)])
    have h3 := gz (X.getD k ⟨0, 0, 0⟩) (by rw [sy_comm, S.xz k j hk (by omega), if_neg (by omega)])
    have h4 := gz _ (S.zz j k (by omega) hk)
    simp only [imF]
    rw [sy_mul _ (mulN_ok ok oX) oZ, sy_mul _ ok oX, sy_mul _ (mulN_ok ok oX) oZ, sy_mul _ ok oX, i1, i2, h1, h2, h3, h4]
    exact ⟨rfl, rfl⟩
/-- The product of two images. -/
theorem imF_mul {m : Nat} {X Z : List PN} (S : Sym m X Z) (f x z g u v : Nat) : ∀ k, k ≤ m → mulN (imF X Z f x z k) (imF X Z g u v k) = imF X Z (f + g + 2 * cb (z &&& u) k) (x ^^^ u) (z ^^^ v) k
  | 0, _ => by
    unfold imF cb setB mulN
    exact PN.eq_of (by dsimp only; simp [pop_zero]) (by simp) (by simp)
  | k + 1, hk => by
    have ih := imF_mul S f x z g u v k (by omega)
    have hb : bt (z &&& u) k = (z.testBit k && u.testBit k).toNat := by unfold bt; rw [Nat.testBit_and]
    obtain ⟨c1, c2⟩ := imF_comm S g u v (show k < m by omega) k (Nat.le_refl _)
    have okG := imF_ok S.ltx.ok S.ltz.ok f x z k
    have okH := imF_ok S.ltx.ok S.ltz.ok g u v k
    have okX := S.ltx.ok.get k
    have okZ := S.ltz.ok.get k
    have hs : sy (X.getD k ⟨0, 0, 0⟩) (Z.getD k ⟨0, 0, 0⟩) = 1 := by rw [S.xz k k (by omega) (by omega), if_pos rfl]
    have ex := S.evx k
    have ez := S.evz k
    rw [show f + g + 2 * cb (z &&& u) (k + 1) = (f + g + 2 * cb (z &&& u) k) + 2 * (z.testBit k && u.testBit k).toNat by rw [cb_succ, hb]; omega, imF_sh]
    simp only [imF]
    rw [← ih, Nat.testBit_xor, Nat.testBit_xor]
    generalize imF X Z f x z k = G at *
    generalize imF X Z g u v k = H at *
    generalize X.getD k ⟨0, 0, 0⟩ = A at *
    generalize Z.getD k ⟨0, 0, 0⟩ = B at *
    generalize x.testBit k = bx at *
    generalize z.testBit k = bz at *
    generalize u.testBit k = bu at *
    generalize v.testBit k = bv at *
    have oAx := gp_ok okX bx; have oBz := gp_ok okZ bz; have oAu := gp_ok okX bu; have oBv := gp_ok okZ bv
    -- (G Ax Bz)(H Au Bv)
    rw [mulN_assoc (mulN_ok okG oAx) oBz (mulN_ok (mulN_ok okH oAu) oBv), ← mulN_assoc oBz (mulN_ok okH oAu) oBv, ← mulN_assoc oBz okH oAu, comm_gp okH c2 bz, mulN_assoc okH oBz oAu, gp_swap okX okZ hs bz bu, sh_mulR, sh_mulL, sh_mulR]
    congr 1
    rw [mulN_assoc okG oAx (mulN_ok (mulN_ok okH (mulN_ok oAu oBz)) oBv), ← mulN_assoc oAx (mulN_ok okH (mulN_ok oAu oBz)) oBv, ← mulN_assoc oAx okH (mulN_ok oAu oBz), comm_gp okH c1 bx, mulN_assoc okH oAx (mulN_ok oAu oBz), ← mulN_assoc oAx oAu oBz, gp_mul okX ex,
      mulN_assoc okH (mulN_ok (gp_ok okX _) oBz) oBv, mulN_assoc (gp_ok okX _) oBz oBv, gp_mul okZ ez, ← mulN_assoc okG okH (mulN_ok (gp_ok okX _) (gp_ok okZ _)), ← mulN_assoc (mulN_ok okG okH) (gp_ok okX _) (gp_ok okZ _)]
/-- The image of a product is the product of the images. -/
theorem Sym.hom {m : Nat} {X Z : List PN} (S : Sym m X Z) {P Q : PN} (hP : P.x < 2 ^ m ∧ P.z < 2 ^ m) (hQ : Q.x < 2 ^ m ∧ Q.z < 2 ^ m) : imgN X Z (mulN P Q) m = mulN (imgN X Z P m) (imgN X Z Q m) := by
  have hm := S.m5
  rw [imgN_imF S.ltx.ok S.ltz.ok, imgN_imF S.ltx.ok S.ltz.ok, imgN_imF S.ltx.ok S.ltz.ok, imF_mul S _ _ _ _ _ _ m (Nat.le_refl _)]
  have hlt : P.z &&& Q.x < 2 ^ m := Nat.lt_of_le_of_lt Nat.and_le_left hP.2
  rw [cb_all hlt (by omega)]
  have h := mulN_phi P Q
  show imF X Z ((mulN P Q).p + pop ((mulN P Q).x &&& (mulN P Q).z)) (P.x ^^^ Q.x) (P.z ^^^ Q.z) m = _
  have key : ∀ f g : Nat, f % 4 = g % 4 → imF X Z f (P.x ^^^ Q.x) (P.z ^^^ Q.z) m = imF X Z g (P.x ^^^ Q.x) (P.z ^^^ Q.z) m := by
    intro f g hfg
    have e1 := imF_sh (X := X) (Z := Z) 0 f (P.x ^^^ Q.x) (P.z ^^^ Q.z) m
    have e2 := imF_sh (X := X) (Z := Z) 0 g (P.x ^^^ Q.x) (P.z ^^^ Q.z) m
    rw [Nat.zero_add] at e1 e2
    rw [e1, e2, sh_mod hfg]
  exact key _ _ (by omega)
end Go.Proofs.Ytjdffjnennodaaa
