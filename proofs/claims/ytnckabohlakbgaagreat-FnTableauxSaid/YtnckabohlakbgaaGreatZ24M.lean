/- The tableaux of gates in the program and in the reference. -/
import Derived.Test.YtnckabohlakbgaaGreatZ14M
import Derived.Test.YtnckabohlakbgaaGreatZ22M
import Derived.Test.YtnckabohlakbgaaGreatZ07Pau4
import Derived.Test.YtnckabohlakbgaaGreatZ23Tab2
import Derived.Test.YtnckabohlakbgaaGreatZ21M
import Derived.Test.YtnckabohlakbgaaGreatZ06Brk
import Derived.BigRegion
import Derived.BigQuiet
import Derived.Deep.QuietTactic
namespace Go.Proofs.YtnckabohlakbgaaGreat
set_option linter.unusedSimpArgs false
set_option linter.unusedVariables false
set_option linter.unnecessarySimpa false
set_option maxRecDepth 200000
open Go.ChangeShapes Go.WideShapes Go.ChangeAt Go.RowKit

/-- The images under a gate: of X operators. -/
def gtX (n k a b : Nat) : List PN :=
  if k = 1 then (idPX n).set a ⟨0, 0, 2 ^ a⟩ else
  if k = 3 then (idPX n).set a ⟨2, 2 ^ a, 0⟩ else
  if k = 4 then (idPX n).set a ⟨2, 2 ^ a, 0⟩ else
  if k = 5 then (idPX n).set a ⟨0, 2 ^ a, 2 ^ a⟩ else
  if k = 6 then (idPX n).set a ⟨2, 2 ^ a, 2 ^ a⟩ else
  if k = 9 then (idPX n).set a ⟨0, 2 ^ a ||| 2 ^ b, 0⟩ else
  if k = 10 then ((idPX n).set a ⟨0, 2 ^ a, 2 ^ b⟩).set b ⟨0, 2 ^ b, 2 ^ a⟩ else
  if k = 11 then ((idPX n).set a ⟨0, 2 ^ b, 0⟩).set b ⟨0, 2 ^ a, 0⟩ else idPX n
/-- And of Z operators. -/
def gtZ (n k a b : Nat) : List PN :=
  if k = 1 then (idPZ n).set a ⟨0, 2 ^ a, 0⟩ else
  if k = 2 then (idPZ n).set a ⟨2, 0, 2 ^ a⟩ else
  if k = 3 then (idPZ n).set a ⟨2, 0, 2 ^ a⟩ else
  if k = 9 then (idPZ n).set b ⟨0, 0, 2 ^ a ||| 2 ^ b⟩ else
  if k = 11 then ((idPZ n).set a ⟨0, 0, 2 ^ b⟩).set b ⟨0, 0, 2 ^ a⟩ else idPZ n
structure GtOk (n k a b : Nat) : Prop where
  kind : (k = 12 ∧ a = 0 ∧ b = 0) ∨ (9 ≤ k ∧ k ≤ 11 ∧ a ≠ b) ∨ (1 ≤ k ∧ k ≤ 6 ∧ b = 0)
  la : a < n
  lb : b < n
theorem gtX_len (n k a b : Nat) : (gtX n k a b).length = n := by
  unfold gtX
  simp only [apply_ite List.length, List.length_set, idPX_len, ite_self]
theorem gtZ_len (n k a b : Nat) : (gtZ n k a b).length = n := by
  unfold gtZ
  simp only [apply_ite List.length, List.length_set, idPZ_len, ite_self]
theorem LtL.set {n : Nat} {L : List PN} (h : LtL n L) (h5 : n ≤ 5) (i : Nat) {e : PN} (hp : e.p ≤ 3) (hx : e.x < 2 ^ n ∧ e.z < 2 ^ n) : LtL n (L.set i e) := by
  have h32 : 2 ^ n ≤ 2 ^ 5 := Nat.pow_le_pow_right (by omega) h5
  refine ⟨⟨fun a ha => ?_⟩, fun a ha => ?_⟩
  · rcases List.mem_or_eq_of_mem_set ha with ha | rfl
    · exact h.ok.all a ha
    · exact ⟨hp, by omega, by omega⟩
  · rcases List.mem_or_eq_of_mem_set ha with ha | rfl
    · exact h.lt a ha
    · exact hx
theorem gtX_lt {n k a b : Nat} (h5 : n ≤ 5) (h : GtOk n k a b) : LtL n (gtX n k a b) := by
  have pa : 2 ^ a < 2 ^ n := Nat.pow_lt_pow_right (by omega) h.la
  have pb : 2 ^ b < 2 ^ n := Nat.pow_lt_pow_right (by omega) h.lb
  have po : 2 ^ a ||| 2 ^ b < 2 ^ n := Nat.or_lt_two_pow pa pb
  have p0 := Nat.two_pow_pos n
  have hI := idPX_lt h5
  unfold gtX
  repeat (first | exact hI | exact (hI.set h5 _ (by dsimp only; omega) ⟨by first | exact pa | exact pb | exact po | exact p0, by first | exact pa | exact pb | exact p0⟩) | exact ((hI.set h5 _ (by dsimp only; omega) ⟨by first | exact pa | exact pb | exact p0, by first | exact pa | exact pb | exact p0⟩).set h5 _ (by dsimp only; omega) ⟨by first | exact pa | exact pb | exact p0, by first | exact pa | exact pb | exact p0⟩) | split)
theorem gtZ_lt {n k a b : Nat} (h5 : n ≤ 5) (h : GtOk n k a b) : LtL n (gtZ n k a b) := by
  have pa : 2 ^ a < 2 ^ n := Nat.pow_lt_pow_right (by omega) h.la
  have pb : 2 ^ b < 2 ^ n := Nat.pow_lt_pow_right (by omega) h.lb
  have po : 2 ^ a ||| 2 ^ b < 2 ^ n := Nat.or_lt_two_pow pa pb
  have p0 := Nat.two_pow_pos n
  have hI := idPZ_lt h5
  unfold gtZ
  repeat (first | exact hI | exact (hI.set h5 _ (by dsimp only; omega) ⟨by first | exact pa | exact pb | exact p0, by first | exact pa | exact pb | exact po | exact p0⟩) | exact ((hI.set h5 _ (by dsimp only; omega) ⟨by first | exact pa | exact pb | exact p0, by first | exact pa | exact pb | exact p0⟩).set h5 _ (by dsimp only; omega) ⟨by first | exact pa | exact pb | exact p0, by first | exact pa | exact pb | exact p0⟩) | split)
/-- The tableau of the first k gates. -/
def tofX (n : Nat) (gs : List E3) : Nat → List PN
  | 0 => idPX n
  | k + 1 => compL imgN (gtX n (gs.getD k ⟨0, 0, 0⟩).a.toNat (gs.getD k ⟨0, 0, 0⟩).b.toNat (gs.getD k ⟨0, 0, 0⟩).c.toNat) (gtZ n (gs.getD k ⟨0, 0, 0⟩).a.toNat (gs.getD k ⟨0, 0, 0⟩).b.toNat (gs.getD k ⟨0, 0, 0⟩).c.toNat) n (tofX n gs k)
def tofZ (n : Nat) (gs : List E3) : Nat → List PN
  | 0 => idPZ n
  | k + 1 => compL imgN (gtX n (gs.getD k ⟨0, 0, 0⟩).a.toNat (gs.getD k ⟨0, 0, 0⟩).b.toNat (gs.getD k ⟨0, 0, 0⟩).c.toNat) (gtZ n (gs.getD k ⟨0, 0, 0⟩).a.toNat (gs.getD k ⟨0, 0, 0⟩).b.toNat (gs.getD k ⟨0, 0, 0⟩).c.toNat) n (tofZ n gs k)
theorem tofX_0 (n : Nat) (gs : List E3) : tofX n gs 0 = idPX n := rfl
theorem tofZ_0 (n : Nat) (gs : List E3) : tofZ n gs 0 = idPZ n := rfl
theorem tofX_succ (n : Nat) {gs : List E3} {k kk a b : Nat} (_ : k < gs.length) (hg : gs.getD k ⟨0, 0, 0⟩ = ⟨(kk : Int), (a : Int), (b : Int)⟩) : tofX n gs (k + 1) = compL imgN (gtX n kk a b) (gtZ n kk a b) n (tofX n gs k) := by
  show compL _ _ _ _ _ = _
  rw [hg]; simp
theorem tofZ_succ (n : Nat) {gs : List E3} {k kk a b : Nat} (_ : k < gs.length) (hg : gs.getD k ⟨0, 0, 0⟩ = ⟨(kk : Int), (a : Int), (b : Int)⟩) : tofZ n gs (k + 1) = compL imgN (gtX n kk a b) (gtZ n kk a b) n (tofZ n gs k) := by
  show compL _ _ _ _ _ = _
  rw [hg]; simp
theorem tofX_len (n : Nat) (gs : List E3) : ∀ k, (tofX n gs k).length = n
  | 0 => idPX_len n
  | k + 1 => by unfold tofX; rw [compL_len, tofX_len n gs k]
theorem tofZ_len (n : Nat) (gs : List E3) : ∀ k, (tofZ n gs k).length = n
  | 0 => idPZ_len n
  | k + 1 => by unfold tofZ; rw [compL_len, tofZ_len n gs k]
theorem clif_nat {d : Circ} (h : clifB d = true) : ∃ n : Nat, d.n = (n : Int) ∧ 1 ≤ n ∧ n ≤ 5 := by
  obtain ⟨⟨⟨h1, h2⟩, _⟩, _⟩ := clif_parts h
  exact ⟨d.n.toNat, by omega, by omega, by omega⟩
theorem clif_n {d : Circ} {n : Nat} (h : clifB d = true) (hn : d.n = (n : Int)) : 1 ≤ n ∧ n ≤ 5 := by
  obtain ⟨⟨⟨h1, h2⟩, _⟩, _⟩ := clif_parts h
  omega
theorem clif_gate {d : Circ} {n k : Nat} (h : clifB d = true) (hn : d.n = (n : Int)) (hk : k < d.gs.length) : ∃ kk a b : Nat, d.gs.getD k ⟨0, 0, 0⟩ = ⟨(kk : Int), (a : Int), (b : Int)⟩ ∧ GtOk n kk a b := by
  obtain ⟨⟨⟨h1, h2⟩, _, hg⟩, ht⟩ := clif_parts h
  have e : d.gs.getD k ⟨0, 0, 0⟩ = d.gs[k] := by simp [List.getD, hk]
  have h3 := hg d.gs[k] (List.getElem_mem hk)
  have h4 := ht d.gs[k] (List.getElem_mem hk)
  rw [e]
  generalize d.gs[k] = g at h3 h4
  obtain ⟨x, y, z⟩ := g
  have h5 := of_decide_eq_false h4
  unfold GateOk at h3
  dsimp only at h3 h5
  obtain ⟨kk, rfl⟩ : ∃ kk : Nat, x = (kk : Int) := ⟨x.toNat, by omega⟩
  obtain ⟨a, rfl⟩ : ∃ a : Nat, y = (a : Int) := ⟨y.toNat, by omega⟩
  obtain ⟨b, rfl⟩ : ∃ b : Nat, z = (b : Int) := ⟨z.toNat, by omega⟩
  refine ⟨kk, a, b, rfl, ?_, by omega, by omega⟩
  have hab : (a : Int) ≠ (b : Int) ↔ a ≠ b := by omega
  rw [hab] at h3
  omega
theorem tCount_no {d : Circ} (h : circB d = false) : tCount d = 0 := by unfold tCount; rw [h]; rfl
theorem tCount_pos {d : Circ} (h : (tCount d == 0) = false) : 0 < tCount d := by
  have h1 : ¬ tCount d = 0 := by simpa using h
  have h2 : 0 ≤ tCount d := by unfold tCount; split <;> omega
  omega
theorem tof_lt {d : Circ} {n : Nat} (h : clifB d = true) (hn : d.n = (n : Int)) : ∀ k, k ≤ d.gs.length → LtL n (tofX n d.gs k) ∧ LtL n (tofZ n d.gs k)
  | 0, _ => ⟨idPX_lt (clif_n h hn).2, idPZ_lt (clif_n h hn).2⟩
  | k + 1, hk => by
    obtain ⟨kk, a, b, hg, hgt⟩ := clif_gate h hn (show k < d.gs.length by omega)
    rw [tofX_succ n (by omega) hg, tofZ_succ n (by omega) hg]
    exact ⟨LtL.comp (gtX_lt (clif_n h hn).2 hgt) (gtZ_lt (clif_n h hn).2 hgt), LtL.comp (gtX_lt (clif_n h hn).2 hgt) (gtZ_lt (clif_n h hn).2 hgt)⟩
/-- What TableauOf answers. -/
noncomputable def tofG (d : Circ) : Option Tab := if clifB d = true then some ⟨d.n, pes (tofX d.n.toNat d.gs d.gs.length), pes (tofZ d.n.toNat d.gs d.gs.length)⟩ else none
theorem tofG_len (d : Circ) : ((tofG d).getD Tab.zero).xs.length ≤ 1000000 ∧ ((tofG d).getD Tab.zero).zs.length ≤ 1000000 := by
  unfold tofG; split
  · next h =>
    obtain ⟨n, hn, _, h5⟩ := clif_nat h
    simp [pes_len, tofX_len, tofZ_len]; omega
  · simp [Tab.zero]
end Go.Proofs.YtnckabohlakbgaaGreat
namespace Go.Proofs.YtnckabohlakbgaaGreat
set_option linter.unusedSimpArgs false
set_option linter.unusedVariables false
set_option linter.unnecessarySimpa false
set_option maxRecDepth 200000
open Go.ChangeShapes Go.WideShapes Go.ChangeAt Go.RowKit

/-- 1 if two operators anticommute, else 0. -/
def sy (a b : PN) : Nat := (pop (a.x &&& b.z) + pop (a.z &&& b.x)) % 2
theorem sy_lt (a b : PN) : sy a b < 2 := Nat.mod_lt _ (by decide)
theorem commN_sy (a b : PN) : commN a b = (sy a b == 0) := rfl
theorem xorand_bt (a b c q : Nat) : (bt ((a ^^^ b) &&& c) q) % 2 = (bt (a &&& c) q + bt (b &&& c) q) % 2 := by
  unfold bt
  rw [Nat.testBit_and, Nat.testBit_xor, Nat.testBit_and, Nat.testBit_and]
  cases a.testBit q <;> cases b.testBit q <;> cases c.testBit q <;> rfl
theorem pop_xorand {a b c : Nat} (ha : a ≤ 31) (hb : b ≤ 31) : (pop ((a ^^^ b) &&& c)) % 2 = (pop (a &&& c) + pop (b &&& c)) % 2 := by
  rw [pop_5 (and31 (xor31 ha hb)), pop_5 (and31 ha), pop_5 (and31 hb)]
  have h0 := xorand_bt a b c 0; have h1 := xorand_bt a b c 1; have h2 := xorand_bt a b c 2; have h3 := xorand_bt a b c 3; have h4 := xorand_bt a b c 4
  unfold pop5
  omega
theorem sy_mul {a b : PN} (c : PN) (ha : PNok a) (hb : PNok b) : sy (mulN a b) c = (sy a c + sy b c) % 2 := by
  unfold sy mulN; dsimp only
  have h1 := pop_xorand (c := c.z) ha.x hb.x
  have h2 := pop_xorand (c := c.x) ha.z hb.z
  omega
theorem sy_comm (a b : PN) : sy a b = sy b a := by
  unfold sy
  rw [Nat.and_comm b.x a.z, Nat.and_comm b.z a.x, Nat.add_comm]
theorem sy_masks {a b : PN} (c : PN) (hx : a.x = b.x) (hz : a.z = b.z) : sy a c = sy b c := by unfold sy; rw [hx, hz]
theorem mul_par {a b : PN} (ha : PNok a) (hb : PNok b) : (mulN a b).p % 2 = (a.p + b.p + sy a b) % 2 := by
  have h1 := pop_xorand (a := a.x) (b := b.x) (c := a.z ^^^ b.z) ha.x hb.x
  have h2 := pop_xorand (a := a.z) (b := b.z) (c := a.x) ha.z hb.z
  have h3 := pop_xorand (a := a.z) (b := b.z) (c := b.x) ha.z hb.z
  rw [Nat.and_comm (a.z ^^^ b.z) a.x, Nat.and_comm a.z a.x, Nat.and_comm b.z a.x] at h2
  rw [Nat.and_comm (a.z ^^^ b.z) b.x, Nat.and_comm b.z b.x] at h3
  unfold mulN sy; dsimp only
  omega
/-- The images of a valid tableau. -/
structure Sym (m : Nat) (X Z : List PN) : Prop where
  m1 : 1 ≤ m
  m5 : m ≤ 5
  lx : X.length = m
  lz : Z.length = m
  ltx : LtL m X
  ltz : LtL m Z
  evx : ∀ q, (X.getD q ⟨0, 0, 0⟩).p % 2 = 0
  evz : ∀ q, (Z.getD q ⟨0, 0, 0⟩).p % 2 = 0
  xx : ∀ i j, i < m → j < m → sy (X.getD i ⟨0, 0, 0⟩) (X.getD j ⟨0, 0, 0⟩) = 0
  zz : ∀ i j, i < m → j < m → sy (Z.getD i ⟨0, 0, 0⟩) (Z.getD j ⟨0, 0, 0⟩) = 0
  xz : ∀ i j, i < m → j < m → sy (X.getD i ⟨0, 0, 0⟩) (Z.getD j ⟨0, 0, 0⟩) = if i = j then 1 else 0
theorem sy_self (a : PN) : sy a a = 0 := by unfold sy; rw [Nat.and_comm a.z a.x]; omega
theorem TabOk.sym {d : Tab} {m : Nat} (h : TabOk d) (hm : d.n = (m : Int)) : Sym m (d.xs.map tn) (d.zs.map tn) := by
  obtain ⟨m2, hm2, m1, m5, _, _, lx, lz, okx, okz⟩ := h.parts
  obtain rfl : m2 = m := by omega
  obtain ⟨ltx, ltz⟩ := h.lt hm
  obtain ⟨⟨h1, h2⟩, h3, h4, h5, h6⟩ := h
  have hx : d.xs.length = m2 := by omega
  have hz : d.zs.length = m2 := by omega
  have ex : ∀ i, i < m2 → tn ((d.xs ++ d.zs).getD i ⟨0, 0, 0⟩) = (d.xs.map tn).getD i ⟨0, 0, 0⟩ := by
    intro i hi
    simp [List.getD, List.getElem?_append_left (show i < d.xs.length by omega), show i < d.xs.length by omega]
  have ez : ∀ i, i < m2 → tn ((d.xs ++ d.zs).getD (i + m2) ⟨0, 0, 0⟩) = (d.zs.map tn).getD i ⟨0, 0, 0⟩ := by
    intro i hi
    simp [List.getD, List.getElem?_append_right (show d.xs.length ≤ i + m2 by omega), hx, show i < d.zs.length by omega]
  have pr : ∀ i j, i < m2 + m2 → j < i → commN (tn ((d.xs ++ d.zs).getD i ⟨0, 0, 0⟩)) (tn ((d.xs ++ d.zs).getD j ⟨0, 0, 0⟩)) = !decide (i = j + m2) := by
    intro i j hi hj
    have := h6 i (by omega) j hj
    unfold pairB at this
    rw [hm2] at this
    have e : decide ((i : Int) = (j : Int) + (m2 : Int)) = decide (i = j + m2) := by
      rw [Bool.eq_iff_iff, decide_eq_true_eq, decide_eq_true_eq]; omega
    rw [e] at this
    revert this
    cases commN (tn ((d.xs ++ d.zs).getD i ⟨0, 0, 0⟩)) (tn ((d.xs ++ d.zs).getD j ⟨0, 0, 0⟩)) <;> cases decide (i = j + m2) <;> simp
  have cz : ∀ a b : PN, commN a b = true → sy a b = 0 := fun a b h => by rw [commN_sy] at h; simpa using h
  have cn : ∀ a b : PN, commN a b = false → sy a b = 1 := fun a b h => by rw [commN_sy] at h; have := sy_lt a b; have : ¬ sy a b = 0 := by simpa using h
                                                                          omega
  have evd : ∀ i, i < m2 + m2 → (tn ((d.xs ++ d.zs).getD i ⟨0, 0, 0⟩)).p % 2 = 0 := by
    intro i hi
    have h7 := h5 i (by omega)
    have h8 := h7.1.1; have h9 := h7.2
    unfold tn; dsimp only; omega
  have xx0 : ∀ i j, i < m2 → j < i → sy ((d.xs.map tn).getD i ⟨0, 0, 0⟩) ((d.xs.map tn).getD j ⟨0, 0, 0⟩) = 0 := by
    intro i j hi hj
    have := pr i j (by omega) hj
    rw [ex i hi, ex j (by omega), show decide (i = j + m2) = false from decide_eq_false (by omega)] at this
    exact cz _ _ this
  have zz0 : ∀ i j, i < m2 → j < i → sy ((d.zs.map tn).getD i ⟨0, 0, 0⟩) ((d.zs.map tn).getD j ⟨0, 0, 0⟩) = 0 := by
    intro i j hi hj
    have := pr (i + m2) (j + m2) (by omega) (by omega)
    rw [ez i hi, ez j (by omega), show decide (i + m2 = j + m2 + m2) = false from decide_eq_false (by omega)] at this
    exact cz _ _ this
  refine ⟨m1, m5, lx, lz, ltx, ltz, fun q => ?_, fun q => ?_, fun i j hi hj => ?_, fun i j hi hj => ?_, fun i j hi hj => ?_⟩
  · by_cases hq : q < m2
    · rw [← ex q hq]; exact evd q (by omega)
    · have e : (d.xs.map tn).getD q ⟨0, 0, 0⟩ = ⟨0, 0, 0⟩ := by simp [List.getD, List.getElem?_eq_none (show d.xs.length ≤ q by omega)]
      rw [e]; rfl
  · by_cases hq : q < m2
    · rw [← ez q hq]; exact evd (q + m2) (by omega)
    · have e : (d.zs.map tn).getD q ⟨0, 0, 0⟩ = ⟨0, 0, 0⟩ := by simp [List.getD, List.getElem?_eq_none (show d.zs.length ≤ q by omega)]
      rw [e]; rfl
  · rcases Nat.lt_trichotomy i j with h | h | h
    · rw [sy_comm]; exact xx0 j i hj h
    · subst h; exact sy_self _
    · exact xx0 i j hi h
  · rcases Nat.lt_trichotomy i j with h | h | h
    · rw [sy_comm]; exact zz0 j i hj h
    · subst h; exact sy_self _
    · exact zz0 i j hi h
  · have := pr (j + m2) i (by omega) (by omega)
    rw [ez j hj, ex i hi] at this
    rw [sy_comm]
    by_cases e : i = j
    · subst e
      rw [show decide (i + m2 = i + m2) = true from decide_eq_true rfl] at this
      rw [if_pos rfl]; exact cn _ _ this
    · rw [show decide (j + m2 = i + m2) = false from decide_eq_false (by omega)] at this
      rw [if_neg e]; exact cz _ _ this
section
variable {m : Nat} {X Z : List PN}
theorem Sym.okN (S : Sym m X Z) (p : PN) (k : Nat) : PNok (imgN X Z p k) := imgN_ok S.ltx.ok S.ltz.ok k
/-- Which generators an image anticommutes with. -/
theorem Sym.img_z (S : Sym m X Z) (p : PN) (j : Nat) (hj : j < m) : ∀ k, k ≤ m → sy (imgN X Z p k) (Z.getD j ⟨0, 0, 0⟩) = if j < k ∧ p.x.testBit j = true then 1 else 0
  | 0, _ => by
    have h0 : pop 0 = 0 := by decide
    simp [imgN, sy, h0]
  | k + 1, hk => by
    have ih := S.img_z p j hj k (by omega)
    have hxz := S.xz k j (by omega) hj
    have hzz := S.zz k j (by omega) hj
    have o0 := S.okN p k
    have ox := S.ltx.ok.get k
    have oz := S.ltz.ok.get k
    have o1 : PNok (if p.x.testBit k = true then mulN (imgN X Z p k) (X.getD k ⟨0, 0, 0⟩) else imgN X Z p k) := by
      split
      · exact mulN_ok o0 ox
      · exact o0
    have e1 : sy (if p.x.testBit k = true then mulN (imgN X Z p k) (X.getD k ⟨0, 0, 0⟩) else imgN X Z p k) (Z.getD j ⟨0, 0, 0⟩) = if j < k + 1 ∧ p.x.testBit j = true then 1 else 0 := by
      by_cases hb : p.x.testBit k = true
      · rw [if_pos hb, sy_mul _ o0 ox, ih, hxz]
        by_cases e : k = j
        · subst e; simp [hb]
        · have : (j < k + 1) ↔ (j < k) := by omega
          rw [if_neg e]
          simp only [this]
          split <;> rfl
      · rw [if_neg hb, ih]
        by_cases e : k = j
        · subst e; simp [hb]
        · have : (j < k + 1) ↔ (j < k) := by omega
          simp only [this]
    unfold imgN
    dsimp only
    split
    · rw [sy_mul _ o1 oz, e1, hzz]; split <;> rfl
    · exact e1
theorem Sym.img_x (S : Sym m X Z) (p : PN) (j : Nat) (hj : j < m) : ∀ k, k ≤ m → sy (imgN X Z p k) (X.getD j ⟨0, 0, 0⟩) = if j < k ∧ p.z.testBit j = true then 1 else 0
  | 0, _ => by
    have h0 : pop 0 = 0 := by decide
    simp [imgN, sy, h0]
  | k + 1, hk => by
    have ih := S.img_x p j hj k (by omega)
    have hzx : sy (Z.getD k ⟨0, 0, 0⟩) (X.getD j ⟨0, 0, 0⟩) = if j = k then 1 else 0 := by rw [sy_comm]; exact S.xz j k hj (by omega)
    have hxx := S.xx k j (by omega) hj
    have o0 := S.okN p k
    have ox := S.ltx.ok.get k
    have oz := S.ltz.ok.get k
    have o1 : PNok (if p.x.testBit k = true then mulN (imgN X Z p k) (X.getD k ⟨0, 0, 0⟩) else imgN X Z p k) := by
      split
      · exact mulN_ok o0 ox
      · exact o0
    have e1 : sy (if p.x.testBit k = true then mulN (imgN X Z p k) (X.getD k ⟨0, 0, 0⟩) else imgN X Z p k) (X.getD j ⟨0, 0, 0⟩) = if j < k ∧ p.z.testBit j = true then 1 else 0 := by
      by_cases hb : p.x.testBit k = true
      · rw [if_pos hb, sy_mul _ o0 ox, ih, hxx]; split <;> rfl
      · rw [if_neg hb, ih]
    unfold imgN
    dsimp only
    by_cases hb : p.z.testBit k = true
    · rw [if_pos hb, sy_mul _ o1 oz, e1, hzx]
      by_cases e : j = k
      · subst e; simp [hb]
      · have : (j < k + 1) ↔ (j < k) := by omega
        rw [if_neg e]
        simp only [this]
        split <;> rfl
    · rw [if_neg hb, e1]
      by_cases e : j = k
      · subst e; simp [hb]
      · have : (j < k + 1) ↔ (j < k) := by omega
        simp only [this]
theorem Sym.img_par (S : Sym m X Z) (p : PN) : ∀ k, k ≤ m → (imgN X Z p k).p % 2 = (p.p + pop (p.x &&& p.z) + cb (p.x &&& p.z) k) % 2
  | 0, _ => by unfold imgN cb setB; simp
  | k + 1, hk => by
    have ih := S.img_par p k (by omega)
    have hb : bt (p.x &&& p.z) k = (p.x.testBit k && p.z.testBit k).toNat := by unfold bt; rw [Nat.testBit_and]
    have o0 := S.okN p k
    have ox := S.ltx.ok.get k
    have oz := S.ltz.ok.get k
    have i1 := S.img_x p k (by omega) k (by omega)
    have i2 := S.img_z p k (by omega) k (by omega)
    have i3 := S.xz k k (by omega) (by omega)
    have ex := S.evx k
    have ez := S.evz k
    simp only [Nat.lt_irrefl, false_and, if_false, if_true] at i1 i2 i3
    rw [cb_succ, hb]
    unfold imgN
    cases h1 : p.x.testBit k <;> cases h2 : p.z.testBit k
    · simpa using ih
    · simp only [Bool.false_eq_true, if_false, if_true, Bool.false_and, Bool.toNat_false]
      rw [mul_par o0 oz, i2]; omega
    · simp only [Bool.false_eq_true, if_false, if_true, Bool.and_false, Bool.toNat_false]
      rw [mul_par o0 ox, i1]; omega
    · simp only [if_true, Bool.and_self, Bool.toNat_true]
      have a1 := mul_par o0 ox
      rw [mul_par (mulN_ok o0 ox) oz, sy_mul _ o0 ox, i2, i3]
      rw [i1] at a1
      omega
theorem Sym.img_even (S : Sym m X Z) {x z : Nat} (hx : x < 2 ^ m) : (imgN X Z ⟨0, x, z⟩ m).p % 2 = 0 := by
  have h := S.img_par ⟨0, x, z⟩ m (Nat.le_refl _)
  dsimp only at h
  have hlt : x &&& z < 2 ^ m := Nat.lt_of_le_of_lt Nat.and_le_left hx
  rw [cb_all hlt (by have := S.m5; omega)] at h
  omega
end
/-- The bits of the operators that anticommute with p. -/
def preB (L : List PN) (p : PN) : Nat → Nat
  | 0 => 0
  | k + 1 => if commN p (L.getD k ⟨0, 0, 0⟩) = true then preB L p k else preB L p k ||| 2 ^ k
theorem preB_lt (L : List PN) (p : PN) : ∀ k, preB L p k < 2 ^ k
  | 0 => by show 0 < 1; omega
  | k + 1 => by
    have ih := preB_lt L p k
    have h1 : 2 ^ k < 2 ^ (k + 1) := Nat.pow_lt_pow_right (by omega) (by omega)
    unfold preB
    split
    · omega
    · exact Nat.or_lt_two_pow (by omega) h1
theorem preB_bit (L : List PN) (p : PN) : ∀ k j, (preB L p k).testBit j = (decide (j < k) && !commN p (L.getD j ⟨0, 0, 0⟩))
  | 0, j => by simp [preB]
  | k + 1, j => by
    have ih := preB_bit L p k j
    unfold preB
    by_cases e : j = k
    · subst e
      have e0 : (preB L p j).testBit j = false := Nat.testBit_lt_two_pow (preB_lt L p j)
      cases h : commN p (L.getD j ⟨0, 0, 0⟩)
      · rw [if_neg (by simp), Nat.testBit_or, e0]; simp [Nat.testBit_two_pow_self]
      · rw [if_pos rfl, e0]; simp
    · have e2 : decide (j < k + 1) = decide (j < k) := by rw [Bool.eq_iff_iff, decide_eq_true_eq, decide_eq_true_eq]; omega
      rw [e2, ← ih]
      split
      · rfl
      · rw [Nat.testBit_or, Nat.testBit_two_pow]; simp [Ne.symm e]
theorem preB_31 (L : List PN) (p : PN) {k : Nat} (h : k ≤ 5) : preB L p k ≤ 31 := by
  have h1 := preB_lt L p k
  have h2 : 2 ^ k ≤ 2 ^ 5 := Nat.pow_le_pow_right (by omega) h
  omega
theorem bits_eq {x y m : Nat} (hx : x < 2 ^ m) (hy : y < 2 ^ m) (h : ∀ j, j < m → x.testBit j = y.testBit j) : x = y := by
  apply Nat.eq_of_testBit_eq
  intro j
  by_cases hj : j < m
  · exact h j hj
  · rw [Nat.testBit_lt_two_pow (Nat.lt_of_lt_of_le hx (Nat.pow_le_pow_right (by omega) (by omega))), Nat.testBit_lt_two_pow (Nat.lt_of_lt_of_le hy (Nat.pow_le_pow_right (by omega) (by omega)))]
section
variable {m : Nat} {X Z : List PN}
/-- The masks tell the operator. -/
theorem Sym.only (S : Sym m X Z) {p : PN} {x z : Nat} (hx : x < 2 ^ m) (hz : z < 2 ^ m) (h1 : (imgN X Z ⟨0, x, z⟩ m).x = p.x) (h2 : (imgN X Z ⟨0, x, z⟩ m).z = p.z) : x = preB Z p m ∧ z = preB X p m := by
  constructor
  · refine bits_eq hx (preB_lt _ _ _) fun j hj => ?_
    have h := S.img_z ⟨0, x, z⟩ j hj m (Nat.le_refl _)
    rw [sy_masks _ h1 h2] at h
    rw [preB_bit, commN_sy, h]
    dsimp only
    cases x.testBit j <;> simp [hj]
  · refine bits_eq hz (preB_lt _ _ _) fun j hj => ?_
    have h := S.img_x ⟨0, x, z⟩ j hj m (Nat.le_refl _)
    rw [sy_masks _ h1 h2] at h
    rw [preB_bit, commN_sy, h]
    dsimp only
    cases z.testBit j <;> simp [hj]
end
theorem pigeon : ∀ (n : Nat) (l : List Nat), l.Nodup → (∀ x ∈ l, x < n) → l.length ≤ n
  | 0, l, _, h => by
    cases l with
    | nil => simp
    | cons a l => exact absurd (h a (by simp)) (Nat.not_lt_zero _)
  | n + 1, l, hn, h => by
    have h1 := pigeon n (l.erase n) (hn.erase n) (fun x hx => by
      have h2 := h x (List.mem_of_mem_erase hx)
      have h3 : x ≠ n := fun e => by subst e; exact hn.not_mem_erase hx
      omega)
    have h2 : l.length ≤ (l.erase n).length + 1 := by rw [List.length_erase]; split <;> omega
    omega
theorem onto {N : Nat} {f : Nat → Nat} (hf : ∀ x, x < N → f x < N) (hi : ∀ x y, x < N → y < N → f x = f y → x = y) {t : Nat} (ht : t < N) : ∃ x, x < N ∧ f x = t := by
  apply Classical.byContradiction
  intro hno
  have hno2 : ∀ x, x < N → f x ≠ t := fun x hx e => hno ⟨x, hx, e⟩
  have hnd : ((List.range N).map f).Nodup := by
    unfold List.Nodup
    rw [List.pairwise_map]
    refine List.Pairwise.imp_of_mem (R := fun a b => a ≠ b) ?_ List.nodup_range
    intro a b ha hb hab e
    exact hab (hi a b (List.mem_range.1 ha) (List.mem_range.1 hb) e)
  have h1 := pigeon N (t :: (List.range N).map f) (List.nodup_cons.2 ⟨fun h => by
    obtain ⟨x, hx, e⟩ := List.mem_map.1 h
    exact hno2 x (List.mem_range.1 hx) e, hnd⟩) (fun x hx => by
    rcases List.mem_cons.1 hx with rfl | hx
    · exact ht
    · obtain ⟨y, hy, rfl⟩ := List.mem_map.1 hx
      exact hf y (List.mem_range.1 hy))
  simp at h1
  omega
section
variable {m : Nat} {X Z : List PN}
theorem Sym.exists (S : Sym m X Z) {p : PN} (hp : p.x < 2 ^ m ∧ p.z < 2 ^ m) : (imgN X Z ⟨0, preB Z p m, preB X p m⟩ m).x = p.x ∧ (imgN X Z ⟨0, preB Z p m, preB X p m⟩ m).z = p.z := by
  obtain ⟨hpx, hpz⟩ := hp
  have hq := Nat.two_pow_pos m
  obtain ⟨q, hqe⟩ : ∃ q, q = 2 ^ m := ⟨_, rfl⟩
  rw [← hqe] at hpx hpz hq
  have hcode : ∀ a b, a < q → b < q → a * q + b < q * q := by
    intro a b ha hb
    have : (a + 1) * q ≤ q * q := Nat.mul_le_mul_right q ha
    rw [Nat.add_mul, Nat.one_mul] at this
    omega
  have hdm : ∀ a b, b < q → (a * q + b) / q = a ∧ (a * q + b) % q = b := by
    intro a b hb
    constructor
    · rw [Nat.mul_comm, Nat.mul_add_div hq, Nat.div_eq_of_lt hb]; rfl
    · rw [Nat.mul_comm, Nat.mul_add_mod, Nat.mod_eq_of_lt hb]
  obtain ⟨c, hc, hcf⟩ := onto (N := q * q) (f := fun c => (imgN X Z ⟨0, c / q, c % q⟩ m).x * q + (imgN X Z ⟨0, c / q, c % q⟩ m).z)
    (fun c _ => by
      have := imgN_lt S.ltx S.ltz ⟨0, c / q, c % q⟩ m
      rw [← hqe] at this
      exact hcode _ _ this.1 this.2)
    (fun c d hc hd e => by
      have lc := imgN_lt S.ltx S.ltz ⟨0, c / q, c % q⟩ m
      have ld := imgN_lt S.ltx S.ltz ⟨0, d / q, d % q⟩ m
      rw [← hqe] at lc ld
      (try dsimp only at e)
      have e1 := hdm (imgN X Z ⟨0, c / q, c % q⟩ m).x (imgN X Z ⟨0, c / q, c % q⟩ m).z lc.2
      have e2 := hdm (imgN X Z ⟨0, d / q, d % q⟩ m).x (imgN X Z ⟨0, d / q, d % q⟩ m).z ld.2
      rw [e] at e1
      have hx : (imgN X Z ⟨0, c / q, c % q⟩ m).x = (imgN X Z ⟨0, d / q, d % q⟩ m).x := e1.1.symm.trans e2.1
      have hz : (imgN X Z ⟨0, c / q, c % q⟩ m).z = (imgN X Z ⟨0, d / q, d % q⟩ m).z := e1.2.symm.trans e2.2
      have c1 : c / q < 2 ^ m := by rw [← hqe]; exact Nat.div_lt_of_lt_mul hc
      have d1 : d / q < 2 ^ m := by rw [← hqe]; exact Nat.div_lt_of_lt_mul hd
      have c2 : c % q < 2 ^ m := by rw [← hqe]; exact Nat.mod_lt _ hq
      have d2 : d % q < 2 ^ m := by rw [← hqe]; exact Nat.mod_lt _ hq
      have a := S.only c1 c2 hx hz
      have b := S.only d1 d2 rfl rfl
      have e3 : c / q = d / q := a.1.trans b.1.symm
      have e4 : c % q = d % q := a.2.trans b.2.symm
      rw [← Nat.div_add_mod c q, ← Nat.div_add_mod d q, e3, e4])
    (t := p.x * q + p.z) (hcode _ _ hpx hpz)
  (try dsimp only at hcf)
  have lc := imgN_lt S.ltx S.ltz ⟨0, c / q, c % q⟩ m
  rw [← hqe] at lc
  have e1 := hdm (imgN X Z ⟨0, c / q, c % q⟩ m).x (imgN X Z ⟨0, c / q, c % q⟩ m).z lc.2
  have e2 := hdm p.x p.z hpz
  rw [hcf] at e1
  have hx : (imgN X Z ⟨0, c / q, c % q⟩ m).x = p.x := e1.1.symm.trans e2.1
  have hz : (imgN X Z ⟨0, c / q, c % q⟩ m).z = p.z := e1.2.symm.trans e2.2
  have c1 : c / q < 2 ^ m := by rw [← hqe]; exact Nat.div_lt_of_lt_mul hc
  have c2 : c % q < 2 ^ m := by rw [← hqe]; exact Nat.mod_lt _ hq
  have a := S.only c1 c2 hx hz
  rw [← a.1, ← a.2]
  exact ⟨hx, hz⟩
end
/-- The operator whose image is p, up to sign. -/
def invN (X Z : List PN) (m : Nat) (p : PN) : PN := ⟨(imgN X Z ⟨0, preB Z p m, preB X p m⟩ m).p, preB Z p m, preB X p m⟩
def invXs (X Z : List PN) (m : Nat) (k : Nat) : List PN := (List.range k).map fun q => invN X Z m ⟨0, 2 ^ q, 0⟩
def invZs (X Z : List PN) (m : Nat) (k : Nat) : List PN := (List.range k).map fun q => invN X Z m ⟨0, 0, 2 ^ q⟩
theorem invXs_len (X Z : List PN) (m k : Nat) : (invXs X Z m k).length = k := by simp [invXs]
theorem invZs_len (X Z : List PN) (m k : Nat) : (invZs X Z m k).length = k := by simp [invZs]
theorem invXs_succ (X Z : List PN) (m k : Nat) : (pes (invXs X Z m (k + 1))).flatMap E3.cs = (pes (invXs X Z m k)).flatMap E3.cs ++ (invN X Z m ⟨0, 2 ^ k, 0⟩).e.cs := by
  simp [invXs, pes, List.range_succ, List.flatMap_append]
theorem invZs_succ (X Z : List PN) (m k : Nat) : (pes (invZs X Z m (k + 1))).flatMap E3.cs = (pes (invZs X Z m k)).flatMap E3.cs ++ (invN X Z m ⟨0, 0, 2 ^ k⟩).e.cs := by
  simp [invZs, pes, List.range_succ, List.flatMap_append]
noncomputable def invG (d : Tab) : Option Tab := if TabOk d then some ⟨d.n, pes (invXs (d.xs.map tn) (d.zs.map tn) d.n.toNat d.n.toNat), pes (invZs (d.xs.map tn) (d.zs.map tn) d.n.toNat d.n.toNat)⟩ else none
theorem invN_ok {m : Nat} {X Z : List PN} (S : Sym m X Z) (p : PN) : PNok (invN X Z m p) :=
  ⟨(S.okN _ _).p, preB_31 _ _ S.m5, preB_31 _ _ S.m5⟩
end Go.Proofs.YtnckabohlakbgaaGreat
namespace Go.Proofs.YtnckabohlakbgaaGreat
set_option linter.unusedSimpArgs false
set_option linter.unusedVariables false
set_option linter.unnecessarySimpa false
set_option maxRecDepth 200000
open Go.ChangeShapes Go.WideShapes Go.ChangeAt Go.RowKit

theorem mulN_phi (a b : PN) : ((mulN a b).p + pop ((mulN a b).x &&& (mulN a b).z)) % 4 = (a.p + pop (a.x &&& a.z) + b.p + pop (b.x &&& b.z) + 2 * pop (a.z &&& b.x)) % 4 := by
  unfold mulN; dsimp only; omega
theorem PN.eq_phi {a b : PN} (hx : a.x = b.x) (hz : a.z = b.z) (ha : a.p ≤ 3) (hb : b.p ≤ 3) (h : (a.p + pop (a.x &&& a.z)) % 4 = (b.p + pop (b.x &&& b.z)) % 4) : a = b := by
  refine PN.eq_of ?_ hx hz
  rw [hx, hz] at h; omega
theorem mulN_p (a b : PN) : (mulN a b).p ≤ 3 := by unfold mulN; dsimp only; omega
theorem pop_andxor {a b c : Nat} (ha : a ≤ 31) (hb : b ≤ 31) : (pop (c &&& (a ^^^ b))) % 2 = (pop (c &&& a) + pop (c &&& b)) % 2 := by
  rw [Nat.and_comm c, Nat.and_comm c, Nat.and_comm c]; exact pop_xorand ha hb
theorem mulN_assoc {a b c : PN} (ha : PNok a) (hb : PNok b) (hc : PNok c) : mulN (mulN a b) c = mulN a (mulN b c) := by
  refine PN.eq_phi (Nat.xor_assoc _ _ _) (Nat.xor_assoc _ _ _) (mulN_p _ _) (mulN_p _ _) ?_
  have h1 := mulN_phi (mulN a b) c
  have h2 := mulN_phi a b
  have h3 := mulN_phi a (mulN b c)
  have h4 := mulN_phi b c
  have h5 : (pop ((mulN a b).z &&& c.x)) % 2 = (pop (a.z &&& c.x) + pop (b.z &&& c.x)) % 2 := pop_xorand (c := c.x) ha.z hb.z
  have h6 : (pop (a.z &&& (mulN b c).x)) % 2 = (pop (a.z &&& b.x) + pop (a.z &&& c.x)) % 2 := pop_andxor (c := a.z) hb.x hc.x
  omega
def PN.one : PN := ⟨0, 0, 0⟩
theorem one_okN : PNok PN.one := ⟨by decide, by decide, by decide⟩
def sh (s : Nat) (a : PN) : PN := ⟨(a.p + s) % 4, a.x, a.z⟩
theorem sh_zero {a : PN} (h : a.p ≤ 3) : sh 0 a = a := by unfold sh; exact PN.eq_of (by dsimp only; omega) rfl rfl
theorem sh_mod {s t : Nat} (h : s % 4 = t % 4) (a : PN) : sh s a = sh t a := by unfold sh; exact PN.eq_of (by dsimp only; omega) rfl rfl
theorem sh_mulL (s : Nat) (a b : PN) : mulN (sh s a) b = sh s (mulN a b) := by
  unfold mulN sh; exact PN.eq_of (by dsimp only; omega) rfl rfl
theorem sh_mulR (s : Nat) (a b : PN) : mulN a (sh s b) = sh s (mulN a b) := by
  unfold mulN sh; exact PN.eq_of (by dsimp only; omega) rfl rfl
theorem pop_zero : pop 0 = 0 := by decide
theorem mulN_one {a : PN} (h : a.p ≤ 3) : mulN a PN.one = a := by
  unfold mulN PN.one; exact PN.eq_of (by dsimp only; simp [pop_zero]; omega) (by simp) (by simp)
theorem one_mulN {a : PN} (h : a.p ≤ 3) : mulN PN.one a = a := by
  unfold mulN PN.one; exact PN.eq_of (by dsimp only; simp [pop_zero]; omega) (by simp) (by simp)
theorem mulN_self {a : PN} (h : a.p % 2 = 0) : mulN a a = PN.one := by
  unfold mulN PN.one
  refine PN.eq_of ?_ (by simp) (by simp)
  dsimp only
  rw [Nat.xor_self, Nat.xor_self, Nat.and_comm a.z a.x]
  simp [pop_zero]; omega
theorem mulN_swap (a b : PN) : mulN b a = sh (2 * sy a b) (mulN a b) := by
  unfold mulN sh sy
  rw [Nat.xor_comm b.x a.x, Nat.xor_comm b.z a.z, Nat.and_comm b.z a.x]
  exact PN.eq_of (by dsimp only; omega) rfl rfl
def gp (a : PN) (b : Bool) : PN := if b then a else PN.one
theorem gp_ok {a : PN} (h : PNok a) (b : Bool) : PNok (gp a b) := by cases b; exact one_okN; exact h
theorem gp_mul {a : PN} (h : PNok a) (he : a.p % 2 = 0) (x u : Bool) : mulN (gp a x) (gp a u) = gp a (x ^^ u) := by
  cases x <;> cases u
  · exact mulN_one (a := PN.one) (by decide)
  · exact one_mulN h.p
  · exact mulN_one h.p
  · exact mulN_self he
theorem gp_swap {a b : PN} (ha : PNok a) (hb : PNok b) (h : sy a b = 1) (z u : Bool) : mulN (gp b z) (gp a u) = sh (2 * (z && u).toNat) (mulN (gp a u) (gp b z)) := by
  cases z <;> cases u
  · rw [show 2 * (false && false).toNat = 0 from rfl, sh_zero (mulN_p _ _)]; rfl
  · rw [show 2 * (false && true).toNat = 0 from rfl, sh_zero (mulN_p _ _)]
    show mulN PN.one a = mulN a PN.one
    rw [one_mulN ha.p, mulN_one ha.p]
  · rw [show 2 * (true && false).toNat = 0 from rfl, sh_zero (mulN_p _ _)]
    show mulN b PN.one = mulN PN.one b
    rw [one_mulN hb.p, mulN_one hb.p]
  · show mulN b a = sh 2 (mulN a b)
    rw [mulN_swap a b, h]
theorem comm_gp {a h : PN} (hh : PNok h) (hs : sy h a = 0) (b : Bool) : mulN (gp a b) h = mulN h (gp a b) := by
  cases b
  · show mulN PN.one h = mulN h PN.one
    rw [one_mulN hh.p, mulN_one hh.p]
  · show mulN a h = mulN h a
    rw [mulN_swap h a, hs, sh_zero (mulN_p _ _)]
/-- The image, by its phase and masks. -/
def imF (X Z : List PN) (f x z : Nat) : Nat → PN
  | 0 => ⟨f % 4, 0, 0⟩
  | k + 1 => mulN (mulN (imF X Z f x z k) (gp (X.getD k ⟨0, 0, 0⟩) (x.testBit k))) (gp (Z.getD k ⟨0, 0, 0⟩) (z.testBit k))
theorem imF_ok {X Z : List PN} (hX : PLok X) (hZ : PLok Z) (f x z : Nat) : ∀ k, PNok (imF X Z f x z k)
  | 0 => ⟨by unfold imF; dsimp only; omega, by simp [imF], by simp [imF]⟩
  | k + 1 => mulN_ok (mulN_ok (imF_ok hX hZ f x z k) (gp_ok (hX.get k) _)) (gp_ok (hZ.get k) _)
theorem imgN_imF {X Z : List PN} (hX : PLok X) (hZ : PLok Z) (p : PN) : ∀ k, imgN X Z p k = imF X Z (p.p + pop (p.x &&& p.z)) p.x p.z k
  | 0 => rfl
  | k + 1 => by
    have ih := imgN_imF hX hZ p k
    have ok := imF_ok hX hZ (p.p + pop (p.x &&& p.z)) p.x p.z k
    have o1 := mulN_p (imF X Z (p.p + pop (p.x &&& p.z)) p.x p.z k) (X.getD k ⟨0, 0, 0⟩)
    simp only [imgN, imF]
    rw [ih]
    cases hx : p.x.testBit k <;> cases hz : p.z.testBit k <;> simp only [gp, if_true, if_false, Bool.false_eq_true]
    · rw [mulN_one ok.p, mulN_one ok.p]
    · rw [mulN_one ok.p]
    · rw [mulN_one o1]
theorem imF_sh {X Z : List PN} (f s x z : Nat) : ∀ k, imF X Z (f + s) x z k = sh s (imF X Z f x z k)
  | 0 => by unfold imF sh; exact PN.eq_of (by dsimp only; omega) rfl rfl
  | k + 1 => by
    simp only [imF]
    rw [imF_sh f s x z k, sh_mulL, sh_mulL]
theorem imF_comm {m : Nat} {X Z : List PN} (S : Sym m X Z) (f x z : Nat) {k : Nat} (hk : k < m) : ∀ j, j ≤ k → sy (imF X Z f x z j) (X.getD k ⟨0, 0, 0⟩) = 0 ∧ sy (imF X Z f x z j) (Z.getD k ⟨0, 0, 0⟩) = 0
  | 0, _ => by
    have e : ∀ c : PN, sy ⟨f % 4, 0, 0⟩ c = 0 := fun c => by unfold sy; simp [pop_zero]
    exact ⟨e _, e _⟩
  | j + 1, hj => by
    obtain ⟨i1, i2⟩ := imF_comm S f x z hk j (by omega)
    have ok := imF_ok S.ltx.ok S.ltz.ok f x z j
    have oX := gp_ok (S.ltx.ok.get j) (x.testBit j)
    have oZ := gp_ok (S.ltz.ok.get j) (z.testBit j)
    have one : ∀ c : PN, sy PN.one c = 0 := fun c => by unfold sy PN.one; simp [pop_zero]
    have gx : ∀ c : PN, sy (X.getD j ⟨0, 0, 0⟩) c = 0 → sy (gp (X.getD j ⟨0, 0, 0⟩) (x.testBit j)) c = 0 := fun c h => by cases x.testBit j; exact one c; exact h
    have gz : ∀ c : PN, sy (Z.getD j ⟨0, 0, 0⟩) c = 0 → sy (gp (Z.getD j ⟨0, 0, 0⟩) (z.testBit j)) c = 0 := fun c h => by cases z.testBit j; exact one c; exact h
    have h1 := gx _ (S.xx j k (by omega) hk)
    have h2 := gx (Z.getD k ⟨0, 0, 0⟩) (by rw [S.xz j k (by omega) hk, if_neg (by omega)])
    have h3 := gz (X.getD k ⟨0, 0, 0⟩) (by rw [sy_comm, S.xz k j hk (by omega), if_neg (by omega)])
    have h4 := gz _ (S.zz j k (by omega) hk)
    simp only [imF]
    rw [sy_mul _ (mulN_ok ok oX) oZ, sy_mul _ ok oX, sy_mul _ (mulN_ok ok oX) oZ, sy_mul _ ok oX, i1, i2, h1, h2, h3, h4]
    exact ⟨rfl, rfl⟩
/-- The product of two images. -/
theorem imF_mul {m : Nat} {X Z : List PN} (S : Sym m X Z) (f x z g u v : Nat) : ∀ k, k ≤ m → mulN (imF X Z f x z k) (imF X Z g u v k) = imF X Z (f + g + 2 * cb (z &&& u) k) (x ^^^ u) (z ^^^ v) k
  | 0, _ => by
    unfold imF cb setB mulN
    exact PN.eq_of (by dsimp only; simp [pop_zero]) (by simp) (by simp)
  | k + 1, hk => by
    have ih := imF_mul S f x z g u v k (by omega)
    have hb : bt (z &&& u) k = (z.testBit k && u.testBit k).toNat := by unfold bt; rw [Nat.testBit_and]
    obtain ⟨c1, c2⟩ := imF_comm S g u v (show k < m by omega) k (Nat.le_refl _)
    have okG := imF_ok S.ltx.ok S.ltz.ok f x z k
    have okH := imF_ok S.ltx.ok S.ltz.ok g u v k
    have okX := S.ltx.ok.get k
    have okZ := S.ltz.ok.get k
    have hs : sy (X.getD k ⟨0, 0, 0⟩) (Z.getD k ⟨0, 0, 0⟩) = 1 := by rw [S.xz k k (by omega) (by omega), if_pos rfl]
    have ex := S.evx k
    have ez := S.evz k
    rw [show f + g + 2 * cb (z &&& u) (k + 1) = (f + g + 2 * cb (z &&& u) k) + 2 * (z.testBit k && u.testBit k).toNat by rw [cb_succ, hb]; omega, imF_sh]
    simp only [imF]
    rw [← ih, Nat.testBit_xor, Nat.testBit_xor]
    generalize imF X Z f x z k = G at *
    generalize imF X Z g u v k = H at *
    generalize X.getD k ⟨0, 0, 0⟩ = A at *
    generalize Z.getD k ⟨0, 0, 0⟩ = B at *
    generalize x.testBit k = bx at *
    generalize z.testBit k = bz at *
    generalize u.testBit k = bu at *
    generalize v.testBit k = bv at *
    have oAx := gp_ok okX bx; have oBz := gp_ok okZ bz; have oAu := gp_ok okX bu; have oBv := gp_ok okZ bv
    -- (G Ax Bz)(H Au Bv)
    rw [mulN_assoc (mulN_ok okG oAx) oBz (mulN_ok (mulN_ok okH oAu) oBv), ← mulN_assoc oBz (mulN_ok okH oAu) oBv, ← mulN_assoc oBz okH oAu, comm_gp okH c2 bz, mulN_assoc okH oBz oAu, gp_swap okX okZ hs bz bu, sh_mulR, sh_mulL, sh_mulR]
    congr 1
    rw [mulN_assoc okG oAx (mulN_ok (mulN_ok okH (mulN_ok oAu oBz)) oBv), ← mulN_assoc oAx (mulN_ok okH (mulN_ok oAu oBz)) oBv, ← mulN_assoc oAx okH (mulN_ok oAu oBz), comm_gp okH c1 bx, mulN_assoc okH oAx (mulN_ok oAu oBz), ← mulN_assoc oAx oAu oBz, gp_mul okX ex,
      mulN_assoc okH (mulN_ok (gp_ok okX _) oBz) oBv, mulN_assoc (gp_ok okX _) oBz oBv, gp_mul okZ ez, ← mulN_assoc okG okH (mulN_ok (gp_ok okX _) (gp_ok okZ _)), ← mulN_assoc (mulN_ok okG okH) (gp_ok okX _) (gp_ok okZ _)]
/-- The image of a product is the product of the images. -/
theorem Sym.hom {m : Nat} {X Z : List PN} (S : Sym m X Z) {P Q : PN} (hP : P.x < 2 ^ m ∧ P.z < 2 ^ m) (hQ : Q.x < 2 ^ m ∧ Q.z < 2 ^ m) : imgN X Z (mulN P Q) m = mulN (imgN X Z P m) (imgN X Z Q m) := by
  have hm := S.m5
  rw [imgN_imF S.ltx.ok S.ltz.ok, imgN_imF S.ltx.ok S.ltz.ok, imgN_imF S.ltx.ok S.ltz.ok, imF_mul S _ _ _ _ _ _ m (Nat.le_refl _)]
  have hlt : P.z &&& Q.x < 2 ^ m := Nat.lt_of_le_of_lt Nat.and_le_left hP.2
  rw [cb_all hlt (by omega)]
  have h := mulN_phi P Q
  show imF X Z ((mulN P Q).p + pop ((mulN P Q).x &&& (mulN P Q).z)) (P.x ^^^ Q.x) (P.z ^^^ Q.z) m = _
  have key : ∀ f g : Nat, f % 4 = g % 4 → imF X Z f (P.x ^^^ Q.x) (P.z ^^^ Q.z) m = imF X Z g (P.x ^^^ Q.x) (P.z ^^^ Q.z) m := by
    intro f g hfg
    have e1 := imF_sh (X := X) (Z := Z) 0 f (P.x ^^^ Q.x) (P.z ^^^ Q.z) m
    have e2 := imF_sh (X := X) (Z := Z) 0 g (P.x ^^^ Q.x) (P.z ^^^ Q.z) m
    rw [Nat.zero_add] at e1 e2
    rw [e1, e2, sh_mod hfg]
  exact key _ _ (by omega)
end Go.Proofs.YtnckabohlakbgaaGreat
namespace Go.Proofs.YtnckabohlakbgaaGreat
set_option linter.unusedSimpArgs false
set_option linter.unusedVariables false
set_option linter.unnecessarySimpa false
set_option maxRecDepth 200000
open Go.ChangeShapes Go.WideShapes Go.ChangeAt Go.RowKit

theorem compL_get (X Z : List PN) (n : Nat) (L : List PN) {k : Nat} (h : k < L.length) : (compL imgN X Z n L).getD k ⟨0, 0, 0⟩ = imgN X Z (L.getD k ⟨0, 0, 0⟩) n := by
  unfold compL
  simp [List.getD, h]
theorem img_scal (X Z : List PN) (f : Nat) : ∀ k, imgN X Z ⟨f, 0, 0⟩ k = ⟨f % 4, 0, 0⟩
  | 0 => by unfold imgN; exact PN.eq_of (by dsimp only; simp [pop_zero]) rfl rfl
  | k + 1 => by
    simp only [imgN, Nat.zero_testBit, Bool.false_eq_true, if_false]
    exact img_scal X Z f k
theorem img_comp {n : Nat} {X1 Z1 X2 Z2 : List PN} (S2 : Sym n X2 Z2) (h1 : LtL n X1) (h2 : LtL n Z1) (lx : X1.length = n) (lz : Z1.length = n) (P : PN) :
    ∀ k, k ≤ n → imgN (compL imgN X2 Z2 n X1) (compL imgN X2 Z2 n Z1) P k = imgN X2 Z2 (imgN X1 Z1 P k) n
  | 0, _ => by
    show (⟨(P.p + pop (P.x &&& P.z)) % 4, 0, 0⟩ : PN) = imgN X2 Z2 ⟨(P.p + pop (P.x &&& P.z)) % 4, 0, 0⟩ n
    rw [img_scal]; exact PN.eq_of (by dsimp only; omega) rfl rfl
  | k + 1, hk => by
    have ih := img_comp S2 h1 h2 lx lz P k (by omega)
    have lt := imgN_lt h1 h2 P k
    have gx := compL_get X2 Z2 n X1 (k := k) (by omega)
    have gz := compL_get X2 Z2 n Z1 (k := k) (by omega)
    have ltx := h1.get k
    have ltz := h2.get k
    simp only [imgN]
    rw [ih, gx, gz]
    cases P.x.testBit k <;> cases P.z.testBit k <;> simp only [if_true, if_false, Bool.false_eq_true]
    · rw [S2.hom lt ltz]
    · rw [S2.hom lt ltx]
    · rw [S2.hom (mulN_lt lt ltx) ltz, S2.hom lt ltx]
theorem pow_bit (q k : Nat) : (2 ^ q).testBit k = decide (q = k) := by rw [Nat.testBit_two_pow]
theorem img_genx {X Z : List PN} {q : Nat} (h : (X.getD q ⟨0, 0, 0⟩).p ≤ 3) : ∀ k, imgN X Z ⟨0, 2 ^ q, 0⟩ k = if q < k then X.getD q ⟨0, 0, 0⟩ else ⟨0, 0, 0⟩
  | 0 => by unfold imgN; simp [pop_zero]
  | k + 1 => by
    have ih := img_genx (Z := Z) h k
    simp only [imgN, Nat.zero_testBit, Bool.false_eq_true, if_false, pow_bit, decide_eq_true_eq]
    rw [ih]
    by_cases e : q = k
    · subst e
      rw [if_pos rfl, if_neg (by omega), if_pos (by omega)]
      exact one_mulN h
    · rw [if_neg e]
      by_cases h2 : q < k
      · rw [if_pos h2, if_pos (by omega)]
      · rw [if_neg h2, if_neg (by omega)]
theorem img_genz {X Z : List PN} {q : Nat} (h : (Z.getD q ⟨0, 0, 0⟩).p ≤ 3) : ∀ k, imgN X Z ⟨0, 0, 2 ^ q⟩ k = if q < k then Z.getD q ⟨0, 0, 0⟩ else ⟨0, 0, 0⟩
  | 0 => by unfold imgN; simp [pop_zero]
  | k + 1 => by
    have ih := img_genz (X := X) h k
    simp only [imgN, Nat.zero_testBit, Bool.false_eq_true, if_false, pow_bit, decide_eq_true_eq]
    rw [ih]
    by_cases e : q = k
    · subst e
      rw [if_pos rfl, if_neg (by omega), if_pos (by omega)]
      exact one_mulN h
    · rw [if_neg e]
      by_cases h2 : q < k
      · rw [if_pos h2, if_pos (by omega)]
      · rw [if_neg h2, if_neg (by omega)]
theorem comp_idx {X Z : List PN} {n : Nat} (hX : PLok X) (lx : X.length = n) : compL imgN X Z n (idPX n) = X := by
  unfold compL idPX
  refine List.ext_getElem (by simp [lx]) fun i h1 h2 => ?_
  simp only [List.getElem_map, List.getElem_range]
  rw [img_genx (hX.get i).p, if_pos (by rw [← lx]; exact h2)]
  simp [List.getD, h2]
theorem comp_idz {X Z : List PN} {n : Nat} (hZ : PLok Z) (lz : Z.length = n) : compL imgN X Z n (idPZ n) = Z := by
  unfold compL idPZ
  refine List.ext_getElem (by simp [lz]) fun i h1 h2 => ?_
  simp only [List.getElem_map, List.getElem_range]
  rw [img_genz (hZ.get i).p, if_pos (by rw [← lz]; exact h2)]
  simp [List.getD, h2]
theorem idPX_get {n k : Nat} (h : k < n) : (idPX n).getD k ⟨0, 0, 0⟩ = ⟨0, 2 ^ k, 0⟩ := by simp [idPX, List.getD, h]
theorem idPZ_get {n k : Nat} (h : k < n) : (idPZ n).getD k ⟨0, 0, 0⟩ = ⟨0, 0, 2 ^ k⟩ := by simp [idPZ, List.getD, h]
theorem mod_xor (x k : Nat) : (x % 2 ^ k) ^^^ (if x.testBit k = true then 2 ^ k else 0) = x % 2 ^ (k + 1) := by
  apply Nat.eq_of_testBit_eq
  intro i
  rw [Nat.testBit_xor, Nat.testBit_mod_two_pow, Nat.testBit_mod_two_pow]
  by_cases h : x.testBit k = true
  · rw [if_pos h, pow_bit]
    by_cases e : k = i
    · subst e; simp [h]
    · have h2 : decide (i < k + 1) = decide (i < k) := by rw [decide_eq_decide]; omega
      rw [h2]; simp [e]
  · rw [if_neg h, Nat.zero_testBit]
    by_cases e : k = i
    · subst e; simp [h]
    · have h2 : decide (i < k + 1) = decide (i < k) := by rw [decide_eq_decide]; omega
      rw [h2]; simp
theorem gp_maskx (k : Nat) (b : Bool) : (gp ⟨0, 2 ^ k, 0⟩ b).x = (if b = true then 2 ^ k else 0) ∧ (gp ⟨0, 2 ^ k, 0⟩ b).z = 0 ∧ (gp ⟨0, 2 ^ k, 0⟩ b).p = 0 := by
  cases b <;> simp [gp, PN.one]
theorem gp_maskz (k : Nat) (b : Bool) : (gp ⟨0, 0, 2 ^ k⟩ b).z = (if b = true then 2 ^ k else 0) ∧ (gp ⟨0, 0, 2 ^ k⟩ b).x = 0 ∧ (gp ⟨0, 0, 2 ^ k⟩ b).p = 0 := by
  cases b <;> simp [gp, PN.one]
theorem and_low {a k : Nat} (h : a < 2 ^ k) : a &&& 2 ^ k = 0 := by
  apply Nat.eq_of_testBit_eq
  intro i
  rw [Nat.testBit_and, pow_bit, Nat.zero_testBit]
  by_cases e : k = i
  · subst e; rw [Nat.testBit_lt_two_pow h]; rfl
  · simp [e]
theorem imF_id {n : Nat} (f x z : Nat) : ∀ k, k ≤ n → (imF (idPX n) (idPZ n) f x z k).x = x % 2 ^ k ∧ (imF (idPX n) (idPZ n) f x z k).z = z % 2 ^ k ∧
    ((imF (idPX n) (idPZ n) f x z k).p + pop ((imF (idPX n) (idPZ n) f x z k).x &&& (imF (idPX n) (idPZ n) f x z k).z)) % 4 = f % 4
  | 0, _ => by unfold imF; simp [pop_zero, Nat.mod_one]
  | k + 1, hk => by
    obtain ⟨h1, h2, h3⟩ := imF_id (n := n) f x z k (by omega)
    simp only [imF]
    rw [idPX_get (show k < n by omega), idPZ_get (show k < n by omega)]
    generalize imF (idPX n) (idPZ n) f x z k = G at *
    obtain ⟨a1, a2, a3⟩ := gp_maskx k (x.testBit k)
    obtain ⟨b1, b2, b3⟩ := gp_maskz k (z.testBit k)
    generalize gp ⟨0, 2 ^ k, 0⟩ (x.testBit k) = A at *
    generalize gp ⟨0, 0, 2 ^ k⟩ (z.testBit k) = B at *
    refine ⟨?_, ?_, ?_⟩
    · show (G.x ^^^ A.x) ^^^ B.x = _
      rw [b2, a1, h1, Nat.xor_zero, mod_xor]
    · show (G.z ^^^ A.z) ^^^ B.z = _
      rw [a2, b1, h2, Nat.xor_zero, mod_xor]
    · have e1 := mulN_phi (mulN G A) B
      have e2 := mulN_phi G A
      have z1 : G.z &&& A.x = 0 := by
        rw [a1, h2]
        split
        · exact and_low (Nat.mod_lt _ (Nat.two_pow_pos k))
        · simp
      rw [b2, b3, Nat.zero_and, Nat.and_zero, pop_zero] at e1
      rw [a2, a3, Nat.and_zero, pop_zero, z1, pop_zero] at e2
      omega
theorem img_id {n : Nat} (hn : n ≤ 5) {P : PN} (hp : P.p ≤ 3) (hx : P.x < 2 ^ n) (hz : P.z < 2 ^ n) : imgN (idPX n) (idPZ n) P n = P := by
  rw [imgN_imF (idPX_lt hn).ok (idPZ_lt hn).ok]
  obtain ⟨h1, h2, h3⟩ := imF_id (n := n) (P.p + pop (P.x &&& P.z)) P.x P.z n (Nat.le_refl _)
  have ok := imF_ok (idPX_lt hn).ok (idPZ_lt hn).ok (P.p + pop (P.x &&& P.z)) P.x P.z n
  rw [Nat.mod_eq_of_lt hx] at h1
  rw [Nat.mod_eq_of_lt hz] at h2
  exact PN.eq_phi h1 h2 ok.p hp h3
theorem comp_by_id {n : Nat} (hn : n ≤ 5) {L : List PN} (h : LtL n L) : compL imgN (idPX n) (idPZ n) n L = L := by
  unfold compL
  conv => rhs; rw [← List.map_id L]
  refine List.map_congr_left fun a ha => ?_
  exact img_id hn (h.ok.all a ha).p (h.lt a ha).1 (h.lt a ha).2
theorem imgN_sh {X Z : List PN} (hX : PLok X) (hZ : PLok Z) (s : Nat) (P : PN) (k : Nat) : imgN X Z (sh s P) k = sh s (imgN X Z P k) := by
  rw [imgN_imF hX hZ, imgN_imF hX hZ, ← imF_sh]
  have e : ∀ f g : Nat, f % 4 = g % 4 → imF X Z f P.x P.z k = imF X Z g P.x P.z k := by
    intro f g hfg
    have e1 := imF_sh (X := X) (Z := Z) 0 f P.x P.z k
    have e2 := imF_sh (X := X) (Z := Z) 0 g P.x P.z k
    rw [Nat.zero_add] at e1 e2
    rw [e1, e2, sh_mod hfg]
  exact e _ _ (by unfold sh; dsimp only; omega)
theorem Sym.sy {m : Nat} {X Z : List PN} (S : Sym m X Z) {P Q : PN} (hP : P.x < 2 ^ m ∧ P.z < 2 ^ m) (hQ : Q.x < 2 ^ m ∧ Q.z < 2 ^ m) : Go.Proofs.YtnckabohlakbgaaGreat.sy (imgN X Z P m) (imgN X Z Q m) = Go.Proofs.YtnckabohlakbgaaGreat.sy P Q := by
  have h1 := S.hom hQ hP
  rw [mulN_swap P Q, imgN_sh S.ltx.ok S.ltz.ok, S.hom hP hQ, mulN_swap (imgN X Z P m) (imgN X Z Q m)] at h1
  have h2 := congrArg PN.p h1
  unfold sh at h2
  dsimp only at h2
  have a := sy_lt P Q
  have b := sy_lt (imgN X Z P m) (imgN X Z Q m)
  omega
theorem Sym.even {m : Nat} {X Z : List PN} (S : Sym m X Z) {P : PN} (hP : P.x < 2 ^ m) (he : P.p % 2 = 0) : (imgN X Z P m).p % 2 = 0 := by
  have h := S.img_par P m (Nat.le_refl _)
  have hlt : P.x &&& P.z < 2 ^ m := Nat.lt_of_le_of_lt Nat.and_le_left hP
  have h5 := S.m5
  rw [cb_all hlt (by omega)] at h
  omega
theorem Sym.comp {m : Nat} {X1 Z1 X2 Z2 : List PN} (S1 : Sym m X1 Z1) (S2 : Sym m X2 Z2) : Sym m (compL imgN X2 Z2 m X1) (compL imgN X2 Z2 m Z1) := by
  have ev : ∀ L : List PN, LtL m L → (∀ q, (L.getD q ⟨0, 0, 0⟩).p % 2 = 0) → ∀ q, ((compL imgN X2 Z2 m L).getD q ⟨0, 0, 0⟩).p % 2 = 0 := by
    intro L hL he q
    by_cases hq : q < L.length
    · rw [compL_get _ _ _ _ hq]; exact S2.even (hL.get q).1 (he q)
    · have : (compL imgN X2 Z2 m L).getD q ⟨0, 0, 0⟩ = ⟨0, 0, 0⟩ := by simp [compL, List.getD, hq]
      rw [this]; rfl
  refine ⟨S1.m1, S1.m5, by rw [compL_len, S1.lx], by rw [compL_len, S1.lz], LtL.comp S2.ltx S2.ltz, LtL.comp S2.ltx S2.ltz, ev _ S1.ltx S1.evx, ev _ S1.ltz S1.evz, ?_, ?_, ?_⟩
  · intro i j hi hj
    rw [compL_get _ _ _ _ (by rw [S1.lx]; exact hi), compL_get _ _ _ _ (by rw [S1.lx]; exact hj), S2.sy (S1.ltx.get i) (S1.ltx.get j), S1.xx i j hi hj]
  · intro i j hi hj
    rw [compL_get _ _ _ _ (by rw [S1.lz]; exact hi), compL_get _ _ _ _ (by rw [S1.lz]; exact hj), S2.sy (S1.ltz.get i) (S1.ltz.get j), S1.zz i j hi hj]
  · intro i j hi hj
    rw [compL_get _ _ _ _ (by rw [S1.lx]; exact hi), compL_get _ _ _ _ (by rw [S1.lz]; exact hj), S2.sy (S1.ltx.get i) (S1.ltz.get j), S1.xz i j hi hj]
/-- Products of tableaux are associative. -/
theorem comp_assoc {n : Nat} {L X1 Z1 X2 Z2 : List PN} (S2 : Sym n X2 Z2) (h1 : LtL n X1) (h2 : LtL n Z1) (lx : X1.length = n) (lz : Z1.length = n) :
    compL imgN (compL imgN X2 Z2 n X1) (compL imgN X2 Z2 n Z1) n L = compL imgN X2 Z2 n (compL imgN X1 Z1 n L) := by
  unfold compL
  rw [List.map_map]
  refine List.map_congr_left fun a _ => ?_
  exact img_comp S2 h1 h2 lx lz a n (Nat.le_refl _)
end Go.Proofs.YtnckabohlakbgaaGreat
