/- Tableaux of circuits are valid; a tableau and its inverse: plain. -/
import Derived.Test.YtnckabohlakbgaaGreatZ24M
import Derived.Test.YtnckabohlakbgaaGreatZ30Ft3
namespace Go.Proofs.YtnckabohlakbgaaGreat
set_option linter.unusedSimpArgs false
set_option linter.unusedVariables false
set_option linter.unnecessarySimpa false
set_option maxRecDepth 200000
open Go.ChangeShapes Go.WideShapes Go.ChangeAt Go.RowKit

/-- The test of a tableau's images. -/
def sy5 (a b : PN) : Nat := (pop5 (a.x &&& b.z) + pop5 (a.z &&& b.x)) % 2
theorem sy_5 {a b : PN} (ha : PNok a) (hb : PNok b) : sy a b = sy5 a b := by unfold sy sy5; rw [pop_5 (and31 ha.x), pop_5 (and31 ha.z)]
def symC (m : Nat) (X Z : List PN) : Bool :=
  decide (1 ≤ m ∧ m ≤ 5) && decide (X.length = m) && decide (Z.length = m) && X.all (fun a => decide (a.p ≤ 3 ∧ a.p % 2 = 0 ∧ a.x < 2 ^ m ∧ a.z < 2 ^ m)) && Z.all (fun a => decide (a.p ≤ 3 ∧ a.p % 2 = 0 ∧ a.x < 2 ^ m ∧ a.z < 2 ^ m)) &&
    (List.range m).all (fun i => (List.range m).all (fun j => sy5 (X.getD i ⟨0, 0, 0⟩) (X.getD j ⟨0, 0, 0⟩) == 0 && sy5 (Z.getD i ⟨0, 0, 0⟩) (Z.getD j ⟨0, 0, 0⟩) == 0 && sy5 (X.getD i ⟨0, 0, 0⟩) (Z.getD j ⟨0, 0, 0⟩) == (if i = j then 1 else 0)))
theorem symC_of {m : Nat} {X Z : List PN} (h : symC m X Z = true) : Sym m X Z := by
  simp only [symC, Bool.and_eq_true, decide_eq_true_eq, List.all_eq_true, List.mem_range, beq_iff_eq] at h
  obtain ⟨⟨⟨⟨⟨⟨h1, h2⟩, h3⟩, h4⟩, h5⟩, h6⟩, h7⟩ := h
  have hp : 2 ^ m ≤ 32 := by have := Nat.pow_le_pow_right (n := 2) (by decide) h2; exact this
  have lt : ∀ L : List PN, (∀ a ∈ L, a.p ≤ 3 ∧ a.p % 2 = 0 ∧ a.x < 2 ^ m ∧ a.z < 2 ^ m) → LtL m L := fun L hL =>
    ⟨⟨fun a ha => ⟨(hL a ha).1, by have := (hL a ha).2.2.1; omega, by have := (hL a ha).2.2.2; omega⟩⟩, fun a ha => (hL a ha).2.2⟩
  have ev : ∀ L : List PN, (∀ a ∈ L, a.p ≤ 3 ∧ a.p % 2 = 0 ∧ a.x < 2 ^ m ∧ a.z < 2 ^ m) → ∀ q, (L.getD q ⟨0, 0, 0⟩).p % 2 = 0 := fun L hL q => by
    by_cases hq : q < L.length
    · rw [show L.getD q ⟨0, 0, 0⟩ = L[q] from by simp [List.getD, hq]]; exact (hL _ (List.getElem_mem hq)).2.1
    · rw [show L.getD q ⟨0, 0, 0⟩ = ⟨0, 0, 0⟩ from by simp [List.getD, hq]]; rfl
  have oX := (lt X h5).ok
  have oZ := (lt Z h6).ok
  exact ⟨h1, h2, h3, h4, lt X h5, lt Z h6, ev X h5, ev Z h6, fun i j hi hj => by rw [sy_5 (oX.get i) (oX.get j)]; exact (h7 i hi j hj).1.1, fun i j hi hj => by rw [sy_5 (oZ.get i) (oZ.get j)]; exact (h7 i hi j hj).1.2, fun i j hi hj => by rw [sy_5 (oX.get i) (oZ.get j)]; exact (h7 i hi j hj).2⟩
def okH (n k a b : Nat) : Bool := decide (a < n ∧ b < n) && (decide (k = 12 ∧ a = 0 ∧ b = 0) || (decide (9 ≤ k ∧ k ≤ 11 ∧ a ≠ b) || decide (1 ≤ k ∧ k ≤ 6 ∧ b = 0)))
def symK (n : Nat) : Bool := symC n (idPX n) (idPZ n) && (List.range 13).all fun k => (List.range n).all fun a => (List.range n).all fun b => !(okH n k a b) || symC n (gtX n k a b) (gtZ n k a b)
theorem sym_1 : symK 1 = true := by decide +kernel
theorem sym_2 : symK 2 = true := by decide +kernel
theorem sym_3 : symK 3 = true := by decide +kernel
theorem sym_4 : symK 4 = true := by decide +kernel
theorem sym_5 : symK 5 = true := by decide +kernel
theorem sym_K {n : Nat} (h1 : 1 ≤ n) (h5 : n ≤ 5) : symK n = true := by
  rcases (show n = 1 ∨ n = 2 ∨ n = 3 ∨ n = 4 ∨ n = 5 by omega) with rfl | rfl | rfl | rfl | rfl
  · exact sym_1
  · exact sym_2
  · exact sym_3
  · exact sym_4
  · exact sym_5
theorem id_symN {n : Nat} (h1 : 1 ≤ n) (h5 : n ≤ 5) : Sym n (idPX n) (idPZ n) := by
  have h := sym_K h1 h5
  unfold symK at h
  exact symC_of ((Bool.and_eq_true _ _).mp h).1
theorem gate_symN {n k a b : Nat} (h1 : 1 ≤ n) (h5 : n ≤ 5) (h : GtOk n k a b) : Sym n (gtX n k a b) (gtZ n k a b) := by
  have hk := h.kind; have ha := h.la; have hb := h.lb
  have ho : okH n k a b = true := by
    unfold okH
    simp only [Bool.and_eq_true, Bool.or_eq_true, decide_eq_true_eq]
    exact ⟨⟨ha, hb⟩, hk⟩
  have hK := sym_K h1 h5
  unfold symK at hK
  simp only [Bool.and_eq_true, List.all_eq_true, List.mem_range, Bool.or_eq_true, Bool.not_eq_true'] at hK
  rcases hK.2 k (by omega) a ha b hb with h9 | h9
  · rw [ho] at h9; cases h9
  · exact symC_of h9
/-- The tableau of a circuit. -/
theorem tof_sym {d : Circ} {n : Nat} (h : clifB d = true) (hn : d.n = (n : Int)) : ∀ k, k ≤ d.gs.length → Sym n (tofX n d.gs k) (tofZ n d.gs k)
  | 0, _ => id_symN (clif_n h hn).1 (clif_n h hn).2
  | k + 1, hk => by
    obtain ⟨kk, a, b, hg, hgt⟩ := clif_gate h hn (show k < d.gs.length by omega)
    rw [tofX_succ n (by omega) hg, tofZ_succ n (by omega) hg]
    exact Sym.comp (tof_sym h hn k (by omega)) (gate_symN (clif_n h hn).1 (clif_n h hn).2 hgt)
theorem pes_get (L : List PN) (i : Nat) : (pes L).getD i ⟨0, 0, 0⟩ = (L.getD i ⟨0, 0, 0⟩).e := by
  unfold pes
  by_cases h : i < L.length
  · simp [List.getD, h]
  · simp [List.getD, h]; rfl
theorem getD_app {α : Type} (L M : List α) (i : Nat) (d : α) : (L ++ M).getD i d = if i < L.length then L.getD i d else M.getD (i - L.length) d := by
  by_cases h : i < L.length
  · rw [if_pos h]; simp [List.getD, List.getElem?_append_left h]
  · rw [if_neg h]; simp [List.getD, List.getElem?_append_right (Nat.le_of_not_lt h)]
/-- A symplectic tableau is a valid one. -/
theorem Sym.tabOk {n : Nat} {X Z : List PN} (S : Sym n X Z) : TabOk ⟨(n : Int), pes X, pes Z⟩ := by
  have h1 := S.m1; have h5 := S.m5
  have lx : (pes X).length = n := by rw [pes_len]; exact S.lx
  have lz : (pes Z).length = n := by rw [pes_len]; exact S.lz
  have im : ∀ L : List PN, LtL n L → (∀ q, (L.getD q ⟨0, 0, 0⟩).p % 2 = 0) → ∀ i, ImOk (n : Int) (L.getD i ⟨0, 0, 0⟩).e := by
    intro L hL he i
    have a := hL.ok.get i
    have b := hL.get i
    have c := he i
    have hp : ((2 : Int) ^ n) = ((2 ^ n : Nat) : Int) := by push_cast; rfl
    unfold ImOk PauOk PN.e
    dsimp only
    rw [Int.toNat_natCast, hp]
    have := a.p
    omega
  refine ⟨⟨by dsimp only; omega, by dsimp only; omega⟩, by dsimp only; omega, by dsimp only; omega, ?_, ?_⟩
  · intro i hi
    dsimp only at hi ⊢
    rw [getD_app]
    split
    · rw [pes_get]; exact im X S.ltx S.evx i
    · rw [pes_get]; exact im Z S.ltz S.evz _
  · intro i hi j hj
    dsimp only at hi ⊢
    unfold pairB
    rw [getD_app, getD_app, lx]
    by_cases hi1 : i < n
    · rw [if_pos hi1, if_pos (by omega), pes_get, pes_get, tn_e, tn_e, commN_sy, S.xx i j hi1 (by omega), decide_eq_false (by omega)]; rfl
    · by_cases hj1 : j < n
      · rw [if_neg hi1, if_pos hj1, pes_get, pes_get, tn_e, tn_e, commN_sy, sy_comm, S.xz j (i - n) hj1 (by omega)]
        by_cases e : j = i - n
        · rw [if_pos e, decide_eq_true (by omega)]; rfl
        · rw [if_neg e, decide_eq_false (by omega)]; rfl
      · rw [if_neg hi1, if_neg hj1, pes_get, pes_get, tn_e, tn_e, commN_sy, S.zz (i - n) (j - n) (by omega) (by omega), decide_eq_false (by omega)]; rfl
section
variable {m : Nat} {X Z : List PN}
/-- What goes to p. -/
theorem Sym.inv_img (S : Sym m X Z) {p : PN} (hp : p.x < 2 ^ m ∧ p.z < 2 ^ m) (h0 : p.p = 0) : imgN X Z (invN X Z m p) m = p := by
  obtain ⟨e1, e2⟩ := S.exists hp
  have ev := S.img_even (x := preB Z p m) (z := preB X p m) (preB_lt _ _ _)
  have ok := S.okN ⟨0, preB Z p m, preB X p m⟩ m
  have hs : invN X Z m p = sh (imgN X Z ⟨0, preB Z p m, preB X p m⟩ m).p ⟨0, preB Z p m, preB X p m⟩ := by
    unfold invN sh
    exact PN.eq_of (by dsimp only; have := ok.p; omega) rfl rfl
  rw [hs, imgN_sh S.ltx.ok S.ltz.ok]
  have := ok.p
  unfold sh
  exact PN.eq_of (by dsimp only; omega) e1 e2
theorem inv_lt (p : PN) : (invN X Z m p).x < 2 ^ m ∧ (invN X Z m p).z < 2 ^ m := ⟨preB_lt _ _ _, preB_lt _ _ _⟩
theorem Sym.inv_even (S : Sym m X Z) (p : PN) : (invN X Z m p).p % 2 = 0 := S.img_even (preB_lt _ _ _)
theorem invXs_get {k q : Nat} (h : q < k) : (invXs X Z m k).getD q ⟨0, 0, 0⟩ = invN X Z m ⟨0, 2 ^ q, 0⟩ := by simp [invXs, List.getD, h]
theorem invZs_get {k q : Nat} (h : q < k) : (invZs X Z m k).getD q ⟨0, 0, 0⟩ = invN X Z m ⟨0, 0, 2 ^ q⟩ := by simp [invZs, List.getD, h]
theorem Sym.inv_sy (S : Sym m X Z) {p q : PN} (hp : p.x < 2 ^ m ∧ p.z < 2 ^ m) (h0 : p.p = 0) (hq : q.x < 2 ^ m ∧ q.z < 2 ^ m) (k0 : q.p = 0) : Go.Proofs.YtnckabohlakbgaaGreat.sy (invN X Z m p) (invN X Z m q) = Go.Proofs.YtnckabohlakbgaaGreat.sy p q := by
  have h := S.sy (inv_lt (X := X) (Z := Z) p) (inv_lt (X := X) (Z := Z) q)
  rw [S.inv_img hp h0, S.inv_img hq k0] at h
  exact h.symm
/-- The inverse is a tableau. -/
theorem Sym.inv (S : Sym m X Z) : Sym m (invXs X Z m m) (invZs X Z m m) := by
  have I := id_symN S.m1 S.m5
  have px : ∀ q, q < m → (⟨0, 2 ^ q, 0⟩ : PN).x < 2 ^ m ∧ (⟨0, 2 ^ q, 0⟩ : PN).z < 2 ^ m := fun q hq => ⟨Nat.pow_lt_pow_right (by omega) hq, Nat.two_pow_pos m⟩
  have pz : ∀ q, q < m → (⟨0, 0, 2 ^ q⟩ : PN).x < 2 ^ m ∧ (⟨0, 0, 2 ^ q⟩ : PN).z < 2 ^ m := fun q hq => ⟨Nat.two_pow_pos m, Nat.pow_lt_pow_right (by omega) hq⟩
  have lt : ∀ f : Nat → PN, LtL m ((List.range m).map fun q => invN X Z m (f q)) := fun f => by
    refine ⟨⟨fun a ha => ?_⟩, fun a ha => ?_⟩ <;> (obtain ⟨q, _, rfl⟩ := List.mem_map.1 ha)
    · exact invN_ok S _
    · exact inv_lt _
  have ev : ∀ f : Nat → PN, ∀ q, (((List.range m).map fun q => invN X Z m (f q)).getD q ⟨0, 0, 0⟩).p % 2 = 0 := fun f q => by
    by_cases hq : q < m
    · rw [show ((List.range m).map fun q => invN X Z m (f q)).getD q ⟨0, 0, 0⟩ = invN X Z m (f q) from by simp [List.getD, hq]]; exact S.inv_even _
    · rw [show ((List.range m).map fun q => invN X Z m (f q)).getD q ⟨0, 0, 0⟩ = ⟨0, 0, 0⟩ from by simp [List.getD, hq]]; rfl
  refine ⟨S.m1, S.m5, invXs_len _ _ _ _, invZs_len _ _ _ _, lt _, lt _, ev _, ev _, ?_, ?_, ?_⟩
  · intro i j hi hj
    rw [invXs_get hi, invXs_get hj, S.inv_sy (px i hi) rfl (px j hj) rfl, ← idPX_get hi, ← idPX_get hj]; exact I.xx i j hi hj
  · intro i j hi hj
    rw [invZs_get hi, invZs_get hj, S.inv_sy (pz i hi) rfl (pz j hj) rfl, ← idPZ_get hi, ← idPZ_get hj]; exact I.zz i j hi hj
  · intro i j hi hj
    rw [invXs_get hi, invZs_get hj, S.inv_sy (px i hi) rfl (pz j hj) rfl, ← idPX_get hi, ← idPZ_get hj]; exact I.xz i j hi hj
theorem Sym.inv_left (S : Sym m X Z) : compL imgN X Z m (invXs X Z m m) = idPX m ∧ compL imgN X Z m (invZs X Z m m) = idPZ m := by
  unfold compL invXs invZs idPX idPZ
  rw [List.map_map, List.map_map]
  refine ⟨List.map_congr_left fun q hq => ?_, List.map_congr_left fun q hq => ?_⟩ <;> rw [List.mem_range] at hq
  · exact S.inv_img ⟨Nat.pow_lt_pow_right (by omega) hq, Nat.two_pow_pos m⟩ rfl
  · exact S.inv_img ⟨Nat.two_pow_pos m, Nat.pow_lt_pow_right (by omega) hq⟩ rfl
/-- A tableau followed by its inverse is the identity. -/
theorem Sym.inv_right (S : Sym m X Z) : compL imgN (invXs X Z m m) (invZs X Z m m) m X = idPX m ∧ compL imgN (invXs X Z m m) (invZs X Z m m) m Z = idPZ m := by
  have B := S.inv
  have C := B.inv
  obtain ⟨b1, b2⟩ := S.inv_left
  obtain ⟨c1, c2⟩ := B.inv_left
  generalize invXs X Z m m = BX at *
  generalize invZs X Z m m = BZ at *
  generalize invXs BX BZ m m = CX at *
  generalize invZs BX BZ m m = CZ at *
  have hx : CX = X := by
    have h := comp_assoc (L := CX) S B.ltx B.ltz B.lx B.lz
    rw [b1, b2, c1, comp_by_id S.m5 C.ltx, comp_idx S.ltx.ok S.lx] at h
    exact h
  have hz : CZ = Z := by
    have h := comp_assoc (L := CZ) S B.ltx B.ltz B.lx B.lz
    rw [b1, b2, c2, comp_by_id S.m5 C.ltz, comp_idz S.ltz.ok S.lz] at h
    exact h
  rw [hx] at c1
  rw [hz] at c2
  exact ⟨c1, c2⟩
end
end Go.Proofs.YtnckabohlakbgaaGreat
namespace Go.Proofs.YtnckabohlakbgaaGreat
set_option linter.unusedSimpArgs false
set_option linter.unusedVariables false
set_option linter.unnecessarySimpa false
set_option maxRecDepth 200000
open Go.ChangeShapes Go.WideShapes Go.ChangeAt Go.RowKit

/-- The numerators of the first k gates' product. -/
def opN (n : Nat) (gs : List E3) : Nat → Nat → Nat → Rg4
  | 0 => idM
  | k + 1 => mm (2 ^ n) (gmN n (gs.getD k ⟨0, 0, 0⟩).a.toNat (gs.getD k ⟨0, 0, 0⟩).b.toNat (gs.getD k ⟨0, 0, 0⟩).c.toNat) (opN n gs k)
def opH (gs : List E3) : Nat → Nat
  | 0 => 0
  | k + 1 => gh (gs.getD k ⟨0, 0, 0⟩).a.toNat + opH gs k
theorem opN_succ (n : Nat) {gs : List E3} {k kk a b : Nat} (hg : gs.getD k ⟨0, 0, 0⟩ = ⟨(kk : Int), (a : Int), (b : Int)⟩) : opN n gs (k + 1) = mm (2 ^ n) (gmN n kk a b) (opN n gs k) := by
  show mm _ _ _ = _
  rw [hg]; simp
theorem opH_succ {gs : List E3} {k kk a b : Nat} (hg : gs.getD k ⟨0, 0, 0⟩ = ⟨(kk : Int), (a : Int), (b : Int)⟩) : opH gs (k + 1) = gh kk + opH gs k := by
  show gh _ + _ = _
  rw [hg]; simp
theorem opH_le (gs : List E3) : ∀ k, opH gs k ≤ k
  | 0 => Nat.le_refl _
  | k + 1 => by
    have := opH_le gs k
    show gh _ + _ ≤ _
    unfold gh; split <;> omega
section
variable {d : Circ} {n : Nat}
theorem opN_le (h : clifB d = true) (hn : d.n = (n : Int)) (h3 : n ≤ 3) : ∀ k, k ≤ d.gs.length → ∀ i j, i < 2 ^ n → j < 2 ^ n → (opN n d.gs k i j).le ((2 ^ opH d.gs k : Nat) : Int)
  | 0, _, i, j, _, _ => by
    show (idM i j).le 1
    unfold idM; split
    · exact one_le
    · unfold Rg4.le Rg4.zero; decide
  | k + 1, hk, i, j, hi, hj => by
    obtain ⟨kk, a, b, hg, hgt⟩ := clif_gate h hn (show k < d.gs.length by omega)
    have ih := opN_le h hn h3 k (by omega)
    obtain ⟨r1, r2⟩ := row_ok h3 hgt i hi
    rw [opN_succ n hg, opH_succ hg]
    have h1 := row_le (A := gmN n kk a b i) (B := fun l => opN n d.gs k l j) (M := ((2 ^ opH d.gs k : Nat) : Int)) (2 ^ n) (fun l hl => r2 l hl) (fun l hl => ih l j hl hj) (Int.natCast_nonneg _)
    refine Rg4.le.mono (show (mm (2 ^ n) (gmN n kk a b) (opN n d.gs k) i j).le _ from h1) ?_
    have e : ((2 ^ (gh kk + opH d.gs k) : Nat) : Int) = ((2 ^ gh kk : Nat) : Int) * ((2 ^ opH d.gs k : Nat) : Int) := by rw [Nat.pow_add]; push_cast; rfl
    rw [e]
    exact Int.mul_le_mul_of_nonneg_right (Int.ofNat_le.2 r1) (Int.natCast_nonneg _)
/-- The product of the gates' matrices carries each operator into its image. -/
theorem op_conj (h : clifB d = true) (hn : d.n = (n : Int)) (h3 : n ≤ 3) {P : PN} (hP : PNn n P) : ∀ k, k ≤ d.gs.length → Conj n (opN n d.gs k) P (imgN (tofX n d.gs k) (tofZ n d.gs k) P n)
  | 0, _ => by
    have e : imgN (idPX n) (idPZ n) P n = P := img_id (by omega) hP.p hP.x hP.z
    show Conj n idM P (imgN (idPX n) (idPZ n) P n)
    rw [e]
    intro i j hi hj
    rw [mm_idl hi, mm_idr hj]
  | k + 1, hk => by
    obtain ⟨h1, h5⟩ := clif_n h hn
    obtain ⟨kk, a, b, hg, hgt⟩ := clif_gate h hn (show k < d.gs.length by omega)
    have ih := op_conj h hn h3 hP k (by omega)
    have S := tof_sym h hn k (by omega)
    have G := gate_symN h1 h5 hgt
    have hQ : PNn n (imgN (tofX n d.gs k) (tofZ n d.gs k) P n) := by
      have a1 := imgN_lt S.ltx S.ltz P n
      exact ⟨(S.okN P n).p, a1.1, a1.2⟩
    have hc := gate_conj h1 h3 hgt hQ
    rw [opN_succ n hg, tofX_succ n (by omega) hg, tofZ_succ n (by omega) hg, img_comp G S.ltx S.ltz S.lx S.lz P n (Nat.le_refl _)]
    generalize imgN (tofX n d.gs k) (tofZ n d.gs k) P n = Q at *
    generalize imgN (gtX n kk a b) (gtZ n kk a b) Q n = Q2 at *
    generalize opN n d.gs k = U at *
    generalize gmN n kk a b = M at *
    have r : ∀ A : Nat → Nat → Rg4, EqM (2 ^ n) A A := fun A i j _ _ => rfl
    have s : ∀ A B C : Nat → Nat → Rg4, EqM (2 ^ n) (mm (2 ^ n) (mm (2 ^ n) A B) C) (mm (2 ^ n) A (mm (2 ^ n) B C)) := fun A B C i j _ _ => mm_assoc A B C i j
    have a1 := s M U (pmN n P)
    have a2 := mm_congr (r M) ih
    have a3 := (s M (pmN n Q) U).symm
    have a4 := mm_congr hc (r U)
    have a5 := s (pmN n Q2) M U
    exact a1.trans (a2.trans (a3.trans (a4.trans a5)))
end
end Go.Proofs.YtnckabohlakbgaaGreat
