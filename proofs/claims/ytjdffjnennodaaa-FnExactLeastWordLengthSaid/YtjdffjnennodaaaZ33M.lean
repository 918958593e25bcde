/- The group of tableaux, plain: products, the identity. -/
import Derived.Test.YtjdffjnennodaaaZ28M
import Derived.Test.YtjdffjnennodaaaZ32Tof2
import Derived.Test.YtjdffjnennodaaaZ00Base
namespace Go.Proofs.Ytjdffjnennodaaa
set_option linter.unusedSimpArgs false
set_option linter.unusedVariables false
set_option linter.unnecessarySimpa false
set_option maxRecDepth 200000
open Go.ChangeShapes Go.WideShapes Go.ChangeAt Go.RowKit

theorem compL_get (X Z : List PN) (n : Nat) (L : List PN) {k : Nat} (h : k < L.length) : (compL imgN X Z n L).getD k ⟨0, 0, 0⟩ = imgN X Z (L.getD k ⟨0, 0, 0⟩) n := by
  unfold compL
  simp [List.getD, h]
theorem img_scal (X Z : List PN) (f : Nat) : ∀ k, imgN X Z ⟨f, 0, 0⟩ k = ⟨f % 4, 0, 0⟩
  | 0 => by unfold imgN; exact PN.eq_of (by dsimp only; simp [pop_zero]) rfl rfl
  | k + 1 => by
    simp only [imgN, Nat.zero_testBit, Bool.false_eq_true, if_false]
    exact img_scal X Z f k
theorem img_comp {n : Nat} {X1 Z1 X2 Z2 : List PN} (S2 : Sym n X2 Z2) (h1 : LtL n X1) (h2 : LtL n Z1) (lx : X1.length = n) (lz : Z1.length = n) (P : PN) :
    ∀ k, k ≤ n → imgN (compL imgN X2 Z2 n X1) (compL imgN X2 Z2 n Z1) P k = imgN X2 Z2 (imgN X1 Z1 P k) n
  | 0, _ => by
    show (⟨(P.p + pop (P.x &&& P.z)) % 4, 0, 0⟩ : PN) = imgN X2 Z2 ⟨(P.p + pop (P.x &&& P.z)) % 4, 0, 0⟩ n
    rw [img_scal]; exact PN.eq_of (by dsimp only; omega) rfl rfl
  | k + 1, hk => by
    have ih := img_comp S2 h1 h2 lx lz P k (by omega)
    have lt := imgN_lt h1 h2 P k
    have gx := compL_get X2 Z2 n X1 (k := k) (by omega)
    have gz := compL_get X2 Z2 n Z1 (k := k) (by omega)
    have ltx := h1.get k
    have ltz := h2.get k
    simp only [imgN]
    rw [ih, gx, gz]
    cases P.x.testBit k <;> cases P.z.testBit k <;> simp only [if_true, if_false, Bool.false_eq_true]
    · rw [S2.hom lt ltz]
    · rw [S2.hom lt ltx]
    · rw [S2.hom (mulN_lt lt ltx) ltz, S2.hom lt ltx]
theorem pow_bit (q k : Nat) : (2 ^ q).testBit k = decide (q = k) := by rw [Nat.testBit_two_pow]
theorem img_genx {X Z : List PN} {q : Nat} (h : (X.getD q ⟨0, 0, 0⟩).p ≤ 3) : ∀ k, imgN X Z ⟨0, 2 ^ q, 0⟩ k = if q < k then X.getD q ⟨0, 0, 0⟩ else ⟨0, 0, 0⟩
  | 0 => by unfold imgN; simp [pop_zero]
  | k + 1 => by
    have ih := img_genx (Z := Z) h k
    simp only [imgN, Nat.zero_testBit, Bool.false_eq_true, if_false, pow_bit, decide_eq_true_eq]
    rw [ih]
    by_cases e : q = k
    · subst e
      rw [if_pos rfl, if_neg (by omega), if_pos (by omega)]
      exact one_mulN h
    · rw [if_neg e]
      by_cases h2 : q < k
      · rw [if_pos h2, if_pos (by omega)]
      · rw [if_neg h2, if_neg (by omega)]
theorem img_genz {X Z : List PN} {q : Nat} (h : (Z.getD q ⟨0, 0, 0⟩).p ≤ 3) : ∀ k, imgN X Z ⟨0, 0, 2 ^ q⟩ k = if q < k then Z.getD q ⟨0, 0, 0⟩ else ⟨0, 0, 0⟩
  | 0 => by unfold imgN; simp [pop_zero]
  | k + 1 => by
    have ih := img_genz (X := X) h k
    simp only [imgN, Nat.zero_testBit, Bool.false_eq_true, if_false, pow_bit, decide_eq_true_eq]
    rw [ih]
    by_cases e : q = k
    · subst e
      rw [if_pos rfl, if_neg (by omega), if_pos (by omega)]
      exact one_mulN h
    · rw [if_neg e]
      by_cases h2 : q < k
      · rw [if_pos h2, if_pos (by omega)]
      · rw [if_neg h2, if_neg (by omega)]
theorem comp_idx {X Z : List PN} {n : Nat} (hX : PLok X) (lx : X.length = n) : compL imgN X Z n (idPX n) = X := by
  unfold compL idPX
  refine List.ext_getElem (by simp [lx]) fun i h1 h2 => ?_
  simp only [List.getElem_map, List.getElem_range]
  rw [img_genx (hX.get i).p, if_pos (by rw [← lx]; exact h2)]
  simp [List.getD, h2]
theorem comp_idz {X Z : List PN} {n : Nat} (hZ : PLok Z) (lz : Z.length = n) : compL imgN X Z n (idPZ n) = Z := by
  unfold compL idPZ
  refine List.ext_getElem (by simp [lz]) fun i h1 h2 => ?_
  simp only [List.getElem_map, List.getElem_range]
  rw [img_genz (hZ.get i).p, if_pos (by rw [← lz]; exact h2)]
  simp [List.getD, h2]
theorem idPX_get {n k : Nat} (h : k < n) : (idPX n).getD k ⟨0, 0, 0⟩ = ⟨0, 2 ^ k, 0⟩ := by simp [idPX, List.getD, h]
theorem idPZ_get {n k : Nat} (h : k < n) : (idPZ n).getD k ⟨0, 0, 0⟩ = ⟨0, 0, 2 ^ k⟩ := by simp [idPZ, List.getD, h]
theorem mod_xor (x k : Nat) : (x % 2 ^ k) ^^^ (if x.testBit k = true then 2 ^ k else 0) = x % 2 ^ (k + 1) := by
  apply Nat.eq_of_testBit_eq
  intro i
  rw [Nat.testBit_xor, Nat.testBit_mod_two_pow, Nat.testBit_mod_two_pow]
  by_cases h : x.testBit k = true
  · rw [if_pos h, pow_bit]
    by_cases e : k = i
    · subst e; simp [h]
    · have h2 : decide (i < k + 1) = decide (i < k) := by rw [decide_eq_decide]; omega
      rw [h2]; simp [e]
  · rw [if_neg h, Nat.zero_testBit]
    by_cases e : k = i
    · subst e; simp [h]
    · have h2 : decide (i < k + 1) = decide (i < k) := by rw [decide_eq_decide]; omega
      rw [h2]; simp
theorem gp_maskx (k : Nat) (b : Bool) : (gp ⟨0, 2 ^ k, 0⟩ b).x = (if b = true then 2 ^ k else 0) ∧ (gp ⟨0, 2 ^ k, 0⟩ b).z = 0 ∧ (gp ⟨0, 2 ^ k, 0⟩ b).p = 0 := by
  cases b <;> simp [gp, PN.one]
theorem gp_maskz (k : Nat) (b : Bool) : (gp ⟨0, 0, 2 ^ k⟩ b).z = (if b = true then 2 ^ k else 0) ∧ (gp ⟨0, 0, 2 ^ k⟩ b).x = 0 ∧ (gp ⟨0, 0, 2 ^ k⟩ b).p = 0 := by
  cases b <;> simp [gp, PN.one]
theorem and_low {a k : Nat} (h : a < 2 ^ k) : a &&& 2 ^ k = 0 := by
  apply Nat.eq_of_testBit_eq
  intro i
  rw [Nat.testBit_and, pow_bit, Nat.zero_testBit]
  by_cases e : k = i
  · subst e; rw [Nat.testBit_lt_two_pow h]; rfl
  · simp [e]
theorem imF_id {n : Nat} (f x z : Nat) : ∀ k, k ≤ n → (imF (idPX n) (idPZ n) f x z k).x = x % 2 ^ k ∧ (imF (idPX n) (idPZ n) f x z k).z = z % 2 ^ k ∧
    ((imF (idPX n) (idPZ n) f x z k).p + pop ((imF (idPX n) (idPZ n) f x z k).x &&& (imF (idPX n) (idPZ n) f x z k).z)) % 4 = f % 4
  | 0, _ => by unfold imF; simp [pop_zero, Nat.mod_one]
  | k + 1, hk => by
    obtain ⟨h1, h2, h3⟩ := imF_id (n := n) f x z k (by omega)
    simp only [imF]
    rw [idPX_get (show k < n by omega), idPZ_get (show k < n by omega)]
    generalize imF (idPX n) (idPZ n) f x z k = G at *
    obtain ⟨a1, a2, a3⟩ := gp_maskx k (x.testBit k)
    obtain ⟨b1, b2, b3⟩ := gp_maskz k (z.testBit k)
    generalize gp ⟨0, 2 ^ k, 0⟩ (x.testBit k) = A at *
    generalize gp ⟨0, 0, 2 ^ k⟩ (z.testBit k) = B at *
    refine ⟨?_, ?_, ?_⟩
    · show (G.x ^^^ A.x) ^^^ B.x = _
      rw [b2, a1, h1, Nat.xor_zero, mod_xor]
    · show (G.z ^^^ A.z) ^^^ B.z = _
      rw [a2, b1, h2, Nat.xor_zero, mod_xor]
    · have e1 := mulN_phi (mulN G A) B
      have e2 := mulN_phi G A
      have z1 : G.z &&& A.x = 0 := by
        rw [a1, h2]
        split
        · exact and_low (Nat.mod_lt _ (Nat.two_pow_pos k))
        · simp
      rw [b2, b3, Nat.zero_and, Nat.and_zero, pop_zero] at e1
      rw [a2, a3, Nat.and_zero, pop_zero, z1, pop_zero] at e2
      omega
theorem img_id {n : Nat} (hn : n ≤ 5) {P : PN} (hp : P.p ≤ 3) (hx : P.x < 2 ^ n) (hz : P.z < 2 ^ n) : imgN (idPX n) (idPZ n) P n = P := by
  rw [imgN_imF (idPX_lt hn).ok (idPZ_lt hn).ok]
  obtain ⟨h1, h2, h3⟩ := imF_id (n := n) (P.p + pop (P.x &&& P.z)) P.x P.z n (Nat.le_refl _)
  have ok := imF_ok (idPX_lt hn).ok (idPZ_lt hn).ok (P.p + pop (P.x &&& P.z)) P.x P.z n
  rw [Nat.mod_eq_of_lt hx] at h1
  rw [Nat.mod_eq_of_lt hz] at h2
  exact PN.eq_phi h1 h2 ok.p hp h3
theorem comp_by_id {n : Nat} (hn : n ≤ 5) {L : List PN} (h : LtL n L) : compL imgN (idPX n) (idPZ n) n L = L := by
  unfold compL
  conv => rhs; rw [← List.map_id L]
  refine List.map_congr_left fun a ha => ?_
  exact img_id hn (h.ok.all a ha).p (h.lt a ha).1 (h.lt a ha).2
theorem imgN_sh {X Z : List PN} (hX : PLok X) (hZ : PLok Z) (s : Nat) (P : PN) (k : Nat) : imgN X Z (sh s P) k = sh s (imgN X Z P k) := by
  rw [imgN_imF hX hZ, imgN_imF hX hZ, ← imF_sh]
  have e : ∀ f g : Nat, f % 4 = g % 4 → imF X Z f P.x P.z k = imF X Z g P.x P.z k := by
    intro f g hfg
    have e1 := imF_sh (X := X) (Z := Z) 0 f P.x P.z k
    have e2 := imF_sh (X := X) (Z := Z) 0 g P.x P.z k
    rw [Nat.zero_add] at e1 e2
    rw [e1, e2, sh_mod hfg]
  exact e _ _ (by unfold sh; dsimp only; omega)
theorem Sym.sy {m : Nat} {X Z : List PN} (S : Sym m X Z) {P Q : PN} (hP : P.x < 2 ^ m ∧ P.z < 2 ^ m) (hQ : Q.x < 2 ^ m ∧ Q.z < 2 ^ m) : Go.Proofs.Ytjdffjnennodaaa.sy (imgN X Z P m) (imgN X Z Q m) = Go.Proofs.Ytjdffjnennodaaa.sy P Q := by
  have h1 := S.hom hQ hP
  rw [mulN_swap P Q, imgN_sh S.ltx.ok S.ltz.ok, S.hom hP hQ, mulN_swap (imgN X Z P m) (imgN X Z Q m)] at h1
  have h2 := congrArg PN.p h1
  unfold sh at h2
  dsimp only at h2
  have a := sy_lt P Q
  have b := sy_lt (imgN X Z P m) (imgN X Z Q m)
  omega
theorem Sym.even {m : Nat} {X Z : List PN} (S : Sym m X Z) {P : PN} (hP : P.x < 2 ^ m) (he : P.p % 2 = 0) : (imgN X Z P m).p % 2 = 0 := by
  have h := S.img_par P m (Nat.le_refl _)
  have hlt : P.x &&& P.z < 2 ^ m := Nat.lt_of_le_of_lt Nat.and_le_left hP
  have h5 := S.m5
  rw [cb_all hlt (by omega)] at h
  omega
theorem Sym.comp {m : Nat} {X1 Z1 X2 Z2 : List PN} (S1 : Sym m X1 Z1) (S2 : Sym m X2 Z2) : Sym m (compL imgN X2 Z2 m X1) (compL imgN X2 Z2 m Z1) := by
  have ev : ∀ L : List PN, LtL m L → (∀ q, (L.getD q ⟨0, 0, 0⟩).p % 2 = 0) → ∀ q, ((compL imgN X2 Z2 m L).getD q ⟨0, 0, 0⟩).p % 2 = 0 := by
    intro L hL he q
    by_cases hq : q < L.length
    · rw [compL_get _ _ _ _ hq]; exact S2.even (hL.get q).1 (he q)
    · have : (compL imgN X2 Z2 m L).getD q ⟨0, 0, 0⟩ = ⟨0, 0, 0⟩ := by simp [compL, List.getD, hq]
      rw [this]; rfl
  refine ⟨S1.m1, S1.m5, by rw [compL_len, S1.lx], by rw [compL_len, S1.lz], LtL.comp S2.ltx S2.ltz, LtL.comp S2.ltx S2.ltz, ev _ S1.ltx S1.evx, ev _ S1.ltz S1.evz, ?_, ?_, ?_⟩
  · intro i j hi hj
    rw [compL_get _ _ _ _ (by rw [S1.lx]; exact hi), compL_get _ _ _ _ (by rw [S1.lx]; exact hj), S2.sy (S1.ltx.get i) (S1.ltx.get j), S1.xx i j hi hj]
  · intro i j hi hj
    rw [compL_get _ _ _ _ (by rw [S1.lz]; exact hi), compL_get _ _ _ _ (by rw [S1.lz]; exact hj), S2.sy (S1.ltz.get i) (S1.ltz.get j), S1.zz i j hi hj]
  · intro i j hi hj
    rw [compL_get _ _ _ _ (by rw [S1.lx]; exact hi), compL_get _ _ _ _ (by rw [S1.lz]; exact hj), S2.sy (S1.ltx.get i) (S1.ltz.get j), S1.xz i j hi hj]
/-- Products of tableaux are associative. -/
theorem comp_assoc {n : Nat} {L X1 Z1 X2 Z2 : List PN} (S2 : Sym n X2 Z2) (h1 : LtL n X1) (h2 : LtL n Z1) (lx : X1.length = n) (lz : Z1.length = n) :
    compL imgN (compL imgN X2 Z2 n X1) (compL imgN X2 Z2 n Z1) n L = compL imgN X2 Z2 n (compL imgN X1 Z1 n L) := by
  unfold compL
  rw [List.map_map]
  refine List.map_congr_left fun a _ => ?_
  exact img_comp S2 h1 h2 lx lz a n (Nat.le_refl _)
end Go.Proofs.Ytjdffjnennodaaa
namespace Go.Proofs.Ytjdffjnennodaaa
set_option linter.unusedSimpArgs false
set_option linter.unusedVariables false
set_option linter.unnecessarySimpa false
set_option maxRecDepth 200000

section
variable {T : Type} (st : T → Nat → T) (e : T) (K : Nat)
def evW (w : List Nat) : T := w.foldl st e
theorem evW_snoc (w : List Nat) (g : Nat) : evW st e (w ++ [g]) = st (evW st e w) g := by simp [evW]
def VW (w : List Nat) : Prop := ∀ g ∈ w, g < K
/-- A word's place in the order. -/
def cv (w : List Nat) : Nat := w.foldl (fun a g => 8 * a + g) 1
theorem cv_snoc (w : List Nat) (g : Nat) : cv (w ++ [g]) = 8 * cv w + g := by simp [cv]
theorem snoc_of {w : List Nat} (h : w ≠ []) : ∃ v g, w = v ++ [g] := ⟨w.dropLast, w.getLast h, (List.dropLast_concat_getLast h).symm⟩
theorem cv_pos (w : List Nat) : 1 ≤ cv w := by
  by_cases h : w = []
  · subst h; decide
  · obtain ⟨v, g, rfl⟩ := snoc_of h
    have := cv_pos v
    rw [cv_snoc]; omega
termination_by w.length
decreasing_by subst_vars; simp
theorem VW.snoc {K : Nat} {w : List Nat} {g : Nat} (h : VW K (w ++ [g])) : VW K w ∧ g < K := ⟨fun x hx => h x (by simp [hx]), h g (by simp)⟩
theorem VW.add {K : Nat} {w : List Nat} {g : Nat} (h : VW K w) (hg : g < K) : VW K (w ++ [g]) := by
  intro x hx
  rcases List.mem_append.1 hx with hx | hx
  · exact h x hx
  · simp only [List.mem_singleton] at hx; subst hx; exact hg
theorem cv_len {K : Nat} (hK : K ≤ 8) (w : List Nat) (h : VW K w) : 8 ^ w.length ≤ cv w ∧ cv w < 2 * 8 ^ w.length := by
  by_cases h0 : w = []
  · subst h0; decide
  · obtain ⟨v, g, rfl⟩ := snoc_of h0
    obtain ⟨h1, h2⟩ := h.snoc
    have := cv_len hK v h1
    rw [cv_snoc, List.length_append, List.length_singleton, Nat.pow_succ]; omega
termination_by w.length
decreasing_by subst_vars; simp
theorem cv_inj {K : Nat} (hK : K ≤ 8) (w u : List Nat) (hw : VW K w) (hu : VW K u) (h : cv w = cv u) : w = u := by
  by_cases h0 : w = []
  · subst h0
    by_cases h1 : u = []
    · exact h1.symm
    · obtain ⟨v, g, rfl⟩ := snoc_of h1
      have := cv_pos v
      rw [cv_snoc, show cv [] = 1 from rfl] at h; omega
  · obtain ⟨v, g, rfl⟩ := snoc_of h0
    by_cases h1 : u = []
    · subst h1
      have := cv_pos v
      rw [cv_snoc, show cv [] = 1 from rfl] at h; omega
    · obtain ⟨v2, g2, rfl⟩ := snoc_of h1
      obtain ⟨a1, a2⟩ := hw.snoc
      obtain ⟨b1, b2⟩ := hu.snoc
      rw [cv_snoc, cv_snoc] at h
      have e1 : cv v = cv v2 := by omega
      have e2 : g = g2 := by omega
      rw [cv_inj hK v v2 a1 b1 e1, e2]
termination_by w.length
decreasing_by subst_vars; simp
theorem cv_lt_len {K : Nat} (hK : K ≤ 8) {w u : List Nat} (hw : VW K w) (hu : VW K u) (h : w.length < u.length) : cv w < cv u := by
  have h1 := (cv_len hK w hw).2
  have h2 := (cv_len hK u hu).1
  have h3 : 8 ^ (w.length + 1) ≤ 8 ^ u.length := Nat.pow_le_pow_right (by decide) h
  rw [Nat.pow_succ] at h3; omega
theorem len_of_cv {K : Nat} (hK : K ≤ 8) {w u : List Nat} (hw : VW K w) (hu : VW K u) (h : cv w ≤ cv u) : w.length ≤ u.length := by
  rcases Nat.lt_or_ge u.length w.length with h1 | h1
  · have := cv_lt_len hK hu hw h1; omega
  · exact h1
theorem cv_fold (w : List Nat) : ∀ a, w.foldl (fun a g => 8 * a + g) a = a * 8 ^ w.length + w.foldl (fun a g => 8 * a + g) 0 := by
  induction w with
  | nil => intro a; simp
  | cons g w ih =>
    intro a
    simp only [List.foldl_cons, List.length_cons]
    rw [ih (8 * a + g), ih (8 * 0 + g), Nat.pow_succ, Nat.add_mul, Nat.add_mul, Nat.mul_zero, Nat.zero_mul, Nat.zero_add, Nat.mul_comm 8 a, Nat.mul_assoc, Nat.mul_comm 8 (8 ^ w.length), Nat.add_assoc]
theorem cv_cons (g : Nat) (w : List Nat) : cv (g :: w) + 8 ^ w.length = (8 + g) * 8 ^ w.length + cv w := by
  have h1 := cv_fold w 1
  have h2 := cv_fold w (8 * 1 + g)
  rw [show (8 * 1 + g) * 8 ^ w.length = (8 + g) * 8 ^ w.length from by rw [Nat.mul_one]] at h2
  unfold cv
  simp only [List.foldl_cons]
  rw [h2, h1]
  omega
theorem cons_lt {K : Nat} (hK : K ≤ 8) {g h : Nat} {w u : List Nat} (hw : VW K w) (hu : VW K u) (hl : u.length = w.length) (hh : h < g) : cv (h :: u) < cv (g :: w) := by
  have h1 := cv_cons g w
  have h2 := cv_cons h u
  have b1 := (cv_len hK w hw).1
  have b2 := (cv_len hK u hu).2
  rw [hl] at h2 b2
  have h3 : (8 + h) * 8 ^ w.length + 8 ^ w.length ≤ (8 + g) * 8 ^ w.length := by
    have : (8 + h + 1) * 8 ^ w.length ≤ (8 + g) * 8 ^ w.length := Nat.mul_le_mul_right _ (by omega)
    rw [Nat.add_mul] at this; omega
  omega
theorem cons_le {K : Nat} (hK : K ≤ 8) {g : Nat} {w u : List Nat} (hg : g < K) (hw : VW K w) (hu : VW K u) (h : cv (g :: w) ≤ cv (g :: u)) : cv w ≤ cv u := by
  have v1 : VW K (g :: w) := fun x hx => by rcases List.mem_cons.1 hx with rfl | hx; exact hg; exact hw x hx
  have v2 : VW K (g :: u) := fun x hx => by rcases List.mem_cons.1 hx with rfl | hx; exact hg; exact hu x hx
  have hl := len_of_cv hK v1 v2 h
  simp only [List.length_cons] at hl
  rcases Nat.lt_or_ge w.length u.length with h1 | h1
  · exact Nat.le_of_lt (cv_lt_len hK hw hu h1)
  · have e : u.length = w.length := by omega
    have h2 := cv_cons g w
    have h3 := cv_cons g u
    rw [e] at h3; omega
/-- The first word of a state. -/
structure MinW (x : T) (w : List Nat) : Prop where
  vw : VW K w
  ev : evW st e w = x
  min : ∀ u, VW K u → evW st e u = x → cv w ≤ cv u
theorem MinW.inj {st : T → Nat → T} {e : T} {K : Nat} (hK : K ≤ 8) {x : T} {w u : List Nat} (h : MinW st e K x w) (h2 : MinW st e K x u) : w = u :=
  cv_inj hK w u h.vw h2.vw (Nat.le_antisymm (h.min u h2.vw h2.ev) (h2.min w h.vw h.ev))
/-- The queue: its first N states are worked off, of the next one the first j letters. -/
structure InvJ (N j : Nat) (Q : List (T × List Nat)) : Prop where
  root : Q[0]? = some (e, [])
  mw : ∀ p ∈ Q, MinW st e K p.1 p.2
  sorted : Q.Pairwise (fun p q => cv p.2 < cv q.2)
  closed : ∀ i g p, Q[i]? = some p → (i < N ∧ g < K) ∨ (i = N ∧ g < j) → ∃ q ∈ Q, q.1 = st p.1 g
  upper : ∀ q ∈ Q, q.2 = [] ∨ ∃ i p g, Q[i]? = some p ∧ ((i < N ∧ g < K) ∨ (i = N ∧ g < j)) ∧ q.2 = p.2 ++ [g]
section
variable {st e K}
variable {N j : Nat} {Q : List (T × List Nat)}
theorem pair_lt (h : Q.Pairwise (fun p q => cv p.2 < cv q.2)) {a b : Nat} {p q : T × List Nat} (ha : Q[a]? = some p) (hb : Q[b]? = some q) (hab : a < b) : cv p.2 < cv q.2 := by
  obtain ⟨h1, rfl⟩ := List.getElem?_eq_some_iff.1 ha
  obtain ⟨h2, rfl⟩ := List.getElem?_eq_some_iff.1 hb
  exact List.pairwise_iff_getElem.1 h a b h1 h2 hab
theorem index_le (h : Q.Pairwise (fun p q => cv p.2 < cv q.2)) {a b : Nat} {p q : T × List Nat} (ha : Q[a]? = some p) (hb : Q[b]? = some q) (hc : cv p.2 ≤ cv q.2) : a ≤ b := by
  rcases Nat.lt_or_ge b a with h1 | h1
  · have := pair_lt h hb ha h1; omega
  · exact h1
theorem InvJ.start : InvJ st e K 0 0 [(e, [])] := by
  refine ⟨rfl, ?_, by simp, ?_, ?_⟩
  · intro p hp
    simp only [List.mem_singleton] at hp; subst hp
    exact ⟨fun x hx => by simp at hx, rfl, fun u _ _ => cv_pos u⟩
  · rintro i g p _ (h | h) <;> omega
  · intro q hq
    simp only [List.mem_singleton] at hq; subst hq; exact .inl rfl
/-- Every word that stands before the next state's leads into the queue, no later than that. -/
theorem InvJ.reach (h : InvJ st e K N j Q) {x : T} {w : List Nat} (hN : Q[N]? = some (x, w)) (u : List Nat) (hu : VW K u) (hc : cv u ≤ cv w) : ∃ i p, i ≤ N ∧ Q[i]? = some p ∧ p.1 = evW st e u := by
  by_cases h0 : u = []
  · subst h0; exact ⟨0, _, Nat.zero_le _, h.root, rfl⟩
  · obtain ⟨v, g, rfl⟩ := snoc_of h0
    obtain ⟨h1, h2⟩ := hu.snoc
    rw [cv_snoc] at hc
    have hv := cv_pos v
    obtain ⟨i, p, hi, hp, he⟩ := InvJ.reach h hN v h1 (by omega)
    have hm := (h.mw p (List.mem_of_getElem? hp)).min v h1 he.symm
    have hne : i ≠ N := fun e2 => by subst e2; rw [hp] at hN; injection hN with hN; subst hN; dsimp only at hm; omega
    obtain ⟨q, hq, hqe⟩ := h.closed i g p hp (.inl ⟨by omega, h2⟩)
    obtain ⟨k, hk⟩ := List.getElem?_of_mem hq
    have he2 : q.1 = evW st e (v ++ [g]) := by rw [hqe, he, evW_snoc]
    have hm2 := (h.mw q hq).min (v ++ [g]) hu he2.symm
    rw [cv_snoc] at hm2
    exact ⟨k, q, index_le h.sorted hk hN (by dsimp only; omega), hk, he2⟩
termination_by u.length
decreasing_by subst_vars; simp
theorem InvJ.old (h : InvJ st e K N j Q) {x : T} {w : List Nat} (hN : Q[N]? = some (x, w)) (hin : ∃ q ∈ Q, q.1 = st x j) : InvJ st e K N (j + 1) Q := by
  refine ⟨h.root, h.mw, h.sorted, ?_, ?_⟩
  · rintro i g p hp (h1 | ⟨h1, h2⟩)
    · exact h.closed i g p hp (.inl h1)
    · subst h1
      by_cases e2 : g = j
      · subst e2; rw [hp] at hN; injection hN with hN; subst hN; exact hin
      · exact h.closed i g p hp (.inr ⟨rfl, by omega⟩)
  · intro q hq
    rcases h.upper q hq with h1 | ⟨i, p, g, hp, hg, h2⟩
    · exact .inl h1
    · exact .inr ⟨i, p, g, hp, by omega, h2⟩
theorem InvJ.new (hK : K ≤ 8) (h : InvJ st e K N j Q) {x : T} {w : List Nat} (hN : Q[N]? = some (x, w)) (hj : j < K) (hin : ¬ ∃ q ∈ Q, q.1 = st x j) : InvJ st e K N (j + 1) (Q ++ [(st x j, w ++ [j])]) := by
  have hmN := h.mw (x, w) (List.mem_of_getElem? hN)
  have hxw : evW st e w = x := hmN.ev
  have hlt : ∀ q ∈ Q, cv q.2 < cv (w ++ [j]) := by
    intro q hq
    rw [cv_snoc]
    have hwp := cv_pos w
    rcases h.upper q hq with h1 | ⟨i, p, g, hp, hg, h2⟩
    · rw [h1, show cv [] = 1 from rfl]; omega
    · rw [h2, cv_snoc]
      rcases hg with ⟨h3, h4⟩ | ⟨h3, h4⟩
      · have := pair_lt h.sorted hp hN h3; dsimp only at this; omega
      · subst h3; rw [hp] at hN; injection hN with hN; subst hN; dsimp only; omega
  have hsub : ∀ {i : Nat} {p : T × List Nat}, Q[i]? = some p → (Q ++ [(st x j, w ++ [j])])[i]? = some p := fun hp => by
    rw [List.getElem?_append_left (List.getElem?_eq_some_iff.1 hp).1]; exact hp
  have hNl : N < Q.length := (List.getElem?_eq_some_iff.1 hN).1
  refine ⟨hsub h.root, ?_, ?_, ?_, ?_⟩
  · intro p hp
    rcases List.mem_append.1 hp with hp | hp
    · exact h.mw p hp
    · simp only [List.mem_singleton] at hp; subst hp
      refine ⟨VW.add hmN.vw hj, by rw [evW_snoc, hxw], fun u hu he => ?_⟩
      rcases Nat.lt_or_ge (cv u) (cv (w ++ [j])) with hc | hc
      · exfalso
        apply hin
        by_cases h0 : u = []
        · subst h0; exact ⟨_, List.mem_of_getElem? h.root, he⟩
        · obtain ⟨v, g, rfl⟩ := snoc_of h0
          obtain ⟨v1, v2⟩ := hu.snoc
          rw [cv_snoc, cv_snoc] at hc
          obtain ⟨i, p, hi, hp, hpe⟩ := h.reach hN v v1 (by omega)
          have hst : st p.1 g = st x j := by rw [hpe]; exact (evW_snoc st e v g).symm.trans he
          by_cases e2 : i = N
          · subst e2
            rw [hp] at hN; injection hN with hN; subst hN
            have := hmN.min v v1 hpe.symm
            obtain ⟨q, hq, hqe⟩ := h.closed i g _ hp (.inr ⟨rfl, by dsimp only at this; omega⟩)
            exact ⟨q, hq, hqe.trans hst⟩
          · obtain ⟨q, hq, hqe⟩ := h.closed i g p hp (.inl ⟨by omega, v2⟩)
            exact ⟨q, hq, hqe.trans hst⟩
      · exact hc
  · rw [List.pairwise_append]
    exact ⟨h.sorted, by simp, fun q hq r hr => by simp only [List.mem_singleton] at hr; subst hr; exact hlt q hq⟩
  · intro i g p hp hg
    by_cases hi : i < Q.length
    · rw [List.getElem?_append_left hi] at hp
      by_cases e2 : i = N ∧ g = j
      · obtain ⟨rfl, rfl⟩ := e2
        rw [hp] at hN; injection hN with hN; subst hN
        exact ⟨(st x g, w ++ [g]), by simp, rfl⟩
      · obtain ⟨q, hq, hqe⟩ := h.closed i g p hp (by omega)
        exact ⟨q, by simp [hq], hqe⟩
    · rcases hg with ⟨h1, _⟩ | ⟨h1, _⟩ <;> omega
  · intro q hq
    rcases List.mem_append.1 hq with hq | hq
    · rcases h.upper q hq with h1 | ⟨i, p, g, hp, hg, h2⟩
      · exact .inl h1
      · exact .inr ⟨i, p, g, hsub hp, by omega, h2⟩
    · simp only [List.mem_singleton] at hq; subst hq
      exact .inr ⟨N, (x, w), j, hsub hN, .inr ⟨rfl, by omega⟩, rfl⟩
theorem InvJ.next (h : InvJ st e K N K Q) : InvJ st e K (N + 1) 0 Q := by
  refine ⟨h.root, h.mw, h.sorted, ?_, ?_⟩
  · rintro i g p hp (⟨h1, h2⟩ | ⟨_, h2⟩)
    · by_cases e2 : i = N
      · exact h.closed i g p hp (.inr ⟨e2, h2⟩)
      · exact h.closed i g p hp (.inl ⟨by omega, h2⟩)
    · omega
  · intro q hq
    rcases h.upper q hq with h1 | ⟨i, p, g, hp, hg, h2⟩
    · exact .inl h1
    · exact .inr ⟨i, p, g, hp, by omega, h2⟩
end
end
end Go.Proofs.Ytjdffjnennodaaa
namespace Go.Proofs.Ytjdffjnennodaaa
set_option linter.unusedSimpArgs false
set_option linter.unusedVariables false
set_option linter.unnecessarySimpa false
set_option maxRecDepth 200000

section
variable {T : Type} (st : T → Nat → T) (e : T) (K : Nat)
/-- The answer: a state's first word, if it has one of 12 letters or fewer. -/
def LW (t : T) (r : Option (List Nat)) : Prop :=
  (∀ w, r = some w → MinW st e K t w ∧ w.length ≤ 12) ∧ (r = none → ∀ u, VW K u → u.length ≤ 12 → evW st e u ≠ t)
open Classical in
noncomputable def lwOf (t : T) : Option (List Nat) := if h : ∃ w, MinW st e K t w ∧ w.length ≤ 12 then some h.choose else none
section
variable {st e K}
theorem LW.eq (hK : K ≤ 8) {t : T} {r : Option (List Nat)} (h : LW st e K t r) : r = lwOf st e K t := by
  unfold lwOf
  split
  · rename_i hx
    cases r with
    | none => exact absurd hx.choose_spec.1.ev (h.2 rfl _ hx.choose_spec.1.vw hx.choose_spec.2)
    | some w => rw [MinW.inj hK (h.1 w rfl).1 hx.choose_spec.1]
  · rename_i hx
    cases r with
    | none => rfl
    | some w => exact absurd ⟨w, h.1 w rfl⟩ hx
theorem LW.found {t : T} {w : List Nat} (h : MinW st e K t w) (h2 : w.length ≤ 12) : LW st e K t (some w) :=
  ⟨fun u hu => by injection hu with hu; subst hu; exact ⟨h, h2⟩, fun hn => by cases hn⟩
variable {N j : Nat} {Q : List (T × List Nat)}
/-- All words of at most D letters lead into the queue. -/
theorem InvJ.short (hK : K ≤ 8) (h : InvJ st e K N 0 Q) {D : Nat} (hl : ∀ i p, Q[i]? = some p → N ≤ i → D ≤ p.2.length) (u : List Nat) (hu : VW K u) (hd : u.length ≤ D) : ∃ (i : Nat) (p : T × List Nat), Q[i]? = some p ∧ p.1 = evW st e u ∧ p.2.length ≤ u.length := by
  have fin : (∃ p ∈ Q, p.1 = evW st e u) → ∃ (i : Nat) (p : T × List Nat), Q[i]? = some p ∧ p.1 = evW st e u ∧ p.2.length ≤ u.length := by
    rintro ⟨p, hp, he⟩
    obtain ⟨i, hi⟩ := List.getElem?_of_mem hp
    exact ⟨i, p, hi, he, len_of_cv hK (h.mw p hp).vw hu ((h.mw p hp).min u hu he.symm)⟩
  apply fin
  by_cases h0 : u = []
  · subst h0; exact ⟨_, List.mem_of_getElem? h.root, rfl⟩
  · obtain ⟨v, g, rfl⟩ := snoc_of h0
    obtain ⟨v1, v2⟩ := hu.snoc
    rw [List.length_append, List.length_singleton] at hd
    obtain ⟨i, p, hp, he, hle⟩ := InvJ.short hK h hl v v1 (by omega)
    have hiN : i < N := by
      rcases Nat.lt_or_ge i N with h1 | h1
      · exact h1
      · have := hl i p hp h1; omega
    obtain ⟨q, hq, hqe⟩ := h.closed i g p hp (.inl ⟨hiN, v2⟩)
    exact ⟨q, hq, by rw [hqe, he, evW_snoc]⟩
termination_by u.length
decreasing_by subst_vars; simp
theorem LW.none_prog (hK : K ≤ 8) (h : InvJ st e K N 0 Q) {t : T} (hl : ∀ i p, Q[i]? = some p → N ≤ i → 13 ≤ p.2.length) (hn : ∀ i p, Q[i]? = some p → i < N → p.1 ≠ t) : LW st e K t none := by
  refine ⟨fun w hw => (by cases hw), fun _ u hu hd he => ?_⟩
  obtain ⟨i, p, hp, hpe, hle⟩ := h.short hK hl u hu (by omega)
  have hiN : i < N := by
    rcases Nat.lt_or_ge i N with h1 | h1
    · exact h1
    · have := hl i p hp h1; omega
  exact hn i p hp hiN (hpe.trans he)
theorem LW.none_spec (hK : K ≤ 8) (h : InvJ st e K N 0 Q) {t : T} (hl : ∀ i p, Q[i]? = some p → N ≤ i → 12 ≤ p.2.length) (hn : ¬ ∃ p ∈ Q, p.1 = t) : LW st e K t none := by
  refine ⟨fun w hw => (by cases hw), fun _ u hu hd he => ?_⟩
  obtain ⟨i, p, hp, hpe, _⟩ := h.short hK hl u hu hd
  exact hn ⟨p, List.mem_of_getElem? hp, hpe.trans he⟩
/-- Every word that is shorter than a state's in the queue leads into the queue. -/
theorem InvJ.below (hK : K ≤ 8) (h : InvJ st e K N j Q) {t : T} {w : List Nat} (ht : (t, w) ∈ Q) (u : List Nat) (hu : VW K u) (hd : u.length < w.length) : ∃ p ∈ Q, p.1 = evW st e u := by
  by_cases h0 : u = []
  · subst h0; exact ⟨_, List.mem_of_getElem? h.root, rfl⟩
  · obtain ⟨v, g, rfl⟩ := snoc_of h0
    obtain ⟨v1, v2⟩ := hu.snoc
    rw [List.length_append, List.length_singleton] at hd
    obtain ⟨q, hq, he⟩ := InvJ.below hK h ht v v1 (by omega)
    rcases h.upper (t, w) ht with h1 | ⟨i, p, g2, hp, hg, h2⟩
    · dsimp only at h1; subst h1; simp at hd
    · dsimp only at h2
      have hpm := List.mem_of_getElem? hp
      have hle := len_of_cv hK (h.mw q hq).vw v1 ((h.mw q hq).min v v1 he.symm)
      have hwl : w.length = p.2.length + 1 := by rw [h2]; simp
      obtain ⟨k, hk⟩ := List.getElem?_of_mem hq
      have hc := cv_lt_len hK (h.mw q hq).vw (h.mw p hpm).vw (by omega)
      have hki : k < i := by
        rcases Nat.lt_or_ge k i with h3 | h3
        · exact h3
        · rcases Nat.eq_or_lt_of_le h3 with h4 | h4
          · subst h4; rw [hp] at hk; injection hk with hk; subst hk; omega
          · have := pair_lt h.sorted hp hk h4; omega
      obtain ⟨r, hr, hre⟩ := h.closed k g q hk (.inl ⟨by omega, v2⟩)
      exact ⟨r, hr, by rw [hre, he, evW_snoc]⟩
termination_by u.length
decreasing_by subst_vars; simp
/-- What going back by a letter means. -/
structure BackOk (st : T → Nat → T) (e : T) (K : Nat) (bk : T → Nat → T) : Prop where
  one : ∀ g w, g < K → VW K w → bk (evW st e (g :: w)) g = evW st e w
  two : ∀ g w u, g < K → VW K w → VW K u → evW st e u = bk (evW st e w) g → evW st e (g :: u) = evW st e w
theorem MinW.back (hK : K ≤ 8) {bk : T → Nat → T} (B : BackOk st e K bk) {t : T} {g : Nat} {w : List Nat} (h : MinW st e K t (g :: w)) : MinW st e K (bk t g) w := by
  have hg : g < K := h.vw g (by simp)
  have hw : VW K w := fun x hx => h.vw x (by simp [hx])
  refine ⟨hw, ?_, fun u hu he => ?_⟩
  · rw [← h.ev, B.one g w hg hw]
  · have h1 := B.two g (g :: w) u hg h.vw hu (by rw [h.ev]; exact he)
    rw [h.ev] at h1
    exact cons_le hK hg hw hu (h.min (g :: u) (fun x hx => by rcases List.mem_cons.1 hx with rfl | hx; exact hg; exact hu x hx) h1)
theorem MinW.skip (hK : K ≤ 8) {bk : T → Nat → T} (B : BackOk st e K bk) {t : T} {g k : Nat} {w v : List Nat} (h : MinW st e K t (g :: w)) (hk : k < g) (hv : MinW st e K (bk t k) v) : w.length < v.length := by
  have hg : g < K := h.vw g (by simp)
  have hw : VW K w := fun x hx => h.vw x (by simp [hx])
  have h1 := B.two k (g :: w) v (by omega) h.vw hv.vw (by rw [h.ev]; exact hv.ev)
  rw [h.ev] at h1
  have hvk : VW K (k :: v) := fun x hx => by rcases List.mem_cons.1 hx with rfl | hx; omega; exact hv.vw x hx
  have h2 := h.min (k :: v) hvk h1
  have h3 := len_of_cv hK h.vw hvk h2
  simp only [List.length_cons] at h3
  rcases Nat.lt_or_ge w.length v.length with h4 | h4
  · exact h4
  · have := cons_lt hK hw hv.vw (by omega) hk
    omega
end
end
end Go.Proofs.Ytjdffjnennodaaa
namespace Go.Proofs.Ytjdffjnennodaaa
set_option linter.unusedSimpArgs false
set_option linter.unusedVariables false
set_option linter.unnecessarySimpa false
set_option maxRecDepth 200000
open Go.ChangeShapes Go.WideShapes Go.ChangeAt Go.RowKit

abbrev TT := List PN × List PN
/-- The letters: kind and two qubits. -/
def LL (n : Nat) : List (Nat × Nat × Nat) := if n = 1 then [(1, 0, 0), (5, 0, 0)] else [(1, 0, 0), (5, 0, 0), (1, 1, 0), (5, 1, 0), (9, 0, 1), (9, 1, 0)]
def KK (n : Nat) : Nat := (LL n).length
def ltr3 (n g : Nat) : Nat × Nat × Nat := (LL n).getD g (1, 0, 0)
def gX (n g : Nat) : List PN := gtX n (ltr3 n g).1 (ltr3 n g).2.1 (ltr3 n g).2.2
def gZ (n g : Nat) : List PN := gtZ n (ltr3 n g).1 (ltr3 n g).2.1 (ltr3 n g).2.2
def gIX (n g : Nat) : List PN := invXs (gX n g) (gZ n g) n n
def gIZ (n g : Nat) : List PN := invZs (gX n g) (gZ n g) n n
def idT2 (n : Nat) : TT := (idPX n, idPZ n)
/-- A tableau, then another one. -/
def cmp (n : Nat) (a x : TT) : TT := (compL imgN x.1 x.2 n a.1, compL imgN x.1 x.2 n a.2)
def gT (n g : Nat) : TT := (gX n g, gZ n g)
def giT (n g : Nat) : TT := (gIX n g, gIZ n g)
def stT (n : Nat) (x : TT) (g : Nat) : TT := cmp n x (gT n g)
def bkT (n : Nat) (x : TT) (g : Nat) : TT := cmp n (giT n g) x
def SymT (n : Nat) (x : TT) : Prop := Sym n x.1 x.2
/-- The test of a tableau's images. -/
def symB (m : Nat) (X Z : List PN) : Bool :=
  decide (1 ≤ m ∧ m ≤ 5) && decide (X.length = m) && decide (Z.length = m) && X.all (fun a => decide (a.p ≤ 3 ∧ a.p % 2 = 0 ∧ a.x < 2 ^ m ∧ a.z < 2 ^ m)) && Z.all (fun a => decide (a.p ≤ 3 ∧ a.p % 2 = 0 ∧ a.x < 2 ^ m ∧ a.z < 2 ^ m)) &&
    (List.range m).all (fun i => (List.range m).all (fun j => sy (X.getD i ⟨0, 0, 0⟩) (X.getD j ⟨0, 0, 0⟩) == 0 && sy (Z.getD i ⟨0, 0, 0⟩) (Z.getD j ⟨0, 0, 0⟩) == 0 && sy (X.getD i ⟨0, 0, 0⟩) (Z.getD j ⟨0, 0, 0⟩) == (if i = j then 1 else 0)))
theorem sym_of {m : Nat} {X Z : List PN} (h : symB m X Z = true) : Sym m X Z := by
  simp only [symB, Bool.and_eq_true, decide_eq_true_eq, List.all_eq_true, List.mem_range, beq_iff_eq] at h
  obtain ⟨⟨⟨⟨⟨⟨h1, h2⟩, h3⟩, h4⟩, h5⟩, h6⟩, h7⟩ := h
  have hp : 2 ^ m ≤ 32 := by have := Nat.pow_le_pow_right (n := 2) (by decide) h2; exact this
  have lt : ∀ L : List PN, (∀ a ∈ L, a.p ≤ 3 ∧ a.p % 2 = 0 ∧ a.x < 2 ^ m ∧ a.z < 2 ^ m) → LtL m L := fun L hL =>
    ⟨⟨fun a ha => ⟨(hL a ha).1, by have := (hL a ha).2.2.1; omega, by have := (hL a ha).2.2.2; omega⟩⟩, fun a ha => (hL a ha).2.2⟩
  have ev : ∀ L : List PN, (∀ a ∈ L, a.p ≤ 3 ∧ a.p % 2 = 0 ∧ a.x < 2 ^ m ∧ a.z < 2 ^ m) → ∀ q, (L.getD q ⟨0, 0, 0⟩).p % 2 = 0 := fun L hL q => by
    by_cases hq : q < L.length
    · rw [show L.getD q ⟨0, 0, 0⟩ = L[q] from by simp [List.getD, hq]]; exact (hL _ (List.getElem_mem hq)).2.1
    · rw [show L.getD q ⟨0, 0, 0⟩ = ⟨0, 0, 0⟩ from by simp [List.getD, hq]]; rfl
  exact ⟨h1, h2, h3, h4, lt X h5, lt Z h6, ev X h5, ev Z h6, fun i j hi hj => (h7 i hi j hj).1.1, fun i j hi hj => (h7 i hi j hj).1.2, fun i j hi hj => (h7 i hi j hj).2⟩
def gatesB (n g : Nat) : Bool :=
  symB n (gX n g) (gZ n g) && symB n (gIX n g) (gIZ n g) && decide (cmp n (giT n g) (gT n g) = idT2 n) && decide (cmp n (gT n g) (giT n g) = idT2 n)
theorem gates_ok : ∀ n : Fin 3, 1 ≤ n.val → ∀ g : Fin 6, g.val < KK n.val → gatesB n.val g.val = true := by decide +kernel
theorem id_ok : ∀ n : Fin 3, 1 ≤ n.val → symB n.val (idPX n.val) (idPZ n.val) = true := by decide +kernel
section
variable {n : Nat}
theorem KK_le (n : Nat) : KK n ≤ 6 := by unfold KK LL; split <;> decide
theorem gate_sym (h1 : 1 ≤ n) (h2 : n ≤ 2) {g : Nat} (hg : g < KK n) : SymT n (gT n g) ∧ SymT n (giT n g) ∧ cmp n (giT n g) (gT n g) = idT2 n ∧ cmp n (gT n g) (giT n g) = idT2 n := by
  have := KK_le n
  have h := gates_ok ⟨n, by omega⟩ h1 ⟨g, by omega⟩ hg
  simp only [gatesB, Bool.and_eq_true, decide_eq_true_eq] at h
  exact ⟨sym_of h.1.1.1, sym_of h.1.1.2, h.1.2, h.2⟩
theorem id_sym (h1 : 1 ≤ n) (h2 : n ≤ 2) : SymT n (idT2 n) := sym_of (id_ok ⟨n, by omega⟩ h1)
theorem SymT.cmp {a x : TT} (ha : SymT n a) (hx : SymT n x) : SymT n (cmp n a x) := Sym.comp ha hx
theorem cmp_assoc {a b c : TT} (hb : SymT n b) (hc : SymT n c) : Go.Proofs.Ytjdffjnennodaaa.cmp n (Go.Proofs.Ytjdffjnennodaaa.cmp n a b) c = Go.Proofs.Ytjdffjnennodaaa.cmp n a (Go.Proofs.Ytjdffjnennodaaa.cmp n b c) := by
  unfold Go.Proofs.Ytjdffjnennodaaa.cmp
  rw [comp_assoc (L := a.1) hc hb.ltx hb.ltz hb.lx hb.lz, comp_assoc (L := a.2) hc hb.ltx hb.ltz hb.lx hb.lz]
theorem cmp_id {x : TT} (hx : SymT n x) : Go.Proofs.Ytjdffjnennodaaa.cmp n (idT2 n) x = x := by
  unfold Go.Proofs.Ytjdffjnennodaaa.cmp idT2
  rw [comp_idx hx.ltx.ok hx.lx, comp_idz hx.ltz.ok hx.lz]
theorem cmp_by {x : TT} (hx : SymT n x) : Go.Proofs.Ytjdffjnennodaaa.cmp n x (idT2 n) = x := by
  unfold Go.Proofs.Ytjdffjnennodaaa.cmp idT2
  rw [comp_by_id hx.m5 hx.ltx, comp_by_id hx.m5 hx.ltz]
theorem ev_from (h1 : 1 ≤ n) (h2 : n ≤ 2) : ∀ (w : List Nat) (a : TT), SymT n a → VW (KK n) w → SymT n (evW (stT n) (idT2 n) w) ∧ evW (stT n) a w = Go.Proofs.Ytjdffjnennodaaa.cmp n a (evW (stT n) (idT2 n) w)
  | [], a, ha, _ => ⟨id_sym h1 h2, (cmp_by ha).symm⟩
  | g :: w, a, ha, hw => by
    have hg : g < KK n := hw g (by simp)
    have hw2 : VW (KK n) w := fun x hx => hw x (by simp [hx])
    obtain ⟨sg, _, _, _⟩ := gate_sym h1 h2 hg
    obtain ⟨s1, _⟩ := ev_from h1 h2 w (idT2 n) (id_sym h1 h2) hw2
    have e1 := (ev_from h1 h2 w (stT n (idT2 n) g) (SymT.cmp (id_sym h1 h2) sg) hw2).2
    have e2 := (ev_from h1 h2 w (stT n a g) (SymT.cmp ha sg) hw2).2
    have e3 : evW (stT n) (idT2 n) (g :: w) = Go.Proofs.Ytjdffjnennodaaa.cmp n (gT n g) (evW (stT n) (idT2 n) w) := by
      show evW (stT n) (stT n (idT2 n) g) w = _
      rw [e1, show stT n (idT2 n) g = Go.Proofs.Ytjdffjnennodaaa.cmp n (idT2 n) (gT n g) from rfl, cmp_id sg]
    refine ⟨by rw [e3]; exact SymT.cmp sg s1, ?_⟩
    rw [e3]
    show evW (stT n) (stT n a g) w = _
    rw [e2, show stT n a g = Go.Proofs.Ytjdffjnennodaaa.cmp n a (gT n g) from rfl, cmp_assoc sg s1]
theorem ev_sym (h1 : 1 ≤ n) (h2 : n ≤ 2) {w : List Nat} (hw : VW (KK n) w) : SymT n (evW (stT n) (idT2 n) w) := (ev_from h1 h2 w _ (id_sym h1 h2) hw).1
theorem ev_cons (h1 : 1 ≤ n) (h2 : n ≤ 2) {g : Nat} {w : List Nat} (hg : g < KK n) (hw : VW (KK n) w) : evW (stT n) (idT2 n) (g :: w) = Go.Proofs.Ytjdffjnennodaaa.cmp n (gT n g) (evW (stT n) (idT2 n) w) := by
  obtain ⟨sg, _, _, _⟩ := gate_sym h1 h2 hg
  show evW (stT n) (Go.Proofs.Ytjdffjnennodaaa.cmp n (idT2 n) (gT n g)) w = _
  rw [(ev_from h1 h2 w _ (SymT.cmp (id_sym h1 h2) sg) hw).2, cmp_id sg]
theorem back_ok (h1 : 1 ≤ n) (h2 : n ≤ 2) : BackOk (stT n) (idT2 n) (KK n) (bkT n) := by
  refine ⟨fun g w hg hw => ?_, fun g w u hg hw hu he => ?_⟩
  · obtain ⟨sg, si, e1, e2⟩ := gate_sym h1 h2 hg
    have sw := ev_sym h1 h2 hw
    unfold bkT
    rw [ev_cons h1 h2 hg hw, ← cmp_assoc sg sw, e1, cmp_id sw]
  · obtain ⟨sg, si, e1, e2⟩ := gate_sym h1 h2 hg
    have sw := ev_sym h1 h2 hw
    rw [ev_cons h1 h2 hg hu, he]
    unfold bkT
    rw [← cmp_assoc si sw, e2, cmp_id sw]
end
end Go.Proofs.Ytjdffjnennodaaa
