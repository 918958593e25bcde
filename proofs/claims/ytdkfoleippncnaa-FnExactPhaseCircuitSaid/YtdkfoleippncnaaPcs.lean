/- RotP, Pc0, DelT, Pc1, Pc2, Pc3, Pc4 in one text. -/
import Derived.Test.YtdkfoleippncnaaRot
import Derived.Test.YtdkfoleippncnaaGate1
import Derived.Test.YtdkfoleippncnaaPp0
import Derived.Test.YtdkfoleippncnaaRot2
import Derived.Test.YtdkfoleippncnaaSyns
import Derived.Test.YtdkfoleippncnaaSetB
import Derived.Test.YtdkfoleippncnaaTyTerm
import Derived.Test.YtdkfoleippncnaaWords
import Derived.Test.YtdkfoleippncnaaOwnG
import Derived.Test.YtdkfoleippncnaaSet1
import Derived.Test.YtdkfoleippncnaaPp2
import Derived.Test.YtdkfoleippncnaaPar2
import Derived.Test.YtdkfoleippncnaaBrk
import Derived.Test.YtdkfoleippncnaaElGate
import Derived.Test.YtdkfoleippncnaaTyGate
import Derived.Test.YtdkfoleippncnaaShelf
import Derived.Shelf.RegionOpenPlain
import Derived.WalkSpells
import Derived.Deep.LoopGhost
import Derived.Shelf.Abstract
import Derived.Lib.SliceRun
import Derived.Deep.RegionLaw
import Derived.BigRegion
import Derived.BigQuiet
namespace Go.Proofs.Ytdkfoleippncnaa
set_option linter.unusedSimpArgs false
set_option linter.unusedVariables false
set_option linter.unnecessarySimpa false
set_option maxRecDepth 200000
open Go.ChangeShapes Go.WideShapes Go.ChangeAt Go.RowKit

theorem rotK_len (c : Int) : (rotKinds c).length ≤ 2 := by
  unfold rotKinds; repeat (first | split | decide)
theorem rotK_in {c k : Int} (h : k ∈ rotKinds c) : 4 ≤ k ∧ k ≤ 8 := by
  unfold rotKinds at h
  repeat (first | (simp at h; omega) | split at h)
theorem rotF_len (q c : Int) : (rotF q c).length ≤ 2 := by unfold rotF; rw [List.length_map]; exact rotK_len c
theorem rot_ok {n q : Nat} {c : Int} (hn : n ≤ 5) (hq : q < n) {g : E3} (hg : g ∈ rotF (q : Int) c) : GateOk (n : Int) g := by
  unfold rotF at hg
  obtain ⟨k, hk, rfl⟩ := List.mem_map.1 hg
  have := rotK_in hk
  unfold GateOk
  dsimp only
  omega
end Go.Proofs.Ytdkfoleippncnaa
namespace Go.Proofs.Ytdkfoleippncnaa
set_option linter.unusedSimpArgs false
set_option linter.unusedVariables false
set_option linter.unnecessarySimpa false
set_option maxRecDepth 200000
open Go.ChangeShapes Go.WideShapes Go.ChangeAt Go.RowKit

/-- The greatest place of a one bit. -/
def topN (m : Nat) : Nat := m.log2
theorem bits_top (m : Nat) (h : m < 32) (h1 : 1 ≤ m) : bitsOf m = setB m (topN m) ++ [topN m] := by
  have : ∀ m : Nat, m < 32 → 1 ≤ m → bitsOf m = setB m (topN m) ++ [topN m] := by decide +kernel
  exact this m h h1
theorem top_lt {m n : Nat} (hn : n ≤ 5) (h1 : 1 ≤ m) (h : m < 2 ^ n) : topN m < n := (Nat.log2_lt (by omega)).2 h
theorem top_le {m : Nat} (h1 : 1 ≤ m) (h : m < 32) : topN m ≤ 4 := by have := top_lt (n := 5) (by omega) h1 (by omega); omega
/-- The gates that add the lower bits of a mask to its greatest one. -/
def notTo (m k : Nat) : List E3 := (setB m k).map fun q : Nat => (⟨9, (q : Int), (topN m : Int)⟩ : E3)
theorem notTo_succ (m k : Nat) : notTo m (k + 1) = if m.testBit k = true then notTo m k ++ [⟨9, (k : Int), (topN m : Int)⟩] else notTo m k := by
  unfold notTo
  rw [setB_succ]
  split <;> simp
theorem notTo_len (m k : Nat) : (notTo m k).length ≤ k := by unfold notTo; rw [List.length_map]; exact setB_len m k
def notG (m : Nat) : List E3 := notTo m (topN m)
/-- The gates of a term. -/
def termG (t : E2) : List E3 := notG t.a.toNat ++ rotF (topN t.a.toNat : Int) t.b ++ (notG t.a.toNat).reverse
def pcTo (ts : List E2) (k : Nat) : List E3 := (ts.take k).flatMap termG
theorem pcTo_succ {ts : List E2} {k : Nat} (h : k < ts.length) : pcTo ts (k + 1) = pcTo ts k ++ termG (ts.getD k ⟨0, 0⟩) := by
  unfold pcTo
  rw [List.take_succ_eq_append_getElem h, List.flatMap_append]
  simp [List.getD, h]
theorem termG_len {t : E2} (h1 : 1 ≤ t.a) (h : t.a < 32) : (termG t).length ≤ 10 := by
  have h2 := notTo_len t.a.toNat (topN t.a.toNat)
  have h3 := top_le (m := t.a.toNat) (by omega) (by omega)
  have h4 := rotF_len (topN t.a.toNat : Int) t.b
  unfold termG notG
  simp only [List.length_append, List.length_reverse]
  omega
theorem term_bd {n : Int} {ts : List E2} (hn : 1 ≤ n ∧ n ≤ 5) (h : TermsOk n ts) {k : Nat} (hk : k < ts.length) : 1 ≤ (ts.getD k ⟨0, 0⟩).a ∧ (ts.getD k ⟨0, 0⟩).a < 32 ∧ 0 ≤ (ts.getD k ⟨0, 0⟩).b ∧ (ts.getD k ⟨0, 0⟩).b ≤ 7 := by
  have h1 := term_ok h hk
  have h2 := pow_5 hn
  omega
theorem pcTo_len {n : Int} {ts : List E2} (hn : 1 ≤ n ∧ n ≤ 5) (h : TermsOk n ts) : ∀ k, k ≤ ts.length → (pcTo ts k).length ≤ 10 * k
  | 0, _ => by simp [pcTo]
  | k + 1, hk => by
    have h1 := pcTo_len hn h k (by omega)
    have h2 := term_bd hn h (show k < ts.length by omega)
    have h3 := termG_len h2.1 h2.2.1
    rw [pcTo_succ (by omega), List.length_append]
    omega
/-- All the gates. -/
def pcAll (p : PP) : List E3 := pcTo p.ts p.ts.length ++ (redG (p.out.map Int.toNat)).reverse ++ List.replicate p.ph.toNat ⟨12, 0, 0⟩
noncomputable def pcG (p : PP) : Option Circ := if ppB p = true then some ⟨p.n, pcAll p⟩ else none
theorem pcG_none {p : PP} (h : ppB p = false) : pcG p = none := by unfold pcG; rw [h]; rfl
theorem pcG_some {p : PP} (h : ppB p = true) : pcG p = some ⟨p.n, pcAll p⟩ := by unfold pcG; rw [h]; rfl
theorem not_ok {n : Nat} {m k : Nat} (hn : n ≤ 5) (h1 : 1 ≤ m) (h : m < 2 ^ n) (hk : k ≤ topN m) {g : E3} (hg : g ∈ notTo m k) : GateOk (n : Int) g := by
  unfold notTo at hg
  obtain ⟨q, hq, rfl⟩ := List.mem_map.1 hg
  have h2 := (setB_mem hq).1
  have h3 := top_lt hn h1 h
  unfold GateOk
  dsimp only
  omega
theorem pcAll_len {p : PP} (h : PPOk p) : (pcAll p).length ≤ 400 := by
  obtain ⟨hn, hp, hl, ho, ht⟩ := h
  have h1 := pcTo_len hn ht p.ts.length (Nat.le_refl _)
  have h2 := terms_few hn ht
  have h3 := red_few ho.nat.2 (by rw [List.length_map]; omega)
  unfold pcAll
  simp only [List.length_append, List.length_reverse, List.length_replicate]
  omega
theorem pc_ok {p : PP} (h : PPOk p) : circB ⟨p.n, pcAll p⟩ = true := by
  have hlen := pcAll_len h
  obtain ⟨hn, hp, hl, ho, ht⟩ := h
  obtain ⟨n, hn'⟩ : ∃ n : Nat, p.n = (n : Int) := ⟨p.n.toNat, by omega⟩
  refine decide_eq_true ⟨hn, hlen, fun g hg => ?_⟩
  dsimp only at hg ⊢
  rw [hn']
  unfold pcAll at hg
  rcases List.mem_append.1 hg with hg | hg
  · rcases List.mem_append.1 hg with hg | hg
    · unfold pcTo at hg
      rw [List.take_length] at hg
      obtain ⟨t, h1, h2⟩ := List.mem_flatMap.1 hg
      obtain ⟨k, hk, rfl⟩ := List.getElem_of_mem h1
      have e : p.ts.getD k ⟨0, 0⟩ = p.ts[k] := by simp [List.getD, hk]
      have h3 := term_ok ht hk
      rw [e] at h3
      have hm : p.ts[k].a.toNat < 2 ^ n := by
        have := h3.2.1
        rw [hn', Int.toNat_natCast] at this
        have : (p.ts[k].a.toNat : Int) < ((2 ^ n : Nat) : Int) := by rw [Int.natCast_pow]; push_cast; omega
        omega
      unfold termG at h2
      rcases List.mem_append.1 h2 with h2 | h2
      · rcases List.mem_append.1 h2 with h2 | h2
        · exact not_ok (by omega) (by omega) hm (Nat.le_refl _) h2
        · exact rot_ok (by omega) (top_lt (by omega) (by omega) hm) h2
      · rw [List.mem_reverse] at h2
        exact not_ok (by omega) (by omega) hm (Nat.le_refl _) h2
    · rw [List.mem_reverse] at hg
      obtain ⟨h1, h2, h3, h4, h5, h6⟩ := (redG_ok ho.nat.2).gates g hg
      rw [List.length_map] at h3 h5
      unfold GateOk
      omega
  · rw [List.mem_replicate] at hg
    obtain ⟨_, rfl⟩ := hg
    unfold GateOk
    dsimp only
    omega
theorem pcG_len (p : PP) : ((pcG p).getD Circ.zero).gs.length ≤ 1000000 := by
  unfold pcG; split
  · next h =>
    have := pcAll_len (p := p) (of_decide_eq_true h)
    simp; omega
  · simp [Circ.zero]
end Go.Proofs.Ytdkfoleippncnaa
namespace Go.Proofs.Ytdkfoleippncnaa
set_option linter.unusedSimpArgs false
set_option linter.unusedVariables false
set_option linter.unnecessarySimpa false
set_option maxRecDepth 200000
open Go.ChangeShapes Go.WideShapes Go.ChangeAt Go.RowKit

def setM (xs : List Value) : Nat → List Value → List Value
  | _, [] => xs
  | o, v :: r => setM (xs.set o v) (o + 1) r
theorem setM_eq : ∀ (vs xs : List Value) (o : Nat), o + vs.length ≤ xs.length → setM xs o vs = xs.take o ++ vs ++ xs.drop (o + vs.length)
  | [], xs, o, _ => by simp [setM]
  | v :: r, xs, o, h => by
    simp only [List.length_cons] at h
    unfold setM
    rw [setM_eq r (xs.set o v) (o + 1) (by rw [List.length_set]; omega)]
    have ho : o < xs.length := by omega
    have e1 : (xs.set o v).take (o + 1) = xs.take o ++ [v] := by
      rw [List.take_succ_eq_append_getElem (by rw [List.length_set]; exact ho), List.take_set_of_le (Nat.le_refl _)]
      simp
    rw [e1, List.drop_set_of_lt (by omega)]
    simp [Nat.add_assoc, Nat.add_comm 1]
theorem own_setCells {base g n cap sz : Nat} {t : TypeId} : ∀ (vs : List Value) (o : Nat) {w : World} {xs : List Value}, w.ownsRow base t sz (.slice (some ⟨g, 0, none⟩) n cap) n xs →
    (w.setCells g o vs).ownsRow base t sz (.slice (some ⟨g, 0, none⟩) n cap) n (setM xs o vs) ∧ w.grownBy (w.setCells g o vs) (some g)
  | [], o, w, xs, h => ⟨h, ⟨rfl, rfl, rfl, Nat.le_refl _, fun _ _ _ => rfl⟩⟩
  | v :: r, o, w, xs, h => by
    obtain ⟨h1, g1⟩ := World.ownsRow.stored h o v
    obtain ⟨h2, g2⟩ := own_setCells r (o + 1) h1
    exact ⟨h2, ⟨g2.os.trans g1.os, g2.tape.trans g1.tape, g2.output.trans g1.output, Nat.le_trans g1.size g2.size, fun k hk hn => (g2.block k (Nat.lt_of_lt_of_le hk g1.size) hn).trans (g1.block k hk hn)⟩⟩
/-- A row that is cut shorter. -/
theorem own_cut {w : World} {base g n m cap sz : Nat} {t : TypeId} {xs : List Value} (h : w.ownsRow base t sz (.slice (some ⟨g, 0, none⟩) n cap) n xs) (hm : m ≤ n) : w.ownsRow base t sz (.slice (some ⟨g, 0, none⟩) m cap) m (xs.take (m * sz)) := by
  obtain ⟨h0, h1⟩ := h
  have hle : m * sz ≤ n * sz := Nat.mul_le_mul_right _ hm
  refine ⟨by rw [List.length_take]; omega, ?_⟩
  rcases h1 with ⟨e, _⟩ | ⟨g', cap', cur, e, hb, hg, h2, h3, h4, h5⟩
  · cases e
  · injection e with e1 e2 e3; subst e3; injection e1 with e1; injection e1 with e1; subst e1
    refine .inr ⟨g, cap, cur, rfl, hb, hg, by omega, h3, h4, ?_⟩
    rw [← h5, List.take_take, Nat.min_eq_left hle]
theorem own_caps {w : World} {base g n cap sz : Nat} {t : TypeId} {xs : List Value} (h : w.ownsRow base t sz (.slice (some ⟨g, 0, none⟩) n cap) n xs) : n ≤ cap ∧ cap ≤ 9223372036854775807 := by
  rcases h.2 with ⟨e, _⟩ | ⟨g', cap', cur, e, _, _, h1, h2, _⟩
  · cases e
  · injection e with _ _ e3; subst e3; exact ⟨h1, by simpa [maxLen] using h2⟩
theorem own_cellAt {w : World} {base g n cap sz : Nat} {t : TypeId} {xs : List Value} (h : w.ownsRow base t sz (.slice (some ⟨g, 0, none⟩) n cap) n xs) {j : Nat} {u : Value} (hj : xs[j]? = some u) : w.cell? ⟨g, j, none⟩ = some u := by
  have := World.ownsRow.cells h (g := g) rfl j u hj
  rw [Addr.add_lit, Nat.zero_add] at this
  exact this
/-- clear of one element of two cells. -/
theorem run_clear2 {P : Program} (w : World) (t e ty : TypeId) (a b : Value) (ht : P.underlying t = some (.slice e)) (hv : ∀ w, (zeroValue e).run P w = .ok (.agg #[a, b]) w) (ha : a.oneCell' = true) (hb : b.oneCell' = true) (g o c : Nat)
    (h0 : (w.cell? ⟨g, o, none⟩).isSome = true) (h1 : (w.cell? ⟨g, o + 1, none⟩).isSome = true) (f0 : w.frozen? ⟨g, o, none⟩ = false) (f1 : w.frozen? ⟨g, o + 1, none⟩ = false) :
    (Builtin.clear_ #[t] ty #[.slice (some ⟨g, o, none⟩) 1 c]).run P w = .ok (.tuple #[]) (w.setCells g o [a, b]) := by
  have hzc : (Builtin.zeroCells (Value.agg #[a, b]).cells 1).toList = [a, b] := by
    simp [Builtin.zeroCells]
    apply List.ext_getElem
    · simp [Value.cells]
    · intro i h1 h2
      simp [Value.cells] at h1 ⊢
      match i, h1 with
      | 0, _ => rfl
      | 1, _ => rfl
  have hst := run_storeCells_cells (P := P) g o [a, b] 0 w (fun j hj => by
      rw [Nat.add_zero]
      match j, hj with
      | 0, _ => exact h0
      | 1, _ => exact h1) (fun j hj => by
      rw [Nat.add_zero]
      match j, hj with
      | 0, _ => exact f0
      | 1, _ => exact f1) (by intro v hv'; simp at hv'; rcases hv' with rfl | rfl <;> assumption)
  rw [Nat.add_zero] at hst
  simp [Builtin.clear_, run_underlying ht, hv, hzc, hst]
theorem zero_Term : ∀ w, (zeroValue 90).run Try.prog w = .ok (.agg #[.int .i64 0, .int .i64 0]) w := fun w => by kernel_rfl
theorem flat_take {α : Type} {f : α → List Value} {sz : Nat} (hf : ∀ x, (f x).length = sz) : ∀ (xs : List α) (k : Nat), (xs.flatMap f).take (k * sz) = (xs.take k).flatMap f
  | [], k => by simp
  | x :: xs, 0 => by simp
  | x :: xs, k + 1 => by
    rw [List.flatMap_cons, List.take_succ_cons, List.flatMap_cons, ← flat_take hf xs k, Nat.add_mul, Nat.one_mul, Nat.add_comm, List.take_append, hf, List.take_of_length_le (by rw [hf]; omega), Nat.add_sub_cancel_left]
theorem flat_drop {α : Type} {f : α → List Value} {sz : Nat} (hf : ∀ x, (f x).length = sz) : ∀ (xs : List α) (k : Nat), (xs.flatMap f).drop (k * sz) = (xs.drop k).flatMap f
  | [], k => by simp
  | x :: xs, 0 => by simp
  | x :: xs, k + 1 => by
    rw [List.flatMap_cons, List.drop_succ_cons, ← flat_drop hf xs k, Nat.add_mul, Nat.one_mul, Nat.add_comm, List.drop_append, hf, List.drop_of_length_le (by rw [hf]; omega), Nat.add_sub_cancel_left, List.nil_append]
theorem info_TermP : (Try.prog.info? 90).map (fun i => (i.zero, i.size, i.bytes)) = some (some (.agg #[.int .i64 0, .int .i64 0]), 2, 16) := by kernel_rfl
set_option maxHeartbeats 4000000 in
theorem slices_Delete_Term (g n cap j base : Nat) (ts : List E2) (w : World) (h : w.ownsRow base 90 2 (.slice (some ⟨g, 0, none⟩) n cap) n (ts.flatMap E2.cs)) (hj : j < n) (hn : n ≤ 1048576) :
    Calls Try.prog 109 #[.slice (some ⟨g, 0, none⟩) n cap, .int .i64 (j : Int), .int .i64 ((j : Int) + 1)] w fun e w' => e = .returned (.slice (some ⟨g, 0, none⟩) (n - 1) cap) ∧ w'.ownsRow base 90 2 (.slice (some ⟨g, 0, none⟩) (n - 1) cap) (n - 1) ((ts.eraseIdx j).flatMap E2.cs) ∧ w.grownBy w' (some g) := by
  obtain ⟨i0, hi, hz0, hz1, hz2⟩ := info_parts info_TermP
  have hlen : (ts.flatMap E2.cs).length = n * 2 := h.1
  have hl : ts.length = n := by rw [flat_len E2.len] at hlen; omega
  obtain ⟨hc1, hc2⟩ := own_caps h
  obtain ⟨C, hC⟩ : ∃ C, C = ts.flatMap E2.cs := ⟨_, rfl⟩
  have hCe : ts.eraseIdx j = ts.take j ++ ts.drop (j + 1) := List.eraseIdx_eq_take_drop_succ ts j
  have hE : (ts.eraseIdx j).flatMap E2.cs = C.take (j * 2) ++ C.drop ((j + 1) * 2) := by rw [hC, flat_take E2.len, flat_drop E2.len, ← List.flatMap_append, ← hCe]
  have hone : ∀ u ∈ C, u.oneCell' = true := by rw [hC]; exact flat_one E2.one ts
  rw [← hC] at h hlen
  clear hC hCe
  have hD := h.drew
  obtain ⟨news, hnews⟩ : ∃ news, news = C.drop ((j + 1) * 2) := ⟨_, rfl⟩
  have hnl : news.length = (n - (j + 1)) * 2 := by rw [hnews, List.length_drop, hlen]; omega
  obtain ⟨A, hA, hsrc⟩ : ∃ A : Addr, (if cap = j + 1 then some (⟨g, 0, none⟩ : Addr) else some ⟨g, (j + 1) * 2, none⟩) = some A ∧ Hid (∀ t u, news[t]? = some u → w.drew.cell? (A.add t) = some u) := by
    by_cases hcj : cap = j + 1
    · refine ⟨⟨g, 0, none⟩, by simp [hcj], fun t u hu => ?_⟩
      have h0 : news.length = 0 := by rw [hnl]; omega
      rw [List.length_eq_zero_iff.1 h0] at hu
      simp at hu
    · refine ⟨⟨g, (j + 1) * 2, none⟩, by simp [hcj], fun t u hu => ?_⟩
      rw [hnews, List.getElem?_drop] at hu
      rw [Addr.add_lit]
      exact own_cellAt hD hu
  have s1 : Hid (news.length = (n - (j + 1)) * 2) := hnl
  have s2 : Hid (∀ u ∈ news, u.oneCell' = true) := by
    show ∀ u ∈ news, _
    intro u hu
    rw [hnews] at hu
    exact hone u (List.mem_of_mem_drop hu)
  have there : ∀ (W : World) (X : List Value), X.length = n * 2 → W.ownsRow base 90 2 (.slice (some ⟨g, 0, none⟩) n cap) n X → ∀ t, t < n * 2 → (W.cell? ⟨g, t, none⟩).isSome = true ∧ W.frozen? ⟨g, t, none⟩ = false := by
    intro W X hX hW t ht
    refine ⟨?_, World.ownsRow.frozenAt hW t⟩
    rw [own_cellAt hW (j := t) (u := X[t]'(by omega)) (List.getElem?_eq_getElem _)]; rfl
  have s3 : Hid (∀ t, t < news.length → (w.drew.cell? ⟨g, 0 + j * 2 + t, none⟩).isSome = true ∧ w.drew.frozen? ⟨g, 0 + j * 2 + t, none⟩ = false) := by
    intro t ht
    exact there _ C hlen hD _ (by omega)
  obtain ⟨W1, hW1⟩ : ∃ W1, W1 = w.drew.setCells g (0 + j * 2) news := ⟨_, rfl⟩
  obtain ⟨o1, g1⟩ := own_setCells news (0 + j * 2) hD
  rw [← hW1] at o1 g1
  have l1 : (setM C (0 + j * 2) news).length = n * 2 := o1.1
  have hcl : ∀ ty, (Builtin.clear_ #[38] ty #[.slice (some ⟨g, (n - 1) * 2, none⟩) 1 (cap - (n - 1))]).run Try.prog W1 = .ok (.tuple #[]) (W1.setCells g ((n - 1) * 2) [.int .i64 0, .int .i64 0]) :=
    fun ty => run_clear2 W1 _ _ ty _ _ Try.underlying38 zero_Term rfl rfl g ((n - 1) * 2) _ (there W1 _ l1 o1 _ (by omega)).1 (there W1 _ l1 o1 _ (by omega)).1 (there W1 _ l1 o1 _ (by omega)).2 (there W1 _ l1 o1 _ (by omega)).2
  obtain ⟨o2, g2⟩ := own_setCells [.int .i64 0, .int .i64 0] ((n - 1) * 2) o1
  have o3 := own_cut o2 (Nat.sub_le n 1)
  have eX : (setM (setM C (0 + j * 2) news) ((n - 1) * 2) [.int .i64 0, .int .i64 0]).take ((n - 1) * 2) = (ts.eraseIdx j).flatMap E2.cs := by
    rw [hE, setM_eq _ _ _ (by rw [l1]; simp; omega), List.append_assoc, List.take_append_of_le_length (by rw [List.length_take, l1]; omega), List.take_take, Nat.min_self, setM_eq _ _ _ (by rw [hlen, hnl]; omega), Nat.zero_add, hnews]
    rw [List.take_append_of_le_length (by simp [hlen]; omega), List.take_of_length_le (by simp [hlen]; omega)]
  rw [eX] at o3
  have O3 := Lib.hid o3
  have G3 := Lib.hid (show w.grownBy (W1.setCells g ((n - 1) * 2) [.int .i64 0, .int .i64 0]) (some g) from ⟨g2.os.trans g1.os, g2.tape.trans g1.tape, g2.output.trans g1.output, Nat.le_trans g1.size g2.size, fun k hk hne => (g2.block k (Nat.lt_of_lt_of_le hk g1.size) hne).trans (g1.block k hk hne)⟩)
  have hW : Hid (W1 = w.drew.setCells g (0 + j * 2) news) := hW1
  have hjc : j ≤ cap := by omega
  have hjc1 : j + 1 ≤ cap := by omega
  have q1 : j + (n - (j + 1)) = n - 1 := by omega
  have q2 : n - (n - 1) = 1 := by omega
  have b0 : (0 : Int) ≤ (j : Int) + 1 := by omega
  have b1 : (j : Int) + 1 ≤ (n : Int) := by omega
  clear hW1 o1 g1 l1 o2 g2 o3 eX there hE hone h hD hnews hnl hl hlen
  go_enter Try.func109, Try.ntmps109
  go_wp2_with fail
  go_region_law (refine step_append_room rfl (.tmp 22) (.tmp 25) 38 rfl 90 i0 2 Try.underlying38 hi hz1 g 0 j cap (by simp [Act.eval, Act.put]) A (n - (j + 1)) (cap - (j + 1)) news (by simp [Act.eval, Act.put]; done) s1.out hsrc.out s2.out (by omega) s3.out ?_; rw [← hW.out])
  go_wp2_with fail

  go_ret
  exact ⟨rfl, O3.out, G3.out⟩
theorem slices_Clone_Term (v : Value) (ts : List E2) (w : World) (h : RdE w v E2.cs 2 ts) (hn : ts.length ≤ 1048576) :
    Calls Try.prog 105 #[v] w fun e w' => ∃ v', e = .returned v' ∧ OwnE w' w.heap.size 90 v' E2.cs 2 ts ∧ Below w.heap.size w w' := by
  obtain ⟨i0, hi, hz0, hz1, hz2⟩ := info_parts info_TermP
  obtain ⟨A, c, rfl, _⟩ := h.form
  rcases A with _ | ad
  · have h0 : ts = [] := by
      rcases h.cases0 E2.len with ⟨h0, _⟩ | ⟨_, b, off, cap, e, _⟩
      · exact h0
      · cases e
    subst h0
    have hq := fun (W : World) (n c n2 c2 : Nat) => Lib.run_eql_slice_nil (P := Try.prog) W 38 90 none n c n2 c2 Try.underlying38
    clear h
    go_enter Try.func105, Try.ntmps105
    go_wp2_with fail
    go_ret
    exact ⟨_, rfl, OwnE.nil _ _ _, (by repeat (first | exact Below.refl _ _ | assumption | refine Below.drew ?_ | refine below_drewN ?_ _ | refine Below.alloc ?_ (by first | omega | (simp <;> omega)) _ | refine Below.setCell ?_ (by first | omega | (simp <;> omega)) _ | refine Below.trans ?_ (Below.mono (by assumption) (by first | omega | (simp <;> omega)))))⟩
  · have HR := Lib.hid (Reads.below (Reads.of_rd h) (show Below w.heap.size w (w.alloc (.cells #[] 90)) from (by repeat (first | exact Below.refl _ _ | assumption | refine Below.drew ?_ | refine below_drewN ?_ _ | refine Below.alloc ?_ (by first | omega | (simp <;> omega)) _ | refine Below.setCell ?_ (by first | omega | (simp <;> omega)) _ | refine Below.trans ?_ (Below.mono (by assumption) (by first | omega | (simp <;> omega)))))))
    have hq := fun (W : World) (n c n2 c2 : Nat) => Lib.run_eql_slice_nil (P := Try.prog) W 38 90 (some ad) n c n2 c2 Try.underlying38
    clear h
    go_enter Try.func105, Try.ntmps105
    go_wp2_with (at_builtin; refine wpList_append_any _ rfl _ _ 38 rfl w.heap.size 90 i0 (.agg #[.int .i64 0, .int .i64 0]) 2 16 Try.underlying38 hi hz0 hz1 hz2 rfl (by decide) (.slice (some ⟨w.heap.size, 0, none⟩) 0 0) 0 [] rfl (own_lit0 (f := E2.cs) (sz := 2) w w.heap.size 90 w.heap.size rfl (Nat.le_refl _)) w.heap.size (some ad) ts.length c (ts.flatMap E2.cs) rfl HR.out (flat_one E2.one _) (by unfold maxLen; omega) (by omega) (by simp) ?_; intro v1 w1 hown1 hg1 hat1)
    go_ret
    refine ⟨v1, rfl, by simpa [OwnE] using hown1, ?_⟩
    exact Below.grown (show Below w.heap.size w (w.alloc (.cells #[] 90)) from (by repeat (first | exact Below.refl _ _ | assumption | refine Below.drew ?_ | refine below_drewN ?_ _ | refine Below.alloc ?_ (by first | omega | (simp <;> omega)) _ | refine Below.setCell ?_ (by first | omega | (simp <;> omega)) _ | refine Below.trans ?_ (Below.mono (by assumption) (by first | omega | (simp <;> omega)))))) hg1 (by simp) (fun k hk => by simp [Value.ownBlock] at hk; omega)
end Go.Proofs.Ytdkfoleippncnaa
namespace Go.Proofs.Ytdkfoleippncnaa
set_option linter.unusedSimpArgs false
set_option linter.unusedVariables false
set_option linter.unnecessarySimpa false
set_option maxRecDepth 200000
open Go.ChangeShapes Go.WideShapes Go.ChangeAt Go.RowKit

/-- A circuit in box bO whose gates grow. -/
structure CS0 (B bO : Nat) (n : Int) (W0 w : World) (vO : Value) (O : List E3) : Prop where
  c0 : w.cell? ⟨bO, 0, none⟩ = some (.int .i64 n)
  cO : w.cell? ⟨bO, 1, none⟩ = some vO
  fO : w.frozen? ⟨bO, 1, none⟩ = false
  out : w.ownsRow B 104 3 vO O.length (O.flatMap E3.cs)
  apO : vO.ownBlock ≠ some bO
  BO : B ≤ bO
  bel : Below B W0 w
section
variable {B bO : Nat} {n : Int} {W0 w w' : World} {vO v' : Value} {O : List E3}
theorem CS0.lt (h : CS0 B bO n W0 w vO O) : bO < w.heap.size ∧ B ≤ w.heap.size := by
  have h1 := World.block_lt_of_cell? _ _ h.cO
  have h5 := h.BO
  dsimp only at h1
  exact ⟨h1, by omega⟩
theorem CS0.call (h : CS0 B bO n W0 w vO O) (hb : Below w.heap.size w w') : CS0 B bO n W0 w' vO O :=
  ⟨below_cell hb rfl h.c0, below_cell hb rfl h.cO, below_frz hb rfl h.lt.1 h.fO, own_below h.out hb rfl, h.apO, h.BO, Below.trans h.bel (hb.mono h.lt.2)⟩
theorem ap_app (hat : v'.ownBlock = vO.ownBlock ∨ v'.ownBlock = some w.heap.size) {b : Nat} (hb : b < w.heap.size) (h : vO.ownBlock ≠ some b) : v'.ownBlock ≠ some b := by
  rcases hat with e | e
  · rw [e]; exact h
  · rw [e]; intro e2; injection e2 with e2; omega
theorem CS0.app {m : Nat} {rot : List E3} (h : CS0 B bO n W0 w vO O) (hm : rot.length = m) (hown : w'.ownsRow B 104 3 v' (O.length + m) (O.flatMap E3.cs ++ rot.flatMap E3.cs))
    (hg : w.grownBy w' vO.ownBlock) (hat : v'.ownBlock = vO.ownBlock ∨ v'.ownBlock = some w.heap.size) :
    w'.cell? ⟨bO, 1, none⟩ = some vO ∧ w'.frozen? ⟨bO, 1, none⟩ = false ∧ CS0 B bO n W0 (w'.setCell ⟨bO, 1, none⟩ v') v' (O ++ rot) := by
  have hl := h.lt
  have d0 := cell_grown hg h.c0 h.apO
  have dO := cell_grown hg h.cO h.apO
  have fO := frz_grown hg hl.1 h.fO h.apO
  have hv := ap_app hat hl.1 h.apO
  refine ⟨dO, fO, ⟨(World.cell?_setCell_other _ _ _ _ (by intro e; injection e with _ e; cases e)).trans d0, World.cell?_setCell_same _ _ _ dO, by rw [World.frozen?_setCell]; exact fO, ?_, hv, h.BO, Below.setCell (h.bel.grown hg hl.2 (fun k hk => (World.ownsRow.lt h.out k hk).1)) h.BO _⟩⟩
  rw [List.length_append, List.flatMap_append, hm]
  exact own_set_ne hown (fun g e => fun e2 => hv (by rw [e, e2])) _
/-- What lies elsewhere stays. -/
theorem cell_app {b o : Nat} {u x : Value} (hg : w.grownBy w' vO.ownBlock) (h : vO.ownBlock ≠ some b) (hne : b ≠ bO) (hc : w.cell? ⟨b, o, none⟩ = some u) : (w'.setCell ⟨bO, 1, none⟩ x).cell? ⟨b, o, none⟩ = some u :=
  cell_set_far hne (cell_grown hg hc h)
end
theorem ints_append (L : List Nat) (x : Nat) : ints (L ++ [x]) = ints L ++ [(x : Int)] := by simp [ints]
theorem pow_nat {n : Int} (h : 1 ≤ n ∧ n ≤ 5) : (2 : Int) ^ n.toNat ≤ 32 := (pow_5 h).1
theorem notG_take {m j : Nat} {L : List Nat} (hL : L = setB m (topN m)) (h : j < L.length) : (notG m).take (j + 1) = (notG m).take j ++ [⟨9, ((L.getD j 0 : Nat) : Int), (topN m : Int)⟩] := by
  have hl : j < (notG m).length := by unfold notG notTo; rw [List.length_map, ← hL]; exact h
  rw [List.take_succ_eq_append_getElem hl]
  congr 2
  unfold notG notTo
  simp [← hL, List.getD, h]
theorem notG_len {m : Nat} {L : List Nat} (hL : L = setB m (topN m)) : (notG m).length = L.length := by unfold notG notTo; rw [List.length_map, ← hL]
theorem notG_rev {m j q : Nat} {L : List Nat} (hL : L = setB m (topN m)) (h : q + j + 1 = L.length) : (notG m).reverse.take (j + 1) = (notG m).reverse.take j ++ [⟨9, ((L.getD q 0 : Nat) : Int), (topN m : Int)⟩] := by
  have hl := notG_len hL
  rw [List.take_succ_eq_append_getElem (by rw [List.length_reverse]; omega)]
  congr 2
  rw [List.getElem_reverse]
  have e : (notG m).length - 1 - j = q := by omega
  unfold notG notTo at e ⊢
  simp only [e]
  simp [← hL, List.getD, show q < L.length by omega]
theorem own_blk_ne {g b n cap k : Nat} (h : (Value.slice (some ⟨g, 0, none⟩) n cap).ownBlock = some k) (hne : g ≠ b) : k ≠ b := by
  have h2 : g = k := by simpa [Value.ownBlock] using h
  rw [← h2]; exact hne
theorem hRow_lt {w : World} {B g n cap : Nat} {M : List Nat} (h : OwnN w B g n cap M) : g < w.heap.size := h.lt.2
set_option maxHeartbeats 32000000 in
theorem spec_l13Circuit_any (v u : Value) (p : PP) (w : World) (h : RdE w v E2.cs 2 p.ts) (k : RdI w u p.out) (hok : PPOk p) :
    Calls Try.prog 60 #[.agg #[.int .i64 p.n, .int .i64 p.ph, v, u]] w fun e w' => ∃ vO, e = .returned (.agg #[.int .i64 p.n, vO]) ∧ OwnE w' w.heap.size 104 vO E3.cs 3 (pcAll p) ∧ Below w.heap.size w w' := by
  obtain ⟨i0, hi, hz0, hz1, hz2⟩ := info_parts info_Gate
  have hall := pcAll_len hok
  obtain ⟨hn, hph, hlo, ho, ht⟩ := hok
  have hfew := terms_few hn ht
  have HT := Lib.hid ht
  have HP := Lib.hid (fun k hk => pcTo_len hn ht k hk)
  have HBD := Lib.hid (fun k (hk : k < p.ts.length) => term_bd hn ht hk)
  obtain ⟨A, c, rfl, Kc⟩ : ∃ A c, v = .slice A p.ts.length c ∧ Hid (∀ k, k < p.ts.length → ∃ b off, A = some ⟨b, off, none⟩ ∧ b < w.heap.size ∧ w.cell? ⟨b, off + k * 2, none⟩ = some (.int .i64 (p.ts.getD k ⟨0, 0⟩).a) ∧ w.cell? ⟨b, off + k * 2 + 1, none⟩ = some (.int .i64 (p.ts.getD k ⟨0, 0⟩).b)) := by
    rcases h.cases0 E2.len with ⟨he, A, c, rfl⟩ | ⟨_, b, off, cap, rfl, hb, hl, hm, hc⟩
    · rw [he]; exact ⟨A, c, rfl, show ∀ _, _ from fun k hk => by simp at hk⟩
    · refine ⟨_, cap, rfl, show ∀ _, _ from fun k hk => ⟨b, off, rfl, hb, ?_⟩⟩
      have e : p.ts.getD k ⟨0, 0⟩ = p.ts[k] := by simp [List.getD, hk]
      rw [e]
      exact ⟨hc k hk 0 _ (by omega) rfl, hc k hk 1 _ (by omega) rfl⟩
  have KT := Lib.hid k
  obtain ⟨A2, c2, rfl, _⟩ := k.form
  have HNat := Lib.hid ho.nat
  have n1 := ho.small.1
  have HALL := Lib.hid hall
  clear h k ht ho
  go_enter Try.func60, Try.ntmps60
  go_wp2_with fail
  obtain ⟨W0, hW0⟩ : ∃ W0, W0 = ((w.alloc (.cells #[.int .i64 p.n, .int .i64 p.ph, .slice A p.ts.length c, .slice A2 p.out.length c2] 53)).alloc (.cells #[.int .i64 0, .slice none 0 0] 30)) := ⟨_, rfl⟩
  have b0 : Below (w.heap.size + 1 + 1) W0 (W0.alloc (.cells #[.int .i64 p.n, .slice none 0 0] 30)) := Below.alloc (Below.refl _ _) (by rw [hW0]; simp) _
  have A1 := Lib.hid (fun W (hb : Below (w.heap.size + 1 + 1) W0 W) => show W.cell? ⟨w.heap.size, 1, none⟩ = some (.int .i64 p.ph) from (hb.cell (p := ⟨w.heap.size, 1, none⟩) (by dsimp only; omega)).trans (by rw [hW0]; exact (by repeat (first | (refine Eq.trans (World.cell?_alloc_at _ _ _ _ ?hh) ?_; (case hh => (simp; done)); rfl) | refine cell_alloc_keep _ ?_))))
  have A3 := Lib.hid (fun W (hb : Below (w.heap.size + 1 + 1) W0 W) => show W.cell? ⟨w.heap.size, 3, none⟩ = some (.slice A2 p.out.length c2) from (hb.cell (p := ⟨w.heap.size, 3, none⟩) (by dsimp only; omega)).trans (by rw [hW0]; exact (by repeat (first | (refine Eq.trans (World.cell?_alloc_at _ _ _ _ ?hh) ?_; (case hh => (simp; done)); rfl) | refine cell_alloc_keep _ ?_))))
  have R0 := Lib.hid (fun W (hb : Below (w.heap.size + 1 + 1) W0 W) => show W.cell? ⟨w.heap.size + 1, 0, none⟩ = some (.int .i64 0) from (hb.cell (p := ⟨w.heap.size + 1, 0, none⟩) (by dsimp only; omega)).trans (by rw [hW0]; exact (by repeat (first | (refine Eq.trans (World.cell?_alloc_at _ _ _ _ ?hh) ?_; (case hh => (simp; done)); rfl) | refine cell_alloc_keep _ ?_))))
  have R1 := Lib.hid (fun W (hb : Below (w.heap.size + 1 + 1) W0 W) => show W.cell? ⟨w.heap.size + 1, 1, none⟩ = some (.slice none 0 0) from (hb.cell (p := ⟨w.heap.size + 1, 1, none⟩) (by dsimp only; omega)).trans (by rw [hW0]; exact (by repeat (first | (refine Eq.trans (World.cell?_alloc_at _ _ _ _ ?hh) ?_; (case hh => (simp; done)); rfl) | refine cell_alloc_keep _ ?_))))
  have F0 := Lib.hid (fun W (hb : Below (w.heap.size + 1 + 1) W0 W) => show W.frozen? ⟨w.heap.size + 1, 0, none⟩ = false ∧ W.frozen? ⟨w.heap.size + 1, 1, none⟩ = false from ⟨(hb.frozen (p := ⟨w.heap.size + 1, 0, none⟩) (by dsimp only; omega)).trans (by rw [hW0]; exact (by repeat (first | (refine World.frozen?_alloc_at _ _ _ _ ?hh; case hh => (simp; done)) | (refine frozen_alloc_lt _ ?hh ?_; case hh => first | omega | (simp <;> omega))))), (hb.frozen (p := ⟨w.heap.size + 1, 1, none⟩) (by dsimp only; omega)).trans (by rw [hW0]; exact (by repeat (first | (refine World.frozen?_alloc_at _ _ _ _ ?hh; case hh => (simp; done)) | (refine frozen_alloc_lt _ ?hh ?_; case hh => first | omega | (simp <;> omega)))))⟩)
  have BW := Lib.hid (fun W (hb : Below (w.heap.size + 1 + 1) W0 W) => show Below w.heap.size w W from Below.trans (show Below w.heap.size w W0 from by rw [hW0]; exact (by repeat (first | exact Below.refl _ _ | assumption | refine Below.drew ?_ | refine below_drewN ?_ _ | refine Below.alloc ?_ (by first | omega | (simp <;> omega)) _ | refine Below.setCell ?_ (by first | omega | (simp <;> omega)) _ | refine Below.trans ?_ (Below.mono (by assumption) (by first | omega | (simp <;> omega)))))) (hb.mono (by omega)))
  have S0 : Hid (CS0 (w.heap.size + 1 + 1) (w.heap.size + 1 + 1) p.n W0 (W0.alloc (.cells #[.int .i64 p.n, .slice none 0 0] 30)) (.slice none 0 0) (pcTo p.ts 0)) :=
    (show CS0 _ _ _ _ _ _ _ from ⟨by rw [hW0]; exact (by repeat (first | (refine Eq.trans (World.cell?_alloc_at _ _ _ _ ?hh) ?_; (case hh => (simp; done)); rfl) | refine cell_alloc_keep _ ?_)), by rw [hW0]; exact (by repeat (first | (refine Eq.trans (World.cell?_alloc_at _ _ _ _ ?hh) ?_; (case hh => (simp; done)); rfl) | refine cell_alloc_keep _ ?_)), by rw [hW0]; exact (by repeat (first | (refine World.frozen?_alloc_at _ _ _ _ ?hh; case hh => (simp; done)) | (refine frozen_alloc_lt _ ?hh ?_; case hh => first | omega | (simp <;> omega)))), World.ownsRow_nil _ _ _ _, (fun e => by cases e), Nat.le_refl _, b0⟩)
  rw [← hW0]
  clear hW0 b0
  go_loopw [19] (fun i wr => ∃ (k : Nat) (vO : Value), k ≤ p.ts.length ∧ i = .int .i64 k ∧ Hid (CS0 (w.heap.size + 1 + 1) (w.heap.size + 1 + 1) p.n W0 wr vO (pcTo p.ts k))) (fun i _ => p.ts.length - (intOf i).toNat)
  case atStart => exact ⟨0, _, Nat.zero_le _, rfl, S0⟩
  case round =>
    obtain ⟨k, vO, hk, rfl, hS⟩ := hrel
    clear S0
    by_cases hlt : k < p.ts.length
    · obtain ⟨b0, off, rfl, hb0, u0, u1⟩ := Kc.out k hlt
      have hbd := HBD.out k hlt
      have hpl := HP.out k hk
      have hnx := pcTo_succ hlt
      obtain ⟨y, hy⟩ : ∃ y, y = p.ts.getD k ⟨0, 0⟩ := ⟨_, rfl⟩
      rw [← hy] at u0 u1 hbd hnx
      clear hy
      obtain ⟨ya, yc⟩ := y
      dsimp only at u0 u1 hbd
      obtain ⟨M, rfl⟩ := Int.eq_ofNat_of_zero_le (show 0 ≤ ya by omega)
      have hbw := BW.out _ hS.out.bel
      replace u0 := (hbw.cell hb0).trans u0; replace u1 := (hbw.cell hb0).trans u1
      obtain ⟨P, hP⟩ : ∃ P, P = pcTo p.ts k := ⟨_, rfl⟩
      rw [← hP] at hS hpl hnx
      have HNX := Lib.hid hnx
      clear hP hbw hnx
      have hM1 : 1 ≤ M := by omega
      have hM2 : M < 32 := by omega
      have hbt := bits_top M hM2 hM1
      have htop := top_le hM1 hM2
      obtain ⟨L, hL⟩ : ∃ L, L = setB M (topN M) := ⟨_, rfl⟩
      have hLl : L.length ≤ 4 := by rw [hL]; exact Nat.le_trans (setB_len _ _) htop
      have hLb : ∀ j, j < L.length → L.getD j 0 < 5 := fun j hj => by
        have : L.getD j 0 ∈ setB M (topN M) := by rw [← hL, getD_lt hj]; exact List.getElem_mem hj
        have := (setB_mem this).1; omega
      rw [← hL] at hbt
      have HL := Lib.hid hL
      obtain ⟨tp, htp⟩ : ∃ tp, tp = topN M := ⟨_, rfl⟩
      have HTP := Lib.hid htp
      rw [← htp] at hbt htop
      have HBT := Lib.hid hbt
      clear hL htp hbt
      have i1 : (k : Int) < (p.ts.length : Int) := by omega
      have SW := Lib.hid (hS.out.call (show Below wr.heap.size wr (wr.alloc (.cells #[.int .i64 (M : Int), .int .i64 yc] 90)) from (by repeat (first | exact Below.refl _ _ | assumption | refine Below.drew ?_ | refine below_drewN ?_ _ | refine Below.alloc ?_ (by first | omega | (simp <;> omega)) _ | refine Below.setCell ?_ (by first | omega | (simp <;> omega)) _ | refine Below.trans ?_ (Below.mono (by assumption) (by first | omega | (simp <;> omega)))))))
      have e0 : (wr.alloc (.cells #[.int .i64 (M : Int), .int .i64 yc] 90)).cell? ⟨wr.heap.size, 0, none⟩ = some (.int .i64 (M : Int)) := (by repeat (first | (refine Eq.trans (World.cell?_alloc_at _ _ _ _ ?hh) ?_; (case hh => (simp; done)); rfl) | refine cell_alloc_keep _ ?_))
      have e1 : (wr.alloc (.cells #[.int .i64 (M : Int), .int .i64 yc] 90)).cell? ⟨wr.heap.size, 1, none⟩ = some (.int .i64 yc) := (by repeat (first | (refine Eq.trans (World.cell?_alloc_at _ _ _ _ ?hh) ?_; (case hh => (simp; done)); rfl) | refine cell_alloc_keep _ ?_))
      have LT := hS.out.lt
      have VO : vO.ownBlock ≠ some wr.heap.size := fun e => by have := (World.ownsRow.lt hS.out.out _ e).2; omega
      have VG := Lib.hid (fun g (e : vO.ownBlock = some g) => show g < wr.heap.size from (World.ownsRow.lt hS.out.out _ e).2)
      have hbT : wr.heap.size ≠ w.heap.size + 1 + 1 := by omega
      have hbS : w.heap.size + 1 + 1 < wr.heap.size := LT.1
      clear hS
      go_wp2_with fail
      refine (spec_l1Set_any M _ (by omega)).mono ?_; rintro e w1 ⟨vS, rfl, hoS, hb1⟩
      rw [HBT.out] at hoS
      obtain ⟨gS, capS, rfl, hg1, hg2⟩ := own_ints hoS (by simp)
      have hlen1 : (L ++ [tp]).length = L.length + 1 := by simp
      have ROW := Lib.hid (OwnN.of (M := L ++ [tp]) (OwnI.le hoS (base' := wr.heap.size + 1) (by simp)))
      rw [hlen1] at ROW ⊢
      simp at hg1
      have hcap1 := ROW.out.caps
      have hcap : (L.length : Int) ≤ (capS : Int) := by omega
      have S1 := Lib.hid (SW.out.call hb1)
      replace e1 := below_cell hb1 rfl e1
      have NG : vO.ownBlock ≠ some gS := fun e => by have := VG.out gS e; omega
      have hgS : gS ≠ w.heap.size + 1 + 1 := by omega
      have clast := own_int_cell ROW.out L.length (by rw [hlen1]; omega)
      rw [show (L ++ [tp]).getD L.length 0 = tp from by simp [List.getD]] at clast
      obtain ⟨bT, hbTT⟩ : ∃ bT, bT = wr.heap.size := ⟨_, rfl⟩
      rw [← hbTT] at e1 VO hbT ⊢
      clear hb1 hoS SW e0 VG LT hbS hg1 hg2 u0 u1 hb0 hbTT
      go_wp2_with fail
      clear clast
      go_loopw [39] (fun i wr => ∃ (j : Nat) (vO : Value), j ≤ L.length ∧ i = .int .i64 j ∧ Hid (CS0 (w.heap.size + 1 + 1) (w.heap.size + 1 + 1) p.n W0 wr vO (P ++ (notG M).take j)) ∧ Hid (∃ B9, OwnN wr B9 gS (L.length + 1) capS (L ++ [tp])) ∧ vO.ownBlock ≠ some gS ∧ vO.ownBlock ≠ some bT ∧ wr.cell? ⟨bT, 1, none⟩ = some (.int .i64 yc)) (fun i _ => L.length - (intOf i).toNat)
      case atStart => exact ⟨0, vO, Nat.zero_le _, rfl, (show CS0 _ _ _ _ _ _ _ from by rw [List.take_zero, List.append_nil]; exact S1.out), ⟨_, ROW.out⟩, NG, VO, e1⟩
      case round =>
        clear S1 ROW NG VO e1
        obtain ⟨j, vO, hj, rfl, hS, hRow, NG, VO, e1⟩ := hrel
        obtain ⟨B9, hRow⟩ := hRow.out
        have hnl := notG_len HL.out
        by_cases hlt2 : j < L.length
        · have i2 : (j : Int) < (L.length : Int) := by omega
          have cj := own_int_cell hRow j (by rw [hlen1]; omega)
          rw [show (L ++ [tp]).getD j 0 = L.getD j 0 from by simp [List.getD, List.getElem?_append_left hlt2]] at cj
          have hx5 := hLb j hlt2
          have HN := Lib.hid (notG_take HL.out hlt2)
          obtain ⟨x, hx⟩ : ∃ x, x = L.getD j 0 := ⟨_, rfl⟩
          rw [← hx] at cj hx5 HN
          rw [← HTP.out] at HN
          obtain ⟨O, hO⟩ : ∃ O, O = P ++ (notG M).take j := ⟨_, rfl⟩
          have hOl : O.length ≤ 1000 := by rw [hO, List.length_append]; have := List.length_take_le j (notG M); omega
          rw [← hO] at hS
          have HO := Lib.hid hO
          have HRow := Lib.hid hRow
          clear hx hO hRow
          have LT := hS.out.lt
          obtain ⟨aO, cO, rfl⟩ := own_form hS.out.out
          have SX := Lib.hid (hS.out.call (show Below wr.heap.size wr (wr.alloc (.cells #[.int .i64 9, .int .i64 (x : Int), .int .i64 (tp : Int)] 104)) from (by repeat (first | exact Below.refl _ _ | assumption | refine Below.drew ?_ | refine below_drewN ?_ _ | refine Below.alloc ?_ (by first | omega | (simp <;> omega)) _ | refine Below.setCell ?_ (by first | omega | (simp <;> omega)) _ | refine Below.trans ?_ (Below.mono (by assumption) (by first | omega | (simp <;> omega)))))))
          have kO := hS.out.cO
          have hgl := hRow_lt HRow.out
          have hbl : bT < wr.heap.size := World.block_lt_of_cell? _ _ e1
          clear hS
          go_wp2_with (at_builtin; go_must (refine wpList_append_any _ rfl _ _ 28 rfl (w.heap.size + 1 + 1) 104 i0 (.agg #[.int .i64 0, .int .i64 0, .int .i64 0]) 3 24 Try.underlying28 hi hz0 hz1 hz2 rfl (by decide) _ O.length _ rfl SX.out.out (wr.heap.size + 1) _ 1 1 (E3.cs ⟨9, (x : Int), (tp : Int)⟩) rfl (by have := reads_news wr (E3.cs ⟨9, (x : Int), (tp : Int)⟩) 104 3 1 rfl; simpa [E3.cs] using this) (E3.one _) (by unfold maxLen; omega) (by omega) SX.out.lt.2 ?_; intro v3 w4 hown3 hg3 hat3; obtain ⟨a3, c3', rfl⟩ := own_form hown3; obtain ⟨d4, f4, hST⟩ := CS0.app (rot := [⟨9, (x : Int), (tp : Int)⟩]) SX.out rfl (by simpa using hown3) hg3 hat3; have S4 : Hid (CS0 (w.heap.size + 1 + 1) (w.heap.size + 1 + 1) p.n W0 (w4.setCell ⟨w.heap.size + 1 + 1, 1, none⟩ (.slice a3 (O.length + 1) c3')) (.slice a3 (O.length + 1) c3') (P ++ (notG M).take (j + 1))) := (show CS0 _ _ _ _ _ _ _ from by rw [HN.out, ← List.append_assoc, ← HO.out]; exact hST); have N4 := ap_app hat3 (show gS < (wr.alloc (.cells #[.int .i64 9, .int .i64 (x : Int), .int .i64 (tp : Int)] 104)).heap.size by simp; omega) NG; have V4 := ap_app hat3 (show bT < (wr.alloc (.cells #[.int .i64 9, .int .i64 (x : Int), .int .i64 (tp : Int)] 104)).heap.size by simp; omega) VO; replace e1 := cell_app (bO := w.heap.size + 1 + 1) (x := .slice a3 (O.length + 1) c3') hg3 VO hbT (cell_alloc_keep _ e1); have R4 : Hid (∃ B9, OwnN (w4.setCell ⟨w.heap.size + 1 + 1, 1, none⟩ (.slice a3 (O.length + 1) c3')) B9 gS (L.length + 1) capS (L ++ [tp])) := (show ∃ B9, _ from ⟨_, own_set_ne (own_other hg3 (World.ownsRow.alloc HRow.out _) (fun g h1 h2 => by injection h1 with h1; subst h1; exact NG h2)) (fun g h1 => own_blk_ne h1 hgS) _⟩); clear hST hown3 hg3 hat3 cj))
          go_roundw
          case rel => exact ⟨j + 1, _, by omega, by go_num, S4, R4, N4, V4, e1⟩
          case measure => simp [intOf]; omega
        · have ej : j = L.length := by omega
          subst ej
          have i2 : ¬ (L.length : Int) < (L.length : Int) := by omega
          rw [List.take_of_length_le (by omega)] at hS
          obtain ⟨P2, hP2⟩ : ∃ P2, P2 = P ++ notG M := ⟨_, rfl⟩
          have hP2l : P2.length ≤ 400 := by rw [hP2, List.length_append]; omega
          rw [← hP2] at hS
          have HP2 := Lib.hid hP2
          clear hP2
          obtain ⟨aO, cO, rfl⟩ := own_form hS.out.out
          have HD := Lib.hid (hS.out.call (show Below wr.heap.size wr wr.drew from (by repeat (first | exact Below.refl _ _ | assumption | refine Below.drew ?_ | refine below_drewN ?_ _ | refine Below.alloc ?_ (by first | omega | (simp <;> omega)) _ | refine Below.setCell ?_ (by first | omega | (simp <;> omega)) _ | refine Below.trans ?_ (Below.mono (by assumption) (by first | omega | (simp <;> omega)))))))
          have RowD := Lib.hid (hRow.below (show Below wr.heap.size wr wr.drew from (by repeat (first | exact Below.refl _ _ | assumption | refine Below.drew ?_ | refine below_drewN ?_ _ | refine Below.alloc ?_ (by first | omega | (simp <;> omega)) _ | refine Below.setCell ?_ (by first | omega | (simp <;> omega)) _ | refine Below.trans ?_ (Below.mono (by assumption) (by first | omega | (simp <;> omega)))))) rfl)
          have k0 := HD.out.cO
          have fO := HD.out.fO
          replace e1 := cell_drew e1
          have hrl := rotF_len (tp : Int) yc
          clear hS hRow
          go_wp2_with fail
          refine AnyB.begin (S := (fun w' => w'.cell? ⟨w.heap.size + 1 + 1, 1, none⟩ = some (.slice aO P2.length cO) ∧ w'.cell? ⟨bT, 1, none⟩ = some (.int .i64 yc))) [8] (by kernel_rfl) ?_ (fun hHeld0 => ?_)
          · ((try dsimp only); (first | exact ⟨k0, e1⟩))
          refine AnyB.takeQ (i := 0) (oi := _) (v := ?_) (by simp only [List.getElem?_toArray, List.getElem?_cons_zero, List.getElem?_cons_succ]; rfl) (by kernel_rfl) (by kernel_rfl) (by kernel_rfl) (by intro _ _ _ h; exact h) (Or.inl ⟨by rfl, ?_⟩) ?_
          rotate_left
          · (intro w hSw; (try dsimp only at hSw); go_simp; (try (with_reducible rfl)))
          try simp only [Act.put, List.setIfInBounds_toArray, List.set_cons_zero, List.set_cons_succ]
          refine AnyB.take (i := 1) (oi := _) (v := ?_) (by simp only [List.getElem?_toArray, List.getElem?_cons_zero, List.getElem?_cons_succ]; rfl) (by kernel_rfl) (by kernel_rfl) (by kernel_rfl) (by kernel_rfl) (by kernel_rfl) (by intro _ _ _ h; exact h) (Or.inl ⟨by rfl, ?_⟩) (by assumption) ?_
          rotate_left
          · (intro w hSw; (try dsimp only at hSw); go_simp; (try (with_reducible rfl)))
          try simp only [Act.put, List.setIfInBounds_toArray, List.set_cons_zero, List.set_cons_succ]
          refine AnyB.takeQ (i := 2) (oi := _) (v := ?_) (by simp only [List.getElem?_toArray, List.getElem?_cons_zero, List.getElem?_cons_succ]; rfl) (by kernel_rfl) (by kernel_rfl) (by kernel_rfl) (by intro _ _ _ h; exact h) (Or.inl ⟨by rfl, ?_⟩) ?_
          rotate_left
          · (intro w hSw; (try dsimp only at hSw); go_simp; (try (with_reducible rfl)))
          try simp only [Act.put, List.setIfInBounds_toArray, List.set_cons_zero, List.set_cons_succ]
          refine AnyB.takeQ (i := 3) (oi := _) (v := ?_) (by simp only [List.getElem?_toArray, List.getElem?_cons_zero, List.getElem?_cons_succ]; rfl) (by kernel_rfl) (by kernel_rfl) (by kernel_rfl) (by intro _ _ _ h; exact h) (Or.inl ⟨by rfl, ?_⟩) ?_
          rotate_left
          · (intro w hSw; (try dsimp only at hSw); go_simp; (try (with_reducible rfl)))
          try simp only [Act.put, List.setIfInBounds_toArray, List.set_cons_zero, List.set_cons_succ]
          refine AnyB.take (i := 4) (oi := _) (v := ?_) (by simp only [List.getElem?_toArray, List.getElem?_cons_zero, List.getElem?_cons_succ]; rfl) (by kernel_rfl) (by kernel_rfl) (by kernel_rfl) (by kernel_rfl) (by kernel_rfl) (by intro _ _ _ h; exact h) (Or.inl ⟨by rfl, ?_⟩) (by assumption) ?_
          rotate_left
          · (intro w hSw; (try dsimp only at hSw); go_simp; (try (with_reducible rfl)))
          try simp only [Act.put, List.setIfInBounds_toArray, List.set_cons_zero, List.set_cons_succ]
          refine AnyB.each (rs := [5]) (by kernel_rfl) (by simp) ?_
          refine EachB.cons rfl (fun K hK hB => ?_) ?_
          · skip
            (go_simp; go_at_call 99; refine (spec_l13Rotation_any (tp : Int) yc _ hbd.2.2.1 hbd.2.2.2).mono ?_; rintro e w5 ⟨v5, rfl, ho5, hb5⟩; obtain ⟨a5, c5, rfl⟩ := ho5.forms; have RR := Lib.hid (Reads.of_rd ho5.rd); have H5 := Lib.hid (HD.out.call hb5); have Row5 := Lib.hid (RowD.out.below hb5 rfl); replace e1 := below_cell hb5 rfl e1; clear hb5 ho5 HD RowD k0 fO; have k0 := H5.out.cO; dsimp only)
            refine hK.out _ _ ?_ (fun hHeld1 => ?_)
            · ((try dsimp only); (first | exact ⟨k0, e1⟩))
            clear hB hK K hHeld0
            refine AnyB.each (rs := [6]) (by kernel_rfl) (by simp) ?_
            refine EachB.cons rfl (fun K hK hB => ?_) ?_
            · skip
              (refine step_append_any _ (by rfl) (.tmp 53) (.tmp 57) 28 (by rfl) (w.heap.size + 1 + 1) 104 i0 (.agg #[.int .i64 0, .int .i64 0, .int .i64 0]) 3 24 Try.underlying28 hi hz0 hz1 hz2 rfl (by omega) _ P2.length _ (by rfl) H5.out.out w5.heap.size a5 (rotF (tp : Int) yc).length c5 _ (by rfl) RR.out (flat_one E3.one _) (by unfold maxLen; omega) (by omega) H5.out.lt.2 ?_; intro v6 w6 hown6 hg6 hat6; obtain ⟨a6, c6, rfl⟩ := own_form hown6; obtain ⟨d6, f6, hST⟩ := CS0.app H5.out rfl hown6 hg6 hat6; have S6 := Lib.hid hST; have N6 := ap_app hat6 Row5.out.lt.2 NG; have Row6 := Lib.hid (own_other hg6 Row5.out (fun g h1 h2 => by injection h1 with h1; subst h1; exact NG h2)); replace e1 := cell_grown hg6 e1 VO; clear hown6 hg6 hat6 hST H5 RR k0 Row5; have k0 := d6)
              refine hK.out _ _ ?_ (fun hHeld2 => ?_)
              · ((try dsimp only); (first | exact ⟨k0, e1⟩))
              clear hB hK K hHeld1
              refine AnyB.takeQ (i := 7) (oi := _) (v := ?_) (by simp only [List.getElem?_toArray, List.getElem?_cons_zero, List.getElem?_cons_succ]; rfl) (by kernel_rfl) (by kernel_rfl) (by kernel_rfl) (by intro _ _ _ h; exact h) (Or.inl ⟨by rfl, ?_⟩) ?_
              rotate_left
              · (intro w hSw; (try dsimp only at hSw); go_simp; (try (with_reducible rfl)))
              try simp only [Act.put, List.setIfInBounds_toArray, List.set_cons_zero, List.set_cons_succ]
              refine AnyB.each (rs := [8]) (by kernel_rfl) (by simp) ?_
              refine EachB.cons rfl (fun K hK hB => ?_) ?_
              · skip
                go_simp
                refine hB.out _ _ rfl ?_
                clear hB hK K
                refine AnyB.none (by kernel_rfl) ?_ _
                have R6 : Hid (∃ B9, OwnN (w6.setCell ⟨w.heap.size + 1 + 1, 1, none⟩ (.slice a6 (P2.length + (rotF (tp : Int) yc).length) c6)) B9 gS (L.length + 1) capS (L ++ [tp])) := (show ∃ B9, _ from ⟨_, own_set_ne Row6.out (fun g h1 => own_blk_ne h1 hgS) _⟩)
                clear e1 Row6 NG VO k0 d6 f6
                obtain ⟨P3, hP3⟩ : ∃ P3, P3 = P2 ++ rotF (tp : Int) yc := ⟨_, rfl⟩
                have hP3l : P3.length ≤ 500 := by rw [hP3, List.length_append]; omega
                rw [← hP3] at S6
                have HP3 := Lib.hid hP3
                clear hP3
                go_wp2_with fail
                go_loopw [11] (fun i wr => ∃ (j : Nat) (q : Int) (vO : Value), j ≤ L.length ∧ i = .int .i64 q ∧ q + j + 1 = L.length ∧ Hid (CS0 (w.heap.size + 1 + 1) (w.heap.size + 1 + 1) p.n W0 wr vO (P3 ++ (notG M).reverse.take j)) ∧ Hid (∃ B9, OwnN wr B9 gS (L.length + 1) capS (L ++ [tp])) ∧ vO.ownBlock ≠ some gS) (fun i _ => (intOf i + 1).toNat)
                case atStart => exact ⟨0, (L.length : Int) - 1, _, Nat.zero_le _, by go_num, by omega, (show CS0 _ _ _ _ _ _ _ from by rw [List.take_zero, List.append_nil]; exact S6.out), R6, N6⟩
                case round =>
                  clear S6 R6 N6
                  obtain ⟨j, q', vO, hj, rfl, hq, hS, hRow, NG⟩ := hrel
                  obtain ⟨B9, hRow⟩ := hRow.out
                  by_cases hq0 : 0 ≤ q'
                  · obtain ⟨q, rfl⟩ := Int.eq_ofNat_of_zero_le hq0
                    have hqj : q + j + 1 = L.length := by omega
                    have cq := own_int_cell hRow q (by rw [hlen1]; omega)
                    rw [show (L ++ [tp]).getD q 0 = L.getD q 0 from by simp [List.getD, List.getElem?_append_left (show q < L.length by omega)]] at cq
                    have HN := Lib.hid (notG_rev HL.out hqj)
                    obtain ⟨x, hx⟩ : ∃ x, x = L.getD q 0 := ⟨_, rfl⟩
                    rw [← hx] at cq HN
                    rw [← HTP.out] at HN
                    obtain ⟨O, hO⟩ : ∃ O, O = P3 ++ (notG M).reverse.take j := ⟨_, rfl⟩
                    have hOl : O.length ≤ 1000 := by rw [hO, List.length_append, List.length_take, List.length_reverse]; omega
                    rw [← hO] at hS
                    have HO := Lib.hid hO
                    clear hx hO
                    obtain ⟨aO, cO, rfl⟩ := own_form hS.out.out
                    have HD := Lib.hid (hS.out.call (show Below wr.heap.size wr wr.drew from (by repeat (first | exact Below.refl _ _ | assumption | refine Below.drew ?_ | refine below_drewN ?_ _ | refine Below.alloc ?_ (by first | omega | (simp <;> omega)) _ | refine Below.setCell ?_ (by first | omega | (simp <;> omega)) _ | refine Below.trans ?_ (Below.mono (by assumption) (by first | omega | (simp <;> omega)))))))
                    have RowD := Lib.hid (hRow.below (show Below wr.heap.size wr wr.drew from (by repeat (first | exact Below.refl _ _ | assumption | refine Below.drew ?_ | refine below_drewN ?_ _ | refine Below.alloc ?_ (by first | omega | (simp <;> omega)) _ | refine Below.setCell ?_ (by first | omega | (simp <;> omega)) _ | refine Below.trans ?_ (Below.mono (by assumption) (by first | omega | (simp <;> omega)))))) rfl)
                    have k0 := HD.out.cO
                    have fO := HD.out.fO
                    replace cq := cell_drew cq
                    have j1 : (q : Int) < (L.length : Int) := by omega
                    have SX := Lib.hid (HD.out.call (show Below wr.drew.heap.size wr.drew (wr.drew.alloc (.cells #[.int .i64 9, .int .i64 (x : Int), .int .i64 (tp : Int)] 104)) from Below.alloc (Below.refl _ _) (Nat.le_refl _) _))
                    have hgl := RowD.out.lt.2
                    clear hS hRow
                    go_wp2_with fail
                    refine AnyB.begin (S := (fun w' => w'.cell? ⟨w.heap.size + 1 + 1, 1, none⟩ = some (.slice aO O.length cO) ∧ w'.cell? ⟨gS, q, none⟩ = some (.int .i64 (x : Int)))) [11] (by kernel_rfl) ?_ (fun hHeld0 => ?_)
                    · ((try dsimp only); (first | exact ⟨k0, cq⟩ | exact ⟨cell_alloc_keep _ k0, cell_alloc_keep _ cq⟩))
                    refine AnyB.takeQ (i := 0) (oi := _) (v := ?_) (by simp only [List.getElem?_toArray, List.getElem?_cons_zero, List.getElem?_cons_succ]; rfl) (by kernel_rfl) (by kernel_rfl) (by kernel_rfl) (by intro _ _ _ h; exact h) (Or.inl ⟨by rfl, ?_⟩) ?_
                    rotate_left
                    · (intro w hSw; (try dsimp only at hSw); go_simp; (try (with_reducible rfl)))
                    try simp only [Act.put, List.setIfInBounds_toArray, List.set_cons_zero, List.set_cons_succ]
                    refine AnyB.take (i := 1) (oi := _) (v := ?_) (by simp only [List.getElem?_toArray, List.getElem?_cons_zero, List.getElem?_cons_succ]; rfl) (by kernel_rfl) (by kernel_rfl) (by kernel_rfl) (by kernel_rfl) (by kernel_rfl) (by intro _ _ _ h; exact h) (Or.inl ⟨by rfl, ?_⟩) (by assumption) ?_
                    rotate_left
                    · (intro w hSw; (try dsimp only at hSw); go_simp; (try (with_reducible rfl)))
                    try simp only [Act.put, List.setIfInBounds_toArray, List.set_cons_zero, List.set_cons_succ]
                    refine AnyB.takeQ (i := 2) (oi := _) (v := ?_) (by simp only [List.getElem?_toArray, List.getElem?_cons_zero, List.getElem?_cons_succ]; rfl) (by kernel_rfl) (by kernel_rfl) (by kernel_rfl) (by intro _ _ _ h; exact h) (Or.inl ⟨by rfl, ?_⟩) ?_
                    rotate_left
                    · (intro w hSw; (try dsimp only at hSw); go_simp; (try (with_reducible rfl)))
                    try simp only [Act.put, List.setIfInBounds_toArray, List.set_cons_zero, List.set_cons_succ]
                    refine AnyB.takeQ (i := 3) (oi := _) (v := ?_) (by simp only [List.getElem?_toArray, List.getElem?_cons_zero, List.getElem?_cons_succ]; rfl) (by kernel_rfl) (by kernel_rfl) (by kernel_rfl) (by intro _ _ _ h; exact h) (Or.inl ⟨by rfl, ?_⟩) ?_
                    rotate_left
                    · (intro w hSw; (try dsimp only at hSw); go_simp; (try (with_reducible rfl)))
                    try simp only [Act.put, List.setIfInBounds_toArray, List.set_cons_zero, List.set_cons_succ]
                    refine AnyB.takeQ (i := 4) (oi := _) (v := ?_) (by simp only [List.getElem?_toArray, List.getElem?_cons_zero, List.getElem?_cons_succ]; rfl) (by kernel_rfl) (by kernel_rfl) (by kernel_rfl) (by intro _ _ _ h; exact h) (Or.inl ⟨by rfl, ?_⟩) ?_
                    rotate_left
                    · (intro w hSw; (try dsimp only at hSw); go_simp; (try (with_reducible rfl)))
                    try simp only [Act.put, List.setIfInBounds_toArray, List.set_cons_zero, List.set_cons_succ]
                    refine AnyB.take (i := 5) (oi := _) (v := ?_) (by simp only [List.getElem?_toArray, List.getElem?_cons_zero, List.getElem?_cons_succ]; rfl) (by kernel_rfl) (by kernel_rfl) (by kernel_rfl) (by kernel_rfl) (by kernel_rfl) (by intro _ _ _ h; exact h) (Or.inl ⟨by rfl, ?_⟩) (by assumption) ?_
                    rotate_left
                    · (intro w hSw; (try dsimp only at hSw); go_simp; (try (with_reducible rfl)))
                    try simp only [Act.put, List.setIfInBounds_toArray, List.set_cons_zero, List.set_cons_succ]
                    refine AnyB.takeQ (i := 6) (oi := _) (v := ?_) (by simp only [List.getElem?_toArray, List.getElem?_cons_zero, List.getElem?_cons_succ]; rfl) (by kernel_rfl) (by kernel_rfl) (by kernel_rfl) (by intro _ _ _ h; exact h) (Or.inl ⟨by rfl, ?_⟩) ?_
                    rotate_left
                    · (intro w hSw; (try dsimp only at hSw); go_simp; (try (with_reducible rfl)))
                    try simp only [Act.put, List.setIfInBounds_toArray, List.set_cons_zero, List.set_cons_succ]
                    refine AnyB.takeQ (i := 7) (oi := _) (v := ?_) (by simp only [List.getElem?_toArray, List.getElem?_cons_zero, List.getElem?_cons_succ]; rfl) (by kernel_rfl) (by kernel_rfl) (by kernel_rfl) (by intro _ _ _ h; exact h) (Or.inl ⟨by rfl, ?_⟩) ?_
                    rotate_left
                    · (intro w hSw; (try dsimp only at hSw); go_simp; (try (with_reducible rfl)))
                    try simp only [Act.put, List.setIfInBounds_toArray, List.set_cons_zero, List.set_cons_succ]
                    refine AnyB.each (rs := [8]) (by kernel_rfl) (by simp) ?_
                    refine EachB.cons rfl (fun K hK hB => ?_) ?_
                    · skip
                      go_simp
                      refine hK.out _ _ ?_ (fun hHeld1 => ?_)
                      · ((try dsimp only); (first | exact ⟨k0, cq⟩ | exact ⟨cell_alloc_keep _ k0, cell_alloc_keep _ cq⟩))
                      clear hB hK K hHeld0
                      refine AnyB.each (rs := [9]) (by kernel_rfl) (by simp) ?_
                      refine EachB.cons rfl (fun K hK hB => ?_) ?_
                      · skip
                        (refine step_append_any _ (by rfl) (.tmp 68) (.tmp 75) 28 (by rfl) (w.heap.size + 1 + 1) 104 i0 (.agg #[.int .i64 0, .int .i64 0, .int .i64 0]) 3 24 Try.underlying28 hi hz0 hz1 hz2 rfl (by omega) _ O.length _ (by rfl) SX.out.out (wr.drew.heap.size + 1) _ 1 1 (E3.cs ⟨9, (x : Int), (tp : Int)⟩) (by rfl) (by exact reads_news wr.drew (E3.cs ⟨9, (x : Int), (tp : Int)⟩) 104 3 1 rfl) (E3.one _) (by unfold maxLen; omega) (by omega) SX.out.lt.2 ?_; intro v6 w6 hown6 hg6 hat6; obtain ⟨a6, c6, rfl⟩ := own_form hown6; obtain ⟨d6, f6, hST⟩ := CS0.app (rot := [⟨9, (x : Int), (tp : Int)⟩]) SX.out rfl (by simpa using hown6) hg6 hat6; have S6 := Lib.hid hST; have N6 := ap_app hat6 (show gS < (wr.drew.alloc (.cells #[.int .i64 9, .int .i64 (x : Int), .int .i64 (tp : Int)] 104)).heap.size by simp; (try simp at hgl); omega) NG; have Row6 := Lib.hid (own_other hg6 (World.ownsRow.alloc RowD.out _) (fun g h1 h2 => by injection h1 with h1; subst h1; exact NG h2)); replace cq := cell_grown hg6 (cell_alloc_keep _ cq) NG; clear hown6 hg6 hat6 hST HD SX k0 RowD fO; have k0 := d6)
                        refine hK.out _ _ ?_ (fun hHeld2 => ?_)
                        · ((try dsimp only); (first | exact ⟨k0, cq⟩ | exact ⟨cell_alloc_keep _ k0, cell_alloc_keep _ cq⟩))
                        clear hB hK K hHeld1
                        refine AnyB.takeQ (i := 10) (oi := _) (v := ?_) (by simp only [List.getElem?_toArray, List.getElem?_cons_zero, List.getElem?_cons_succ]; rfl) (by kernel_rfl) (by kernel_rfl) (by kernel_rfl) (by intro _ _ _ h; exact h) (Or.inl ⟨by rfl, ?_⟩) ?_
                        rotate_left
                        · (intro w hSw; (try dsimp only at hSw); go_simp; (try (with_reducible rfl)))
                        try simp only [Act.put, List.setIfInBounds_toArray, List.set_cons_zero, List.set_cons_succ]
                        refine AnyB.each (rs := [11]) (by kernel_rfl) (by simp) ?_
                        refine EachB.cons rfl (fun K hK hB => ?_) ?_
                        · skip
                          go_simp
                          refine hB.out _ _ rfl ?_
                          clear hB hK K
                          refine AnyB.none (by kernel_rfl) ?_ _
                          have R6 : Hid (∃ B9, OwnN (w6.setCell ⟨w.heap.size + 1 + 1, 1, none⟩ (.slice a6 (O.length + 1) c6)) B9 gS (L.length + 1) capS (L ++ [tp])) := (show ∃ B9, _ from ⟨_, own_set_ne Row6.out (fun g h1 => own_blk_ne h1 hgS) _⟩)
                          clear cq Row6 NG k0 d6 f6
                          go_wp2_with fail
                          go_roundw
                          case rel => exact ⟨j + 1, (q : Int) - 1, _, by omega, by go_num, by omega, (show CS0 _ _ _ _ _ _ _ from by rw [HN.out, ← List.append_assoc, ← HO.out]; exact S6.out), R6, N6⟩
                          case measure => simp [intOf] <;> omega
                        exact EachB.nil
                      exact EachB.nil
                    exact EachB.nil
                  · have i3 : ¬ (0 : Int) ≤ q' := hq0
                    have hjl : L.length ≤ j := by omega
                    have HE := Lib.hid (show P3 ++ (notG M).reverse.take j = pcTo p.ts (k + 1) from by
                      rw [List.take_of_length_le (by rw [List.length_reverse]; omega), HNX.out, HP3.out, HP2.out]
                      unfold termG
                      rw [Int.toNat_natCast, ← HTP.out]
                      simp [List.append_assoc])
                    clear hRow
                    go_wp2_with fail
                    go_roundw
                    case rel => exact ⟨k + 1, vO, by omega, by go_num, (show CS0 _ _ _ _ _ _ _ from by rw [← HE.out]; exact hS.out)⟩
                    case measure => simp [intOf]; omega
              exact EachB.nil
            exact EachB.nil
          exact EachB.nil
    · have ek : k = p.ts.length := by omega
      subst ek
      have i1 : ¬ (p.ts.length : Int) < (p.ts.length : Int) := by omega
      obtain ⟨P, hP⟩ : ∃ P, P = pcTo p.ts p.ts.length := ⟨_, rfl⟩
      have hPl := HP.out p.ts.length (Nat.le_refl _)
      rw [← hP] at hS hPl
      have HPP := Lib.hid hP
      clear hP
      obtain ⟨Lr, hLr⟩ : ∃ Lr, Lr = p.out.map Int.toNat := ⟨_, rfl⟩
      have hN := HNat.out
      rw [← hLr] at hN
      have HLr := Lib.hid hLr
      have HOUT := Lib.hid hN.1
      have HSM := Lib.hid hN.2
      have hlr : Lr.length = p.out.length := by rw [hLr, List.length_map]
      clear hN hLr
      have hred := red_few HSM.out (by omega)
      have KR := Lib.hid (show RdI w (.slice A2 p.out.length c2) (ints Lr) from by rw [← HOUT.out]; exact KT.out)
      obtain ⟨aO, cO, rfl⟩ := own_form hS.out.out
      have t3 := A3.out _ hS.out.bel
      have hbw := Lib.hid (BW.out _ (Below.drew hS.out.bel))
      have HD := Lib.hid (hS.out.call (show Below wr.heap.size wr wr.drew from (by repeat (first | exact Below.refl _ _ | assumption | refine Below.drew ?_ | refine below_drewN ?_ _ | refine Below.alloc ?_ (by first | omega | (simp <;> omega)) _ | refine Below.setCell ?_ (by first | omega | (simp <;> omega)) _ | refine Below.trans ?_ (Below.mono (by assumption) (by first | omega | (simp <;> omega)))))))
      have k0 := HD.out.cO
      have fO := HD.out.fO
      replace t3 := cell_drew t3
      clear hS
      go_wp2_with fail
      refine AnyB.begin (S := (fun w' => w'.cell? ⟨w.heap.size + 1 + 1, 1, none⟩ = some (.slice aO P.length cO) ∧ w'.cell? ⟨w.heap.size, 3, none⟩ = some (.slice A2 p.out.length c2))) [8] (by kernel_rfl) ?_ (fun hHeld0 => ?_)
      · ((try dsimp only); (first | exact ⟨k0, t3⟩))
      refine AnyB.takeQ (i := 0) (oi := _) (v := ?_) (by simp only [List.getElem?_toArray, List.getElem?_cons_zero, List.getElem?_cons_succ]; rfl) (by kernel_rfl) (by kernel_rfl) (by kernel_rfl) (by intro _ _ _ h; exact h) (Or.inl ⟨by rfl, ?_⟩) ?_
      rotate_left
      · (intro w hSw; (try dsimp only at hSw); go_simp; (try (with_reducible rfl)))
      try simp only [Act.put, List.setIfInBounds_toArray, List.set_cons_zero, List.set_cons_succ]
      refine AnyB.take (i := 1) (oi := _) (v := ?_) (by simp only [List.getElem?_toArray, List.getElem?_cons_zero, List.getElem?_cons_succ]; rfl) (by kernel_rfl) (by kernel_rfl) (by kernel_rfl) (by kernel_rfl) (by kernel_rfl) (by intro _ _ _ h; exact h) (Or.inl ⟨by rfl, ?_⟩) (by assumption) ?_
      rotate_left
      · (intro w hSw; (try dsimp only at hSw); go_simp; (try (with_reducible rfl)))
      try simp only [Act.put, List.setIfInBounds_toArray, List.set_cons_zero, List.set_cons_succ]
      refine AnyB.takeQ (i := 2) (oi := _) (v := ?_) (by simp only [List.getElem?_toArray, List.getElem?_cons_zero, List.getElem?_cons_succ]; rfl) (by kernel_rfl) (by kernel_rfl) (by kernel_rfl) (by intro _ _ _ h; exact h) (Or.inl ⟨by rfl, ?_⟩) ?_
      rotate_left
      · (intro w hSw; (try dsimp only at hSw); go_simp; (try (with_reducible rfl)))
      try simp only [Act.put, List.setIfInBounds_toArray, List.set_cons_zero, List.set_cons_succ]
      refine AnyB.take (i := 3) (oi := _) (v := ?_) (by simp only [List.getElem?_toArray, List.getElem?_cons_zero, List.getElem?_cons_succ]; rfl) (by kernel_rfl) (by kernel_rfl) (by kernel_rfl) (by kernel_rfl) (by kernel_rfl) (by intro _ _ _ h; exact h) (Or.inl ⟨by rfl, ?_⟩) (by assumption) ?_
      rotate_left
      · (intro w hSw; (try dsimp only at hSw); go_simp; (try (with_reducible rfl)))
      try simp only [Act.put, List.setIfInBounds_toArray, List.set_cons_zero, List.set_cons_succ]
      refine AnyB.each (rs := [4]) (by kernel_rfl) (by simp) ?_
      refine EachB.cons rfl (fun K hK hB => ?_) ?_
      · skip
        (go_simp; go_at_call 112; refine (spec_l12Synthesize_any _ Lr _ (Rd.below KR.out hbw.out rfl) HSM.out (by omega) (by omega)).mono ?_; rintro e w5 ⟨v5, rfl, ho5, hb5⟩; obtain ⟨a5, c5, rfl⟩ := ho5.forms; have RR := Lib.hid (show Reads w5 w5.heap.size 3 a5 (redG Lr).length ((redG Lr).reverse.flatMap E3.cs) from (by have h9 := Reads.of_rd ho5.rd; rw [List.length_reverse] at h9; exact h9)); have H5 := Lib.hid (HD.out.call hb5); replace t3 := below_cell hb5 rfl t3; have hfd : ∀ (w : World) (z : Int) (nn : Nat), (Instr.field 30 (.agg #[.int .i64 z, .slice a5 nn c5]) 1).run Try.prog w = .ok (.slice a5 nn c5) w := (fun _ _ _ => (by kernel_rfl)); clear hb5 ho5 HD k0 fO; have k0 := H5.out.cO; dsimp only)
        refine hK.out _ _ ?_ (fun hHeld1 => ?_)
        · ((try dsimp only); (first | exact ⟨k0, t3⟩))
        clear hB hK K hHeld0
        refine AnyB.takeQ (i := 5) (oi := _) (v := ?_) (by simp only [List.getElem?_toArray, List.getElem?_cons_zero, List.getElem?_cons_succ]; rfl) (by kernel_rfl) (by kernel_rfl) (by kernel_rfl) (by intro _ _ _ h; exact h) (Or.inl ⟨by rfl, ?_⟩) ?_
        rotate_left
        · (intro w hSw; (try dsimp only at hSw); go_simp; (try (with_reducible rfl)))
        try simp only [Act.put, List.setIfInBounds_toArray, List.set_cons_zero, List.set_cons_succ]
        refine AnyB.each (rs := [6]) (by kernel_rfl) (by simp) ?_
        refine EachB.cons rfl (fun K hK hB => ?_) ?_
        · skip
          (refine step_append_any _ (by rfl) (.tmp 80) (.tmp 84) 28 (by rfl) (w.heap.size + 1 + 1) 104 i0 (.agg #[.int .i64 0, .int .i64 0, .int .i64 0]) 3 24 Try.underlying28 hi hz0 hz1 hz2 rfl (by omega) _ P.length _ (by rfl) H5.out.out w5.heap.size a5 (redG Lr).length c5 _ (by rfl) RR.out (flat_one E3.one _) (by unfold maxLen; omega) (by omega) H5.out.lt.2 ?_; intro v6 w6 hown6 hg6 hat6; obtain ⟨a6, c6, rfl⟩ := own_form hown6; obtain ⟨d6, f6, hST⟩ := CS0.app H5.out List.length_reverse hown6 hg6 hat6; have S6 := Lib.hid hST; replace t3 := cell_grown hg6 t3 (fun e => by have := (World.ownsRow.lt H5.out.out _ e).1; omega); clear hown6 hg6 hat6 hST H5 RR k0; have k0 := d6)
          refine hK.out _ _ ?_ (fun hHeld2 => ?_)
          · ((try dsimp only); (first | exact ⟨k0, t3⟩))
          clear hB hK K hHeld1
          refine AnyB.takeQ (i := 7) (oi := _) (v := ?_) (by simp only [List.getElem?_toArray, List.getElem?_cons_zero, List.getElem?_cons_succ]; rfl) (by kernel_rfl) (by kernel_rfl) (by kernel_rfl) (by intro _ _ _ h; exact h) (Or.inl ⟨by rfl, ?_⟩) ?_
          rotate_left
          · (intro w hSw; (try dsimp only at hSw); go_simp; (try (with_reducible rfl)))
          try simp only [Act.put, List.setIfInBounds_toArray, List.set_cons_zero, List.set_cons_succ]
          refine AnyB.each (rs := [8]) (by kernel_rfl) (by simp) ?_
          refine EachB.cons rfl (fun K hK hB => ?_) ?_
          · skip
            go_simp
            refine hB.out _ _ rfl ?_
            clear hB hK K
            refine AnyB.none (by kernel_rfl) ?_ _
            have t1 := A1.out _ S6.out.bel
            obtain ⟨Q, hQ⟩ : ∃ Q, Q = P ++ (redG Lr).reverse := ⟨_, rfl⟩
            have hQl : Q.length ≤ 400 := by rw [hQ, List.length_append, List.length_reverse]; omega
            rw [← hQ] at S6
            have HQ := Lib.hid hQ
            clear hQ t3 k0 d6 f6
            obtain ⟨N, hN⟩ : ∃ N : Nat, p.ph = (N : Int) := ⟨p.ph.toNat, by omega⟩
            have HN := Lib.hid hN
            have hN7 : N ≤ 7 := by omega
            rw [hN] at t1
            clear hN hph
            go_wp2_with fail
            go_loopw [12] (fun i wr => ∃ (j : Nat) (vO : Value), j ≤ N ∧ i = .int .i64 ((N : Int) - j) ∧ Hid (CS0 (w.heap.size + 1 + 1) (w.heap.size + 1 + 1) p.n W0 wr vO (Q ++ List.replicate j ⟨12, 0, 0⟩))) (fun i _ => (intOf i).toNat)
            case atStart => exact ⟨0, _, Nat.zero_le _, by go_num, (show CS0 _ _ _ _ _ _ _ from by simpa using S6.out)⟩
            case round =>
              clear S6 t1
              obtain ⟨j, vO, hj, rfl, hS⟩ := hrel
              by_cases hjn : j < N
              · have j1 : (0 : Int) < (N : Int) - (j : Int) := by omega
                have hN7 : N ≤ 7 := by omega
                obtain ⟨O, hO⟩ : ∃ O, O = Q ++ List.replicate j (⟨12, 0, 0⟩ : E3) := ⟨_, rfl⟩
                have hOl : O.length ≤ 1000 := by rw [hO, List.length_append, List.length_replicate]; omega
                rw [← hO] at hS
                have HO := Lib.hid (show O ++ [(⟨12, 0, 0⟩ : E3)] = Q ++ List.replicate (j + 1) ⟨12, 0, 0⟩ from by rw [hO, List.append_assoc, List.replicate_succ'])
                clear hO
                obtain ⟨aO, cO, rfl⟩ := own_form hS.out.out
                have kO := hS.out.cO
                have SX := Lib.hid (hS.out.call (show Below wr.heap.size wr (wr.alloc (.cells #[.int .i64 12, .int .i64 0, .int .i64 0] 104)) from (by repeat (first | exact Below.refl _ _ | assumption | refine Below.drew ?_ | refine below_drewN ?_ _ | refine Below.alloc ?_ (by first | omega | (simp <;> omega)) _ | refine Below.setCell ?_ (by first | omega | (simp <;> omega)) _ | refine Below.trans ?_ (Below.mono (by assumption) (by first | omega | (simp <;> omega)))))))
                clear hS
                go_wp2_with (at_builtin; go_must (refine wpList_append_any _ rfl _ _ 28 rfl (w.heap.size + 1 + 1) 104 i0 (.agg #[.int .i64 0, .int .i64 0, .int .i64 0]) 3 24 Try.underlying28 hi hz0 hz1 hz2 rfl (by decide) _ O.length _ rfl SX.out.out (wr.heap.size + 1) _ 1 1 (E3.cs ⟨12, 0, 0⟩) rfl (by have := reads_news wr (E3.cs ⟨12, 0, 0⟩) 104 3 1 rfl; simpa [E3.cs] using this) (E3.one _) (by unfold maxLen; omega) (by omega) SX.out.lt.2 ?_; intro v3 w4 hown3 hg3 hat3; obtain ⟨a3, c3', rfl⟩ := own_form hown3; obtain ⟨d4, f4, hST⟩ := CS0.app (rot := [⟨12, 0, 0⟩]) SX.out rfl (by simpa using hown3) hg3 hat3; have S4 := Lib.hid hST; clear hST hown3 hg3 hat3))
                go_roundw
                case rel => exact ⟨j + 1, _, by omega, by go_num, (show CS0 _ _ _ _ _ _ _ from by rw [← HO.out]; exact S4.out)⟩
                case measure => simp [intOf]; omega
              · have ejn : j = N := by omega
                subst ejn
                have j1 : ¬ (0 : Int) < (j : Int) - (j : Int) := by omega
                have HE := Lib.hid (show Q ++ List.replicate j (⟨12, 0, 0⟩ : E3) = pcAll p from by unfold pcAll; rw [HQ.out, HPP.out, HLr.out, HN.out, Int.toNat_natCast])
                rw [HE.out] at hS
                obtain ⟨aO, cO, rfl⟩ := own_form hS.out.out
                have c0 := hS.out.c0
                have cO' := hS.out.cO
                have r0 := R0.out _ hS.out.bel
                have r1 := R1.out _ hS.out.bel
                obtain ⟨f0, f1⟩ := F0.out _ hS.out.bel
                go_wp2_with fail
                have hZ := box_set2 (nb := w.heap.size + 1) (.int .i64 p.n) (.slice aO (pcAll p).length cO) r0 r1
                exact bodyPost_ret (v := .agg #[.int .i64 p.n, .slice aO (pcAll p).length cO]) (by simp [results, Try.results60, go_sem, hZ]) rfl ⟨_, rfl, (show OwnE _ _ _ _ _ _ _ from own_le (own_set_ne (own_set_ne hS.out.out (fun g e => by have := (World.ownsRow.lt hS.out.out g e).1; dsimp only; omega) _) (fun g e => by have := (World.ownsRow.lt hS.out.out g e).1; dsimp only; omega) _) (by omega)), Below.setCell (Below.setCell (BW.out _ hS.out.bel) (by dsimp only; omega) _) (by dsimp only; omega) _⟩
          exact EachB.nil
        exact EachB.nil
      exact EachB.nil
end Go.Proofs.Ytdkfoleippncnaa
namespace Go.Proofs.Ytdkfoleippncnaa
set_option linter.unusedSimpArgs false
set_option linter.unusedVariables false
set_option linter.unnecessarySimpa false
set_option maxRecDepth 200000
open Go.ChangeShapes Go.WideShapes Go.ChangeAt Go.RowKit

section
variable {P : Program}
theorem run_copy_k (w : World) (dT sT ty elem : TypeId) (i : TypeInfo) (b o dLen dCap : Nat) (a : Addr) (sLen sCap m k : Nat) (cs : List Value)
    (hu : P.underlying dT = some (.slice elem)) (hq : P.info? elem = some i) (hi : i.size = k) (hm : m = Nat.min sLen dLen) (hn : cs.length = m * k)
    (hsrc : ∀ j v, cs[j]? = some v → w.cell? (a.add j) = some v) (hc : ∀ j, j < cs.length → (w.cell? ⟨b, o + j, none⟩).isSome = true) (hf : ∀ j, j < cs.length → w.frozen? ⟨b, o + j, none⟩ = false) (h1 : ∀ v ∈ cs, v.oneCell' = true) :
    (Builtin.copy_ #[dT, sT] ty #[.slice (some ⟨b, o, none⟩) dLen dCap, .slice (some a) sLen sCap]).run P w = .ok (goInt m) (w.setCells b o cs) := by
  have hl := run_loadCells_list (P := P) w a cs hsrc
  have hst := run_storeCells_cells (P := P) b o cs 0 w (by simpa using hc) (by simpa using hf) h1
  simp [Builtin.copy_, run_underlying hu, Builtin.lenOf, Builtin.firstCells, sizeOf, typeInfo, hq, hi, ← hm, ← hn, hl, hst]
theorem step_copy_k {ops : Array Oper} {o : Oper} {a : Act} {w : World} {K : Act → World → Prop} {Q : Exit → Act → World → Prop} {E : Prop} (hgd : o.guard = none) (d s : Operand) (dT sT : TypeId)
    (ho : o.op = .call { callee := .builtin .copy, args := #[d, s], argTypes := #[dT, sT] }) (elem : TypeId) (i : TypeInfo) (hu : P.underlying dT = some (.slice elem)) (hq : P.info? elem = some i) (k : Nat) (hi : i.size = k)
    (b of dLen dCap : Nat) (ad : Addr) (sLen sCap : Nat) (hd : a.eval d = .slice (some ⟨b, of, none⟩) dLen dCap) (hs : a.eval s = .slice (some ad) sLen sCap)
    (m : Nat) (cs : List Value) (hm : m = Nat.min sLen dLen) (hn : cs.length = m * k)
    (hsrc : ∀ j v, cs[j]? = some v → w.cell? (ad.add j) = some v) (hc : ∀ j, j < cs.length → (w.cell? ⟨b, of + j, none⟩).isSome = true) (hf : ∀ j, j < cs.length → w.frozen? ⟨b, of + j, none⟩ = false) (h1 : ∀ v ∈ cs, v.oneCell' = true)
    (h : K (a.put o.dst (goInt m)) (w.setCells b of cs)) :
    if Region.wanted o (yielded ops a.tmps) = true then Oper.wp P o a w K Q else E := by
  have hw : Region.wanted o (yielded ops a.tmps) = true := by simp [Region.wanted, hgd]
  rw [if_pos hw]
  have hrun := run_copy_k (P := P) w dT sT o.type elem i b of dLen dCap ad sLen sCap m k cs hu hq hi hm hn hsrc hc hf h1
  unfold Oper.wp
  simp [execOp, ho, resolve, invoke, builtin, hd, hs, hrun, Result.andThen]
  exact h
end
/-- j gates of the kind, then gates that are not set yet. -/
def repL (x : E3) (c j : Nat) : List E3 := List.replicate j x ++ List.replicate (c - j) ⟨0, 0, 0⟩
theorem repL_len (x : E3) {c j : Nat} (h : j ≤ c) : (repL x c j).length = c := by unfold repL; simp; omega
theorem repL_set (x : E3) {c j m : Nat} (h : j + m ≤ c) : setM ((repL x c j).flatMap E3.cs) (j * 3) ((List.replicate m x).flatMap E3.cs) = (repL x c (j + m)).flatMap E3.cs := by
  have hl : ((repL x c j).flatMap E3.cs).length = c * 3 := by rw [flat_len E3.len, repL_len x (by omega)]
  have hm : ((List.replicate m x).flatMap E3.cs).length = m * 3 := by rw [flat_len E3.len, List.length_replicate]
  rw [setM_eq _ _ _ (by rw [hl, hm]; omega), hm, ← Nat.add_mul, flat_take E3.len, flat_drop E3.len, ← List.flatMap_append, ← List.flatMap_append]
  congr 1
  unfold repL
  rw [List.take_append_of_le_length (by simp), List.take_of_length_le (by simp), List.drop_append]
  rw [List.drop_of_length_le (by simp), List.nil_append, List.length_replicate, List.drop_replicate, List.replicate_append_replicate, show c - j - (j + m - j) = c - (j + m) by omega]
theorem rep_take (x : E3) {c j m : Nat} (h : m ≤ j) (i : Nat) (v : Value) (hv : ((List.replicate m x).flatMap E3.cs)[i]? = some v) : ((repL x c j).flatMap E3.cs)[i]? = some v := by
  have hi := (List.getElem?_eq_some_iff.1 hv).1
  have e : (List.replicate m x).flatMap E3.cs = ((repL x c j).flatMap E3.cs).take (m * 3) := by
    rw [flat_take E3.len]
    congr 1
    unfold repL
    rw [List.take_append_of_le_length (by simpa using h), List.take_replicate, Nat.min_eq_left h]
  rw [e] at hv
  rw [List.getElem?_take] at hv
  split at hv
  · exact hv
  · cases hv
theorem made_gates (c : Nat) : (madeCells #[.int .i64 0, .int .i64 0, .int .i64 0] (c * 3)).toList = (List.replicate c (⟨0, 0, 0⟩ : E3)).flatMap E3.cs := by
  apply List.ext_getElem
  · rw [flat_len E3.len]; simp [size_madeCells]
  · intro i h1 h2
    have hz : ∀ v ∈ (List.replicate c (⟨0, 0, 0⟩ : E3)).flatMap E3.cs, v = .int .i64 0 := by
      intro v hv
      obtain ⟨x, hx, hv⟩ := List.mem_flatMap.1 hv
      rw [List.eq_of_mem_replicate hx] at hv
      simpa [E3.cs] using hv
    rw [hz _ (List.getElem_mem h2)]
    simp [madeCells, Value.cells]
    have : i % 3 < 3 := Nat.mod_lt _ (by omega)
    rcases (show i % 3 = 0 ∨ i % 3 = 1 ∨ i % 3 = 2 by omega) with e | e | e <;> rw [e] <;> rfl
theorem own_made (w : World) (c base : Nat) (t : TypeId) (hc : c ≤ 1000) (hb : base ≤ w.heap.size) :
    (w.alloc (.cells (madeCells #[.int .i64 0, .int .i64 0, .int .i64 0] (c * 3)) t)).ownsRow base t 3 (.slice (some ⟨w.heap.size, 0, none⟩) c c) c ((repL ⟨12, 0, 0⟩ c 0).flatMap E3.cs) := by
  have e : repL ⟨12, 0, 0⟩ c 0 = List.replicate c ⟨0, 0, 0⟩ := by simp [repL]
  rw [e]
  refine ⟨by rw [flat_len E3.len, List.length_replicate], .inr ⟨w.heap.size, c, madeCells #[.int .i64 0, .int .i64 0, .int .i64 0] (c * 3), rfl, hb, ?_, Nat.le_refl _, by unfold maxLen; omega, size_madeCells _ _, ?_⟩⟩
  · show (w.heap.push _)[w.heap.size]? = _
    simp
  · rw [made_gates, List.take_of_length_le (by rw [flat_len E3.len, List.length_replicate]; omega)]
theorem rep_one (n : Nat) (x : E3) : ∀ v ∈ (List.replicate n x).flatMap E3.cs, v.oneCell' = true := flat_one E3.one _
theorem own_there {w : World} {base g n cap : Nat} {T9 : TypeId} {xs : List E3} (h : w.ownsRow base T9 3 (.slice (some ⟨g, 0, none⟩) n cap) n (xs.flatMap E3.cs)) (j : Nat) (hj : j < n * 3) : (w.cell? ⟨g, j, none⟩).isSome = true ∧ w.frozen? ⟨g, j, none⟩ = false := by
  refine ⟨?_, World.ownsRow.frozenAt h j⟩
  have hl := h.1
  rw [own_cellAt h (j := j) (u := (xs.flatMap E3.cs)[j]'(by omega)) (List.getElem?_eq_getElem _)]; rfl
theorem grow_set {w0 w : World} {B g : Nat} (h : Below B w0 w) (hB : B ≤ w.heap.size) (hg : B ≤ g) {w' : World} (hw : w.grownBy w' (some g)) : Below B w0 w' := h.grown hw hB (fun k hk => by injection hk with hk; omega)
set_option maxHeartbeats 8000000 in
theorem slices_Repeat_Gate (xb c : Nat) (hc : c ≤ 7) (w : World) (x0 : w.cell? ⟨xb, 0, none⟩ = some (.int .i64 12)) (x1 : w.cell? ⟨xb, 1, none⟩ = some (.int .i64 0)) (x2 : w.cell? ⟨xb, 2, none⟩ = some (.int .i64 0)) :
    Calls Try.prog 117 #[.slice (some ⟨xb, 0, none⟩) 1 1, .int .i64 (c : Int)] w fun e w' => ∃ v, e = .returned v ∧ OwnE w' w.heap.size 104 v E3.cs 3 (List.replicate c ⟨12, 0, 0⟩) ∧ Below w.heap.size w w' := by
  obtain ⟨i0, hi, hz0, hz1, hz2⟩ := info_parts info_Gate
  have hmk : ∀ W : World, (Instr.makeSlice 28 (.int .i64 (c : Int)) (.int .i64 (c : Int))).run Try.prog W = .ok (.slice (some ⟨W.heap.size, 0, none⟩) c c) (W.alloc (.cells (madeCells #[.int .i64 0, .int .i64 0, .int .i64 0] (c * 3)) 104)) := fun W => by
    have h := run_make (P := Try.prog) W 28 104 i0 (.agg #[.int .i64 0, .int .i64 0, .int .i64 0]) Try.underlying28 hi hz0 .i64 .i64 (c : Int) (c : Int) (by omega) (by omega) (by rw [hz2]; omega) (by omega)
    rw [Int.toNat_natCast, hz1] at h
    exact h
  have O1 := own_made w c w.heap.size 104 (by omega) (Nat.le_refl _)
  have b1 : Below w.heap.size w (w.alloc (.cells (madeCells #[.int .i64 0, .int .i64 0, .int .i64 0] (c * 3)) 104)) := (by repeat (first | exact Below.refl _ _ | assumption | refine Below.drew ?_ | refine below_drewN ?_ _ | refine Below.alloc ?_ (by first | omega | (simp <;> omega)) _ | refine Below.setCell ?_ (by first | omega | (simp <;> omega)) _ | refine Below.trans ?_ (Below.mono (by assumption) (by first | omega | (simp <;> omega)))))
  replace x0 := cell_alloc_keep (.cells (madeCells #[.int .i64 0, .int .i64 0, .int .i64 0] (c * 3)) 104) x0
  replace x1 := cell_alloc_keep (.cells (madeCells #[.int .i64 0, .int .i64 0, .int .i64 0] (c * 3)) 104) x1
  replace x2 := cell_alloc_keep (.cells (madeCells #[.int .i64 0, .int .i64 0, .int .i64 0] (c * 3)) 104) x2
  obtain ⟨m1, hm1⟩ : ∃ m1, m1 = Nat.min 1 c := ⟨_, rfl⟩
  have hm1' : m1 ≤ 1 ∧ m1 ≤ c ∧ (c = 0 ∨ m1 = 1) := by
    have : Nat.min 1 c = min 1 c := rfl
    omega
  have hsrc : ∀ j v, ((List.replicate m1 (⟨12, 0, 0⟩ : E3)).flatMap E3.cs)[j]? = some v → (w.alloc (.cells (madeCells #[.int .i64 0, .int .i64 0, .int .i64 0] (c * 3)) 104)).cell? ((⟨xb, 0, none⟩ : Addr).add j) = some v := by
    intro j v hv
    rw [Addr.add_lit, Nat.zero_add]
    rcases (show m1 = 0 ∨ m1 = 1 by omega) with e | e
    · rw [e] at hv; simp at hv
    · rw [e] at hv
      match j, hv with
      | 0, hv => simp [E3.cs] at hv; subst hv; exact x0
      | 1, hv => simp [E3.cs] at hv; subst hv; exact x1
      | 2, hv => simp [E3.cs] at hv; subst hv; exact x2
  have hlen1 : ((List.replicate m1 (⟨12, 0, 0⟩ : E3)).flatMap E3.cs).length = m1 * 3 := by rw [flat_len E3.len, List.length_replicate]
  have hcp : ∀ ty, (Builtin.copy_ #[28, 28] ty #[.slice (some ⟨w.heap.size, 0, none⟩) c c, .slice (some ⟨xb, 0, none⟩) 1 1]).run Try.prog (w.alloc (.cells (madeCells #[.int .i64 0, .int .i64 0, .int .i64 0] (c * 3)) 104)) = .ok (goInt m1) ((w.alloc (.cells (madeCells #[.int .i64 0, .int .i64 0, .int .i64 0] (c * 3)) 104)).setCells w.heap.size 0 ((List.replicate m1 (⟨12, 0, 0⟩ : E3)).flatMap E3.cs)) :=
    fun ty => run_copy_k _ _ _ ty 104 i0 w.heap.size 0 c c _ 1 1 m1 3 _ Try.underlying28 hi hz1 hm1 hlen1 hsrc (fun j hj => by rw [Nat.zero_add]; exact (own_there O1 j (by omega)).1) (fun j hj => by rw [Nat.zero_add]; exact (own_there O1 j (by omega)).2) (rep_one _ _)
  obtain ⟨o2, g2⟩ := own_setCells ((List.replicate m1 (⟨12, 0, 0⟩ : E3)).flatMap E3.cs) 0 O1
  have e2 := repL_set ⟨12, 0, 0⟩ (c := c) (j := 0) (m := m1) (by omega)
  rw [Nat.zero_mul, Nat.zero_add] at e2
  rw [e2] at o2
  have O2 := Lib.hid o2
  have B2 := Lib.hid (grow_set b1 (by simp) (Nat.le_refl _) g2)
  clear O1 o2 g2 e2 b1 hsrc x0 x1 x2
  have hgi : goInt m1 = .int .i64 (m1 : Int) := rfl
  clear hm1
  go_enter Try.func117, Try.ntmps117
  go_wp2_with fail
  refine (show Calls Try.prog 152 #[.int .u64 ((1 : Nat) : Int), .int .u64 (c : Int)] _ _ from Try.bits_Mul 1 c (by omega) (by omega) _).mono ?_; rintro e w' ⟨rfl, rfl⟩
  rw [show 1 * c / 18446744073709551616 = 0 from by omega, show 1 * c % 18446744073709551616 = c from by omega]
  have q1 : ¬ (9223372036854775807 : Int) < (c : Int) := by omega
  have q2 : ¬ (0 : Int) < ((0 : Nat) : Int) := by omega
  go_wp2_with fail
  generalize hX : (w'.alloc (.cells (madeCells #[.int .i64 0, .int .i64 0, .int .i64 0] (c * 3)) 104)).setCells w'.heap.size 0 ((List.replicate m1 (⟨12, 0, 0⟩ : E3)).flatMap E3.cs) = X at *
  clear hX hcp
  go_loopw [8] (fun i wr => ∃ j : Nat, j ≤ c ∧ (c = 0 ∨ 1 ≤ j) ∧ i = .int .i64 j ∧ Hid (wr.ownsRow w'.heap.size 104 3 (.slice (some ⟨w'.heap.size, 0, none⟩) c c) c ((repL ⟨12, 0, 0⟩ c j).flatMap E3.cs)) ∧ Hid (Below w'.heap.size w' wr) ∧ w'.heap.size ≤ wr.heap.size) (fun i _ => c - (intOf i).toNat)
  case atStart => exact ⟨m1, hm1'.2.1, by omega, rfl, O2, B2, B2.out.size⟩
  case round =>
    clear O2 B2
    obtain ⟨j, hj, hc0, rfl, hO, hB, hsz⟩ := hrel
    by_cases hlt : j < c
    · have i1 : (j : Int) < (c : Int) := by omega
      have i0' : (0 : Int) ≤ (j : Int) := by omega
      have hne : ¬ c = j := by omega
      obtain ⟨m, hm⟩ : ∃ m, m = Nat.min j (c - j) := ⟨_, rfl⟩
      have hm' : m ≤ j ∧ j + m ≤ c ∧ 1 ≤ m := by
        have : Nat.min j (c - j) = min j (c - j) := rfl
        omega
      have OD := hO.out.drew
      have hcl : ((List.replicate m (⟨12, 0, 0⟩ : E3)).flatMap E3.cs).length = m * 3 := by rw [flat_len E3.len, List.length_replicate]
      have s1 := Lib.hid (fun (t : Nat) (v : Value) (hv : ((List.replicate m (⟨12, 0, 0⟩ : E3)).flatMap E3.cs)[t]? = some v) => show wr.drew.cell? ((⟨w'.heap.size, 0, none⟩ : Addr).add t) = some v from by rw [Addr.add_lit, Nat.zero_add]; exact own_cellAt OD (rep_take _ hm'.1 t v hv))
      have s2 := Lib.hid (fun (t : Nat) (ht : t < ((List.replicate m (⟨12, 0, 0⟩ : E3)).flatMap E3.cs).length) => own_there OD (j * 3 + t) (by rw [hcl] at ht; omega))
      obtain ⟨o2, g2⟩ := own_setCells ((List.replicate m (⟨12, 0, 0⟩ : E3)).flatMap E3.cs) (j * 3) OD
      rw [repL_set ⟨12, 0, 0⟩ hm'.2.1] at o2
      have O3 := Lib.hid o2
      have B3 := Lib.hid (grow_set (Below.drew hB.out) hsz (Nat.le_refl _) g2)
      have hcl2 := Lib.hid hcl
      have HMM := Lib.hid hm
      have z3 := Lib.hid (show w'.heap.size ≤ (wr.drew.setCells w'.heap.size (j * 3) ((List.replicate m (⟨12, 0, 0⟩ : E3)).flatMap E3.cs)).heap.size from Nat.le_trans hsz g2.size)
      clear o2 g2 hO hB OD hcl hm
      go_wp2_with fail
      go_region_law (refine step_copy_k rfl (.tmp 41) (.tmp 44) 28 28 rfl 104 i0 Try.underlying28 hi 3 hz1 w'.heap.size (j * 3) (c - j) (c - j) ⟨w'.heap.size, 0, none⟩ j c (by simp [Act.eval, Act.put]) (by simp [Act.eval, Act.put]) m ((List.replicate m (⟨12, 0, 0⟩ : E3)).flatMap E3.cs) HMM.out hcl2.out s1.out (fun t ht => (s2.out t ht).1) (fun t ht => (s2.out t ht).2) (rep_one _ _) ?_)
      simp only [Act.put, List.setIfInBounds_toArray, List.set_cons_zero, List.set_cons_succ, List.getElem_toArray, List.getElem_cons_zero, List.getElem_cons_succ]
      go_wp2_with fail
      have hw : IntKind.i64.wrap ((j : Int) + (m : Int)) = ((j + m : Nat) : Int) := by rw [IntWalk.i64_in _ (by omega)]; omega
      go_roundw
      case rel => exact ⟨j + m, hm'.2.1, by omega, by rw [← hw], O3, B3, z3.out⟩
      case measure => simp only [hw, intOf]; omega
    · have ej : j = c := by omega
      subst ej
      have i1 : ¬ (j : Int) < (j : Int) := by omega
      have e9 : repL (⟨12, 0, 0⟩ : E3) j j = List.replicate j ⟨12, 0, 0⟩ := by simp [repL]
      rw [e9] at hO
      go_wp2_with fail
      go_ret
      exact ⟨_, rfl, (show OwnE _ _ _ _ _ _ _ from by unfold OwnE; rw [List.length_replicate]; exact hO.out), hB.out⟩
theorem impl_phases_any (c : Nat) (hc : c ≤ 7) (w : World) :
    Calls Try.prog 67 #[.int .i64 (c : Int)] w fun e w' => ∃ v, e = .returned v ∧ OwnE w' w.heap.size 104 v E3.cs 3 (List.replicate c ⟨12, 0, 0⟩) ∧ Below w.heap.size w w' := by
  have x0 : (w.alloc (.cells #[.int .i64 12, .int .i64 0, .int .i64 0] 104)).cell? ⟨w.heap.size, 0, none⟩ = some (.int .i64 12) := (by repeat (first | (refine Eq.trans (World.cell?_alloc_at _ _ _ _ ?hh) ?_; (case hh => (simp; done)); rfl) | refine cell_alloc_keep _ ?_))
  have x1 : (w.alloc (.cells #[.int .i64 12, .int .i64 0, .int .i64 0] 104)).cell? ⟨w.heap.size, 1, none⟩ = some (.int .i64 0) := (by repeat (first | (refine Eq.trans (World.cell?_alloc_at _ _ _ _ ?hh) ?_; (case hh => (simp; done)); rfl) | refine cell_alloc_keep _ ?_))
  have x2 : (w.alloc (.cells #[.int .i64 12, .int .i64 0, .int .i64 0] 104)).cell? ⟨w.heap.size, 2, none⟩ = some (.int .i64 0) := (by repeat (first | (refine Eq.trans (World.cell?_alloc_at _ _ _ _ ?hh) ?_; (case hh => (simp; done)); rfl) | refine cell_alloc_keep _ ?_))
  have HR := Lib.hid (slices_Repeat_Gate w.heap.size c hc _ x0 x1 x2)
  clear x0 x1 x2
  go_enter Try.func67, Try.ntmps67
  go_wp2_with fail
  refine HR.out.mono ?_; rintro e w1 ⟨v, rfl, ho, hb1⟩
  have O1 := Lib.hid (OwnE.le ho (base' := w.heap.size) (by simp)); clear ho
  go_wp2_with fail
  go_ret
  exact ⟨_, rfl, O1.out, (by repeat (first | exact Below.refl _ _ | assumption | refine Below.drew ?_ | refine below_drewN ?_ _ | refine Below.alloc ?_ (by first | omega | (simp <;> omega)) _ | refine Below.setCell ?_ (by first | omega | (simp <;> omega)) _ | refine Below.trans ?_ (Below.mono (by assumption) (by first | omega | (simp <;> omega)))))⟩
end Go.Proofs.Ytdkfoleippncnaa
namespace Go.Proofs.Ytdkfoleippncnaa
set_option linter.unusedSimpArgs false
set_option linter.unusedVariables false
set_option linter.unnecessarySimpa false
set_option maxRecDepth 200000
open Go.ChangeShapes Go.WideShapes Go.ChangeAt Go.RowKit

/-- Two lists of gates that grow, and a term's coefficient. -/
structure NSt (B bT : Nat) (m c : Int) (W0 w : World) (vO vN : Value) (O N : List E3) : Prop where
  out : w.ownsRow B 104 3 vO O.length (O.flatMap E3.cs)
  nots : w.ownsRow B 104 3 vN N.length (N.flatMap E3.cs)
  ap : ∀ g, vO.ownBlock = some g → vN.ownBlock ≠ some g
  oT : vO.ownBlock ≠ some bT
  nT : vN.ownBlock ≠ some bT
  c0 : w.cell? ⟨bT, 0, none⟩ = some (.int .i64 m)
  c1 : w.cell? ⟨bT, 1, none⟩ = some (.int .i64 c)
  BT : B ≤ bT
  bel : Below B W0 w
section
variable {B bT : Nat} {m c : Int} {W0 w w' : World} {vO vN v' : Value} {O N : List E3}
theorem NSt.lt (h : NSt B bT m c W0 w vO vN O N) : bT < w.heap.size ∧ B ≤ w.heap.size := by
  have h1 := World.block_lt_of_cell? _ _ h.c0
  have h2 := h.BT
  dsimp only at h1
  exact ⟨h1, by omega⟩
theorem NSt.call (h : NSt B bT m c W0 w vO vN O N) (hb : Below w.heap.size w w') : NSt B bT m c W0 w' vO vN O N :=
  ⟨own_below h.out hb rfl, own_below h.nots hb rfl, h.ap, h.oT, h.nT, below_cell hb rfl h.c0, below_cell hb rfl h.c1, h.BT, Below.trans h.bel (hb.mono h.lt.2)⟩
theorem NSt.appO {k : Nat} {rot : List E3} (h : NSt B bT m c W0 w vO vN O N) (hm : rot.length = k) (hown : w'.ownsRow B 104 3 v' (O.length + k) (O.flatMap E3.cs ++ rot.flatMap E3.cs))
    (hg : w.grownBy w' vO.ownBlock) (hat : v'.ownBlock = vO.ownBlock ∨ v'.ownBlock = some w.heap.size) : NSt B bT m c W0 w' v' vN (O ++ rot) N := by
  have hl := h.lt
  have hN := World.ownsRow.lt h.nots
  refine ⟨?_, own_other hg h.nots (fun g h1 h2 => h.ap g h2 h1), fun g e e2 => ?_, ap_app hat hl.1 h.oT, h.nT, cell_grown hg h.c0 h.oT, cell_grown hg h.c1 h.oT, h.BT, h.bel.grown hg hl.2 (fun k hk => (World.ownsRow.lt h.out k hk).1)⟩
  · rw [List.length_append, List.flatMap_append, hm]; exact hown
  · exact ap_app hat (hN g e2).2 (fun e3 => h.ap g e3 e2) e
theorem NSt.appN {k : Nat} {rot : List E3} (h : NSt B bT m c W0 w vO vN O N) (hm : rot.length = k) (hown : w'.ownsRow B 104 3 v' (N.length + k) (N.flatMap E3.cs ++ rot.flatMap E3.cs))
    (hg : w.grownBy w' vN.ownBlock) (hat : v'.ownBlock = vN.ownBlock ∨ v'.ownBlock = some w.heap.size) : NSt B bT m c W0 w' vO v' O (N ++ rot) := by
  have hl := h.lt
  have hO := World.ownsRow.lt h.out
  refine ⟨own_other hg h.out (fun g h1 h2 => h.ap g h1 h2), ?_, fun g e e2 => ?_, h.oT, ap_app hat hl.1 h.nT, cell_grown hg h.c0 h.nT, cell_grown hg h.c1 h.nT, h.BT, h.bel.grown hg hl.2 (fun k hk => (World.ownsRow.lt h.nots k hk).1)⟩
  · rw [List.length_append, List.flatMap_append, hm]; exact hown
  · exact ap_app hat (hO g e).2 (fun e3 => h.ap g e e3) e2
theorem NSt.rev (h : NSt B bT m c W0 w vO vN O N) (hown : w'.ownsRow B 104 3 vN N.length (N.reverse.flatMap E3.cs)) (hg : w.grownBy w' vN.ownBlock) : NSt B bT m c W0 w' vO vN O N.reverse :=
  ⟨own_other hg h.out (fun g h1 h2 => h.ap g h1 h2), by rw [List.length_reverse]; exact hown, h.ap, h.oT, h.nT, cell_grown hg h.c0 h.nT, cell_grown hg h.c1 h.nT, h.BT, h.bel.grown hg h.lt.2 (fun k hk => (World.ownsRow.lt h.nots k hk).1)⟩
end
theorem slices_Reverse_any (base : Nat) (v : Value) (N : List E3) (w : World) (h : w.ownsRow base 104 3 v N.length (N.flatMap E3.cs)) (hn : N.length ≤ 1000) :
    Calls Try.prog 65 #[v] w fun e w' => e = .returned (.tuple #[]) ∧ w'.ownsRow base 104 3 v N.length (N.reverse.flatMap E3.cs) ∧ w.grownBy w' v.ownBlock := by
  rcases Nat.eq_zero_or_pos N.length with h0 | h0
  · have e : N = [] := List.eq_nil_of_length_eq_zero h0
    subst e
    obtain ⟨a, cap, rfl⟩ := own_form h
    refine (slices_Reverse_nil _ ⟨a, cap, rfl⟩ w).mono ?_
    rintro e w' ⟨rfl, rfl⟩
    exact ⟨rfl, h, ⟨rfl, rfl, rfl, Nat.le_refl _, fun _ _ _ => rfl⟩⟩
  · obtain ⟨g, cap, rfl⟩ := Go.Joins.ownsRow_form h h0
    refine (slices_Reverse_Gate base g N.length cap N w h h0 (by omega)).mono ?_
    rintro e w' ⟨rfl, h2, hg⟩
    exact ⟨rfl, h2, hg⟩
theorem bitLen_top : ∀ M : Nat, M < 32 → 1 ≤ M → Lib.bitLen M = topN M + 1 := by decide +kernel
theorem not_both {a b : Nat} (h1 : a ≤ b) (h2 : b < a) : False := by omega
theorem own_len {w : World} {base sz n m : Nat} {t : TypeId} {v : Value} {xs : List Value} (h : w.ownsRow base t sz v n xs) (e : n = m) : w.ownsRow base t sz v m xs := by rw [← e]; exact h
theorem notG_4 {M : Nat} (h1 : 1 ≤ M) (h : M < 32) : (notG M).length ≤ 4 := Nat.le_trans (notTo_len M (topN M)) (top_le h1 h)
set_option maxHeartbeats 32000000 in
theorem impl_PhaseCircuit_ok (v u : Value) (p : PP) (w : World) (h : RdE w v E2.cs 2 p.ts) (k : RdI w u p.out) (hok : PPOk p) :
    Calls Try.prog 24 #[.agg #[.int .i64 p.n, .int .i64 p.ph, v, u]] w (CircPost w (pcG p)) := by
  obtain ⟨i0, hi, hz0, hz1, hz2⟩ := info_parts info_Gate
  have hall := pcAll_len hok
  have HG := Lib.hid (show pcG p = circIf p.n (pcAll p) from by rw [pcG_some (ppB_true hok)]; unfold circIf; rw [pc_ok hok]; rfl)
  have HB := Lib.hid (ppB_true hok)
  obtain ⟨hn, hph, hlo, ho, ht⟩ := hok
  have hfew := terms_few hn ht
  have HP := Lib.hid (fun k hk => pcTo_len hn ht k hk)
  have HBD := Lib.hid (fun k (hk : k < p.ts.length) => term_bd hn ht hk)
  have HH := Lib.hid h
  obtain ⟨A, c, rfl, Kc⟩ : ∃ A c, v = .slice A p.ts.length c ∧ Hid (∀ k, k < p.ts.length → ∃ b off, A = some ⟨b, off, none⟩ ∧ b < w.heap.size ∧ w.cell? ⟨b, off + k * 2, none⟩ = some (.int .i64 (p.ts.getD k ⟨0, 0⟩).a) ∧ w.cell? ⟨b, off + k * 2 + 1, none⟩ = some (.int .i64 (p.ts.getD k ⟨0, 0⟩).b)) := by
    rcases h.cases0 E2.len with ⟨he, A, c, rfl⟩ | ⟨_, b, off, cap, rfl, hb, hl, hm, hc⟩
    · rw [he]; exact ⟨A, c, rfl, show ∀ _, _ from fun k hk => by simp at hk⟩
    · refine ⟨_, cap, rfl, show ∀ _, _ from fun k hk => ⟨b, off, rfl, hb, ?_⟩⟩
      have e : p.ts.getD k ⟨0, 0⟩ = p.ts[k] := by simp [List.getD, hk]
      rw [e]
      exact ⟨hc k hk 0 _ (by omega) rfl, hc k hk 1 _ (by omega) rfl⟩
  have KT := Lib.hid k
  obtain ⟨A2, c2, rfl, _⟩ := k.form
  have HNat := Lib.hid ho.nat
  have n1 := ho.small.1
  clear h k ht ho
  go_enter Try.func24, Try.ntmps24
  go_wp2_with fail
  refine (impl_IsValidPhasePoly_any _ _ p _ (Rd.below HH.out (show Below w.heap.size w _ from (by repeat (first | exact Below.refl _ _ | assumption | refine Below.drew ?_ | refine below_drewN ?_ _ | refine Below.alloc ?_ (by first | omega | (simp <;> omega)) _ | refine Below.setCell ?_ (by first | omega | (simp <;> omega)) _ | refine Below.trans ?_ (Below.mono (by assumption) (by first | omega | (simp <;> omega)))))) rfl) (Rd.below KT.out (show Below w.heap.size w _ from (by repeat (first | exact Below.refl _ _ | assumption | refine Below.drew ?_ | refine below_drewN ?_ _ | refine Below.alloc ?_ (by first | omega | (simp <;> omega)) _ | refine Below.setCell ?_ (by first | omega | (simp <;> omega)) _ | refine Below.trans ?_ (Below.mono (by assumption) (by first | omega | (simp <;> omega)))))) rfl) (by omega) (by omega)).mono ?_; rintro e w1 ⟨rfl, hb1⟩; rw [HB.out]
  have t0 := below_cell hb1 rfl (show ((w.alloc (.cells #[.int .i64 p.n, .int .i64 p.ph, .slice A p.ts.length c, .slice A2 p.out.length c2] 53)).alloc (.cells #[.int .i64 0, .slice none 0 0] 30)).cell? ⟨w.heap.size, 0, none⟩ = some (.int .i64 p.n) from (by repeat (first | (refine Eq.trans (World.cell?_alloc_at _ _ _ _ ?hh) ?_; (case hh => (simp; done)); rfl) | refine cell_alloc_keep _ ?_)))
  have t1 := below_cell hb1 rfl (show ((w.alloc (.cells #[.int .i64 p.n, .int .i64 p.ph, .slice A p.ts.length c, .slice A2 p.out.length c2] 53)).alloc (.cells #[.int .i64 0, .slice none 0 0] 30)).cell? ⟨w.heap.size, 1, none⟩ = some (.int .i64 p.ph) from (by repeat (first | (refine Eq.trans (World.cell?_alloc_at _ _ _ _ ?hh) ?_; (case hh => (simp; done)); rfl) | refine cell_alloc_keep _ ?_)))
  have t2 := below_cell hb1 rfl (show ((w.alloc (.cells #[.int .i64 p.n, .int .i64 p.ph, .slice A p.ts.length c, .slice A2 p.out.length c2] 53)).alloc (.cells #[.int .i64 0, .slice none 0 0] 30)).cell? ⟨w.heap.size, 2, none⟩ = some (.slice A p.ts.length c) from (by repeat (first | (refine Eq.trans (World.cell?_alloc_at _ _ _ _ ?hh) ?_; (case hh => (simp; done)); rfl) | refine cell_alloc_keep _ ?_)))
  have t3 := below_cell hb1 rfl (show ((w.alloc (.cells #[.int .i64 p.n, .int .i64 p.ph, .slice A p.ts.length c, .slice A2 p.out.length c2] 53)).alloc (.cells #[.int .i64 0, .slice none 0 0] 30)).cell? ⟨w.heap.size, 3, none⟩ = some (.slice A2 p.out.length c2) from (by repeat (first | (refine Eq.trans (World.cell?_alloc_at _ _ _ _ ?hh) ?_; (case hh => (simp; done)); rfl) | refine cell_alloc_keep _ ?_)))
  have r0 := below_cell hb1 rfl (show ((w.alloc (.cells #[.int .i64 p.n, .int .i64 p.ph, .slice A p.ts.length c, .slice A2 p.out.length c2] 53)).alloc (.cells #[.int .i64 0, .slice none 0 0] 30)).cell? ⟨w.heap.size + 1, 0, none⟩ = some (.int .i64 0) from (by repeat (first | (refine Eq.trans (World.cell?_alloc_at _ _ _ _ ?hh) ?_; (case hh => (simp; done)); rfl) | refine cell_alloc_keep _ ?_)))
  have r1 := below_cell hb1 rfl (show ((w.alloc (.cells #[.int .i64 p.n, .int .i64 p.ph, .slice A p.ts.length c, .slice A2 p.out.length c2] 53)).alloc (.cells #[.int .i64 0, .slice none 0 0] 30)).cell? ⟨w.heap.size + 1, 1, none⟩ = some (.slice none 0 0) from (by repeat (first | (refine Eq.trans (World.cell?_alloc_at _ _ _ _ ?hh) ?_; (case hh => (simp; done)); rfl) | refine cell_alloc_keep _ ?_)))
  have f0 := below_frz hb1 rfl (by simp) (show ((w.alloc (.cells #[.int .i64 p.n, .int .i64 p.ph, .slice A p.ts.length c, .slice A2 p.out.length c2] 53)).alloc (.cells #[.int .i64 0, .slice none 0 0] 30)).frozen? ⟨w.heap.size + 1, 0, none⟩ = false from (by repeat (first | (refine World.frozen?_alloc_at _ _ _ _ ?hh; case hh => (simp; done)) | (refine frozen_alloc_lt _ ?hh ?_; case hh => first | omega | (simp <;> omega)))))
  have f1 := below_frz hb1 rfl (by simp) (show ((w.alloc (.cells #[.int .i64 p.n, .int .i64 p.ph, .slice A p.ts.length c, .slice A2 p.out.length c2] 53)).alloc (.cells #[.int .i64 0, .slice none 0 0] 30)).frozen? ⟨w.heap.size + 1, 1, none⟩ = false from (by repeat (first | (refine World.frozen?_alloc_at _ _ _ _ ?hh; case hh => (simp; done)) | (refine frozen_alloc_lt _ ?hh ?_; case hh => first | omega | (simp <;> omega)))))
  have z1 := hb1.size; (simp at z1)
  have bw1 := Lib.hid (show Below w.heap.size w w1 from (by repeat (first | exact Below.refl _ _ | assumption | refine Below.drew ?_ | refine below_drewN ?_ _ | refine Below.alloc ?_ (by first | omega | (simp <;> omega)) _ | refine Below.setCell ?_ (by first | omega | (simp <;> omega)) _ | refine Below.trans ?_ (Below.mono (by assumption) (by first | omega | (simp <;> omega)))))); clear hb1
  have T0 := Lib.hid t0; have T1 := Lib.hid t1; have T3 := Lib.hid t3; have RR0 := Lib.hid r0; have RR1 := Lib.hid r1; have FF0 := Lib.hid f0; have FF1 := Lib.hid f1
  have t2' := cell_alloc_keep (.cells #[] 104) t2
  clear t0 t1 t3 r0 r1 f0 f1 t2
  have O0 : Hid ((w1.alloc (.cells #[] 104)).ownsRow w1.heap.size 104 3 (.slice (some ⟨w1.heap.size, 0, none⟩) 0 0) (pcTo p.ts 0).length ((pcTo p.ts 0).flatMap E3.cs)) := (show World.ownsRow _ _ _ _ _ _ _ from own_lit0 (f := E3.cs) (sz := 3) w1 w1.heap.size 104 w1.heap.size rfl (Nat.le_refl _))
  have B0 : Hid (Below w1.heap.size w1 (w1.alloc (.cells #[] 104))) := (show Below _ _ _ from (by repeat (first | exact Below.refl _ _ | assumption | refine Below.drew ?_ | refine below_drewN ?_ _ | refine Below.alloc ?_ (by first | omega | (simp <;> omega)) _ | refine Below.setCell ?_ (by first | omega | (simp <;> omega)) _ | refine Below.trans ?_ (Below.mono (by assumption) (by first | omega | (simp <;> omega))))))
  go_wp2_with fail
  clear t2'
  go_loopw [4, 18] (fun so i wr => ∃ (k : Nat) (vO : Value), vO = so ∧ k ≤ p.ts.length ∧ i = .int .i64 k ∧ Hid (wr.ownsRow w1.heap.size 104 3 vO (pcTo p.ts k).length ((pcTo p.ts k).flatMap E3.cs)) ∧ Hid (Below w1.heap.size w1 wr) ∧ w1.heap.size ≤ wr.heap.size) (fun _ i _ => p.ts.length - (intOf i).toNat)
  case atStart => exact ⟨0, _, rfl, Nat.zero_le _, rfl, O0, B0, by simp⟩
  case round =>
    clear O0 B0
    obtain ⟨k, vO, rfl, hk, rfl, hO, hB, hsz⟩ := hrel
    by_cases hlt : k < p.ts.length
    · obtain ⟨b0, off, rfl, hb0, u0, u1⟩ := Kc.out k hlt
      have hbd := HBD.out k hlt
      have hpl := HP.out k hk
      have hnx := pcTo_succ hlt
      obtain ⟨y, hy⟩ : ∃ y, y = p.ts.getD k ⟨0, 0⟩ := ⟨_, rfl⟩
      rw [← hy] at u0 u1 hbd hnx
      clear hy
      obtain ⟨ya, yc⟩ := y
      dsimp only at u0 u1 hbd
      obtain ⟨M, rfl⟩ := Int.eq_ofNat_of_zero_le (show 0 ≤ ya by omega)
      have hbw := Below.trans bw1.out (hB.out.mono (show w.heap.size ≤ w1.heap.size by omega))
      replace u0 := (hbw.cell hb0).trans u0; replace u1 := (hbw.cell hb0).trans u1
      obtain ⟨P, hP⟩ : ∃ P, P = pcTo p.ts k := ⟨_, rfl⟩
      rw [← hP] at hO hpl hnx
      have HNX := Lib.hid hnx
      clear hP hbw hnx
      have hM1 : 1 ≤ M := by omega
      have hM2 : M < 32 := by omega
      have htop := top_le hM1 hM2
      have hng := notG_4 hM1 hM2
      have HBL := Lib.hid (bitLen_top M hM2 hM1)
      obtain ⟨tp, htp⟩ : ∃ tp, tp = topN M := ⟨_, rfl⟩
      rw [← htp] at htop HBL
      have HTP := Lib.hid htp
      clear htp
      have i1 : (k : Int) < (p.ts.length : Int) := by omega
      obtain ⟨bT, hbT⟩ : ∃ bT, bT = wr.heap.size := ⟨_, rfl⟩
      have e0 : (wr.alloc (.cells #[.int .i64 (M : Int), .int .i64 yc] 90)).cell? ⟨wr.heap.size, 0, none⟩ = some (.int .i64 (M : Int)) := (by repeat (first | (refine Eq.trans (World.cell?_alloc_at _ _ _ _ ?hh) ?_; (case hh => (simp; done)); rfl) | refine cell_alloc_keep _ ?_))
      have SN : Hid (NSt w1.heap.size bT (M : Int) yc w1 ((wr.alloc (.cells #[.int .i64 (M : Int), .int .i64 yc] 90)).alloc (.cells #[] 104)) vO (.slice (some ⟨wr.heap.size + 1, 0, none⟩) 0 0) P (notTo M 0)) := by
        have b1 : Below wr.heap.size wr ((wr.alloc (.cells #[.int .i64 (M : Int), .int .i64 yc] 90)).alloc (.cells #[] 104)) := (by repeat (first | exact Below.refl _ _ | assumption | refine Below.drew ?_ | refine below_drewN ?_ _ | refine Below.alloc ?_ (by first | omega | (simp <;> omega)) _ | refine Below.setCell ?_ (by first | omega | (simp <;> omega)) _ | refine Below.trans ?_ (Below.mono (by assumption) (by first | omega | (simp <;> omega)))))
        have eN : ∀ g, (Value.slice (some ⟨wr.heap.size + 1, 0, none⟩) 0 0).ownBlock = some g → g = wr.heap.size + 1 := fun g e => by
          have h8 : wr.heap.size + 1 = g := by simpa [Value.ownBlock] using e
          exact h8.symm
        have lO := World.ownsRow.lt hO.out
        refine (show NSt _ _ _ _ _ _ _ _ _ _ from ⟨own_below hO.out b1 rfl, own_lit0 (f := E3.cs) (sz := 3) _ w1.heap.size 104 (wr.heap.size + 1) (by simp) (by omega), fun g e e2 => by have h1 := (lO g e).2; have h2 := eN g e2; omega, fun e => by have h1 := (lO _ e).2; omega, fun e => by have h2 := eN _ e; omega, by rw [hbT]; exact (by repeat (first | (refine Eq.trans (World.cell?_alloc_at _ _ _ _ ?hh) ?_; (case hh => (simp; done)); rfl) | refine cell_alloc_keep _ ?_)), by rw [hbT]; exact (by repeat (first | (refine Eq.trans (World.cell?_alloc_at _ _ _ _ ?hh) ?_; (case hh => (simp; done)); rfl) | refine cell_alloc_keep _ ?_)), by omega, Below.trans hB.out (b1.mono hsz)⟩)
      clear hO hB
      go_wp2_with fail
      refine (show Calls Try.prog 63 #[.int .u64 (M : Int)] _ _ from Try.bits_Len (M : Int) _ (by omega) (by omega)).mono ?_; rintro e w' ⟨rfl, hww⟩
      subst hww
      rw [Int.toNat_natCast, HBL.out]
      rw [← hbT]
      clear hbT e0 u0 u1 hb0
      have s1 : ((tp + 1 : Nat) : Int) - 1 = (tp : Int) := by omega
      go_wp2_with fail
      go_loopw [8, 29] (fun sn i wr => ∃ (q : Nat) (vN : Value), vN = sn ∧ q ≤ tp ∧ i = .int .i64 q ∧ Hid (NSt w1.heap.size bT (M : Int) yc w1 wr vO vN P (notTo M q))) (fun _ i _ => tp - (intOf i).toNat)
      case atStart => exact ⟨0, _, rfl, Nat.zero_le _, rfl, SN⟩
      case round =>
        clear SN
        obtain ⟨q, vN, rfl, hq, rfl, HS⟩ := hrel
        by_cases hqt : q < tp
        · have j1 : (q : Int) < (tp : Int) := by omega
          have j0 : (0 : Int) ≤ (q : Int) := by omega
          have e0 := HS.out.c0
          have hs := notTo_succ M q
          have hnl := notTo_len M q
          have tb := bit_test M q (by omega)
          rw [← HTP.out] at hs
          cases hb : M.testBit q with
          | false =>
            rw [hb] at tb hs
            have HN := Lib.hid (show notTo M (q + 1) = notTo M q from by rw [hs]; rfl)
            clear hs hb
            go_wp2_with fail
            go_roundw
            case rel => exact ⟨q + 1, vN, rfl, by omega, by go_num, (show NSt _ _ _ _ _ _ _ _ _ _ from by rw [HN.out]; exact HS.out)⟩
            case measure => simp [intOf]; omega
          | true =>
            rw [hb] at tb hs
            have HN := Lib.hid (show notTo M (q + 1) = notTo M q ++ [⟨9, (q : Int), (tp : Int)⟩] from by rw [hs]; rfl)
            clear hs hb
            have SX := Lib.hid (HS.out.call (show Below wr.heap.size wr (wr.alloc (.cells #[.int .i64 9, .int .i64 (q : Int), .int .i64 (tp : Int)] 104)) from (by repeat (first | exact Below.refl _ _ | assumption | refine Below.drew ?_ | refine below_drewN ?_ _ | refine Below.alloc ?_ (by first | omega | (simp <;> omega)) _ | refine Below.setCell ?_ (by first | omega | (simp <;> omega)) _ | refine Below.trans ?_ (Below.mono (by assumption) (by first | omega | (simp <;> omega)))))))
            obtain ⟨N, hN⟩ : ∃ N, N = notTo M q := ⟨_, rfl⟩
            rw [← hN] at SX HN hnl
            clear hN HS
            go_wp2_with (at_builtin; go_must (refine wpList_append_any _ rfl _ _ 28 rfl w1.heap.size 104 i0 (.agg #[.int .i64 0, .int .i64 0, .int .i64 0]) 3 24 Try.underlying28 hi hz0 hz1 hz2 rfl (by decide) _ N.length _ rfl SX.out.nots (wr.heap.size + 1) _ 1 1 (E3.cs ⟨9, (q : Int), (tp : Int)⟩) rfl (by have := reads_news wr (E3.cs ⟨9, (q : Int), (tp : Int)⟩) 104 3 1 rfl; simpa [E3.cs] using this) (E3.one _) (by unfold maxLen; omega) (by omega) SX.out.lt.2 ?_; intro v3 w4 hown3 hg3 hat3; have S4 := Lib.hid (NSt.appN (rot := [⟨9, (q : Int), (tp : Int)⟩]) SX.out rfl (by simpa using hown3) hg3 hat3); clear hown3 hg3 hat3))
            go_roundw
            case rel => exact ⟨q + 1, v3, rfl, by omega, by go_num, (show NSt _ _ _ _ _ _ _ _ _ _ from by rw [HN.out]; exact S4.out)⟩
            case measure => simp [intOf]; omega
        · have eq9 : tp = q := by omega
          have HNG := Lib.hid (show notTo M q = notG M from by unfold notG; rw [← HTP.out, eq9])
          rw [HNG.out] at HS
          have j1 : ¬ (q : Int) < (tp : Int) := by omega
          have hrl := rotF_len (tp : Int) yc
          obtain ⟨aN, cN, rfl⟩ := own_form HS.out.nots
          obtain ⟨aP, cP, rfl⟩ := own_form HS.out.out
          replace HS := Lib.hid (HS.out.call (show Below wr.heap.size wr wr.drew from (by repeat (first | exact Below.refl _ _ | assumption | refine Below.drew ?_ | refine below_drewN ?_ _ | refine Below.alloc ?_ (by first | omega | (simp <;> omega)) _ | refine Below.setCell ?_ (by first | omega | (simp <;> omega)) _ | refine Below.trans ?_ (Below.mono (by assumption) (by first | omega | (simp <;> omega)))))))
          have e1 := HS.out.c1
          clear eq9
          go_wp2_with fail
          refine AnyB.begin (S := (fun w' => w'.cell? ⟨bT, 1, none⟩ = some (.int .i64 yc))) [] (by kernel_rfl) ?_ (fun hHeld0 => ?_)
          · ((try dsimp only); (first | exact e1))
          refine AnyB.takeQ (i := 0) (oi := _) (v := ?_) (by simp only [List.getElem?_toArray, List.getElem?_cons_zero, List.getElem?_cons_succ]; rfl) (by kernel_rfl) (by kernel_rfl) (by kernel_rfl) (by intro _ _ _ h; exact h) (Or.inl ⟨by rfl, ?_⟩) ?_
          rotate_left
          · (intro w hSw; (try dsimp only at hSw); go_simp; (try (with_reducible rfl)))
          try simp only [Act.put, List.setIfInBounds_toArray, List.set_cons_zero, List.set_cons_succ]
          refine AnyB.takeQ (i := 1) (oi := _) (v := ?_) (by simp only [List.getElem?_toArray, List.getElem?_cons_zero, List.getElem?_cons_succ]; rfl) (by kernel_rfl) (by kernel_rfl) (by kernel_rfl) (by intro _ _ _ h; exact h) (Or.inl ⟨by rfl, ?_⟩) ?_
          rotate_left
          · (intro w hSw; (try dsimp only at hSw); go_simp; (try (with_reducible rfl)))
          try simp only [Act.put, List.setIfInBounds_toArray, List.set_cons_zero, List.set_cons_succ]
          refine AnyB.takeQ (i := 3) (oi := _) (v := ?_) (by simp only [List.getElem?_toArray, List.getElem?_cons_zero, List.getElem?_cons_succ]; rfl) (by kernel_rfl) (by kernel_rfl) (by kernel_rfl) (by intro _ _ _ h; exact h) (Or.inl ⟨by rfl, ?_⟩) ?_
          rotate_left
          · (intro w hSw; (try dsimp only at hSw); go_simp; (try (with_reducible rfl)))
          try simp only [Act.put, List.setIfInBounds_toArray, List.set_cons_zero, List.set_cons_succ]
          refine AnyB.takeQ (i := 4) (oi := _) (v := ?_) (by simp only [List.getElem?_toArray, List.getElem?_cons_zero, List.getElem?_cons_succ]; rfl) (by kernel_rfl) (by kernel_rfl) (by kernel_rfl) (by intro _ _ _ h; exact h) (Or.inl ⟨by rfl, ?_⟩) ?_
          rotate_left
          · (intro w hSw; (try dsimp only at hSw); go_simp; (try (with_reducible rfl)))
          try simp only [Act.put, List.setIfInBounds_toArray, List.set_cons_zero, List.set_cons_succ]
          refine AnyB.take (i := 5) (oi := _) (v := ?_) (by simp only [List.getElem?_toArray, List.getElem?_cons_zero, List.getElem?_cons_succ]; rfl) (by kernel_rfl) (by kernel_rfl) (by kernel_rfl) (by kernel_rfl) (by kernel_rfl) (by intro _ _ _ h; exact h) (Or.inl ⟨by rfl, ?_⟩) (by assumption) ?_
          rotate_left
          · (intro w hSw; (try dsimp only at hSw); go_simp; (try (with_reducible rfl)))
          try simp only [Act.put, List.setIfInBounds_toArray, List.set_cons_zero, List.set_cons_succ]
          refine AnyB.each (rs := [2]) (by kernel_rfl) (by simp) ?_
          refine EachB.cons rfl (fun K hK hB => ?_) ?_
          · skip
            (refine step_append_any _ (by rfl) (.tmp 45) (.tmp 46) 28 (by rfl) w1.heap.size 104 i0 (.agg #[.int .i64 0, .int .i64 0, .int .i64 0]) 3 24 Try.underlying28 hi hz0 hz1 hz2 rfl (by omega) _ P.length _ (by rfl) HS.out.out _ aN (notG M).length cN _ (by rfl) (Reads.of_rd (Rd.of_own HS.out.nots)) (flat_one E3.one _) (by unfold maxLen; omega) (by omega) HS.out.lt.2 ?_; intro v2 w2 hown2 hg2 hat2; obtain ⟨a2', c2', rfl⟩ := own_form hown2; (try replace ROT := Lib.hid (own_other hg2 ROT.out (fun g h1 h2 => RNE.out g h1 h2))); (try replace RNE := Lib.hid (fun g (h1 : (Value.slice a3 (rotF (tp : Int) yc).length c3).ownBlock = some g) (h2 : (Value.slice a2' (P.length + (notG M).length) c2').ownBlock = some g) => ap_app hat2 (World.ownsRow.lt ROTL.out g h1).2 (fun e => RNE.out g h1 e) h2)); replace HS := Lib.hid (NSt.appO HS.out rfl hown2 hg2 hat2); replace e1 := HS.out.c1; clear hown2 hg2 hat2)
            refine hK.out _ _ ?_ (fun hHeld1 => ?_)
            · ((try dsimp only); (first | exact e1))
            clear hB hK K hHeld0
            refine AnyB.each (rs := [6]) (by kernel_rfl) (by simp) ?_
            refine EachB.cons rfl (fun K hK hB => ?_) ?_
            · skip
              (go_simp; go_at_call 64; refine (impl_rotation_any (tp : Int) yc _ hbd.2.2.1 hbd.2.2.2).mono ?_; rintro e w3 ⟨v3, rfl, ho3, hb3⟩; obtain ⟨a3, c3, rfl⟩ := ho3.forms; have RNE := Lib.hid (fun g (h1 : (Value.slice a3 (rotF (tp : Int) yc).length c3).ownBlock = some g) h2 => not_both (ho3.lt g h1).1 (World.ownsRow.lt HS.out.out g h2).2); have ROT := Lib.hid ho3; have ROTL := Lib.hid ho3; replace HS := Lib.hid (HS.out.call hb3); replace e1 := HS.out.c1; clear ho3 hb3; dsimp only)
              refine hK.out _ _ ?_ (fun hHeld2 => ?_)
              · ((try dsimp only); (first | exact e1))
              clear hB hK K hHeld1
              refine AnyB.each (rs := [7]) (by kernel_rfl) (by simp) ?_
              refine EachB.cons rfl (fun K hK hB => ?_) ?_
              · skip
                (refine step_append_any _ (by rfl) (.tmp 47) (.tmp 51) 28 (by rfl) w1.heap.size 104 i0 (.agg #[.int .i64 0, .int .i64 0, .int .i64 0]) 3 24 Try.underlying28 hi hz0 hz1 hz2 rfl (by omega) _ (P.length + (notG M).length) _ (by rfl) (own_len HS.out.out (by rw [List.length_append])) _ a3 (rotF (tp : Int) yc).length c3 _ (by rfl) (Reads.of_rd (OwnE.rd ROT.out)) (flat_one E3.one _) (by unfold maxLen; omega) (by omega) HS.out.lt.2 ?_; intro v4 w4 hown4 hg4 hat4; obtain ⟨a4, c4, rfl⟩ := own_form hown4; replace HS := Lib.hid (NSt.appO (rot := rotF (tp : Int) yc) HS.out rfl (by rw [List.length_append]; exact hown4) hg4 hat4); replace e1 := HS.out.c1; clear hown4 hg4 hat4 ROT RNE ROTL)
                refine hK.out _ _ ?_ (fun hHeld3 => ?_)
                · ((try dsimp only); (first | exact e1))
                clear hB hK K hHeld2
                refine AnyB.takeQ (i := 8) (oi := _) (v := ?_) (by simp only [List.getElem?_toArray, List.getElem?_cons_zero, List.getElem?_cons_succ]; rfl) (by kernel_rfl) (by kernel_rfl) (by kernel_rfl) (by intro _ _ _ h; exact h) (Or.inl ⟨by rfl, ?_⟩) ?_
                rotate_left
                · (intro w hSw; (try dsimp only at hSw); go_simp; (try (with_reducible rfl)))
                try simp only [Act.put, List.setIfInBounds_toArray, List.set_cons_zero, List.set_cons_succ]
                refine AnyB.none (by kernel_rfl) ?_ _
                clear e1
                have e9 : (P ++ notG M ++ rotF (tp : Int) yc).length = P.length + (notG M).length + (rotF (tp : Int) yc).length := by rw [List.length_append, List.length_append]
                have E9 := Lib.hid e9; clear e9
                go_wp2_with (first | (go_at_call 65; refine (slices_Reverse_any _ _ _ _ HS.out.nots (by omega)).mono ?_; rintro e w7 ⟨rfl, ho7, hg7⟩; replace HS := Lib.hid (HS.out.rev ho7 hg7); clear ho7 hg7) | (at_builtin; go_must (refine wpList_append_any _ rfl _ _ 28 rfl w1.heap.size 104 i0 (.agg #[.int .i64 0, .int .i64 0, .int .i64 0]) 3 24 Try.underlying28 hi hz0 hz1 hz2 rfl (by decide) _ (P.length + (notG M).length + (rotF (tp : Int) yc).length) _ rfl (own_len HS.out.out E9.out) _ _ (notG M).length cN _ rfl (Reads.of_rd (Rd.of_own (own_len HS.out.nots List.length_reverse))) (flat_one E3.one _) (by unfold maxLen; omega) (by omega) HS.out.lt.2 ?_; intro v8 w8 hown8 hg8 hat8; have S8 := Lib.hid (NSt.appO (rot := (notG M).reverse) HS.out List.length_reverse (by rw [E9.out]; exact hown8) hg8 hat8); clear hown8 hg8 hat8 HS)))
                have HE := Lib.hid (show P ++ notG M ++ rotF (tp : Int) yc ++ (notG M).reverse = pcTo p.ts (k + 1) from by rw [HNX.out]; unfold termG; rw [Int.toNat_natCast, ← HTP.out]; simp [List.append_assoc])
                go_roundw
                case rel => exact ⟨k + 1, v8, rfl, by omega, by go_num, (show World.ownsRow _ _ _ _ _ _ _ from by rw [← HE.out]; exact S8.out.out), S8.out.bel, S8.out.lt.2⟩
                case measure => simp [intOf]; omega
              exact EachB.nil
            exact EachB.nil
          exact EachB.nil
    · have ek : p.ts.length = k := by omega
      subst ek
      have i1 : ¬ (p.ts.length : Int) < (p.ts.length : Int) := by omega
      obtain ⟨P, hP⟩ : ∃ P, P = pcTo p.ts p.ts.length := ⟨_, rfl⟩
      have hPl := HP.out p.ts.length (Nat.le_refl _)
      rw [← hP] at hO hPl
      have HPP := Lib.hid hP
      clear hP
      obtain ⟨Lr, hLr⟩ : ∃ Lr, Lr = p.out.map Int.toNat := ⟨_, rfl⟩
      have hN := HNat.out
      rw [← hLr] at hN
      have HLr := Lib.hid hLr
      have HOUT := Lib.hid hN.1
      have HSM := Lib.hid hN.2
      have hlr : Lr.length = p.out.length := by rw [hLr, List.length_map]
      clear hN hLr
      have hred := red_few HSM.out (by omega)
      have KR := Lib.hid (show RdI w (.slice A2 p.out.length c2) (ints Lr) from by rw [← HOUT.out]; exact KT.out)
      obtain ⟨N, hN⟩ : ∃ N : Nat, p.ph = (N : Int) := ⟨p.ph.toNat, by omega⟩
      have HN := Lib.hid hN
      have hN7 : N ≤ 7 := by omega
      obtain ⟨aO, cO, rfl⟩ := own_form hO.out
      have bd := Lib.hid (show Below w1.heap.size w1 wr.drew from Below.drew hB.out)
      have HO := Lib.hid (own_below hO.out (show Below wr.heap.size wr wr.drew from (by repeat (first | exact Below.refl _ _ | assumption | refine Below.drew ?_ | refine below_drewN ?_ _ | refine Below.alloc ?_ (by first | omega | (simp <;> omega)) _ | refine Below.setCell ?_ (by first | omega | (simp <;> omega)) _ | refine Below.trans ?_ (Below.mono (by assumption) (by first | omega | (simp <;> omega)))))) rfl)
      have bq : w1.heap.size ≤ wr.drew.heap.size := hsz
      have t3 := below_cell bd.out rfl T3.out
      have t1 : wr.drew.cell? ⟨w.heap.size, 1, none⟩ = some (.int .i64 (N : Int)) := by rw [← hN]; exact below_cell bd.out rfl T1.out
      obtain ⟨G, hG⟩ : ∃ G, G = (redG Lr).reverse := ⟨_, rfl⟩
      have hGl : G.length ≤ 50 := by rw [hG, List.length_reverse]; exact hred
      have HGG := Lib.hid hG
      obtain ⟨Rp, hRp⟩ : ∃ Rp, Rp = List.replicate N (⟨12, 0, 0⟩ : E3) := ⟨_, rfl⟩
      have hRl : Rp.length ≤ 7 := by rw [hRp, List.length_replicate]; exact hN7
      have HRR := Lib.hid hRp
      clear hG hRp hred
      clear hN hph hO hB hsz
      go_wp2_with fail
      refine AnyB.begin (S := (fun w' => w'.cell? ⟨w.heap.size, 3, none⟩ = some (.slice A2 p.out.length c2) ∧ w'.cell? ⟨w.heap.size, 1, none⟩ = some (.int .i64 (N : Int)))) [] (by kernel_rfl) ?_ (fun hHeld0 => ?_)
      · ((try dsimp only); (first | exact ⟨t3, t1⟩))
      refine AnyB.takeQ (i := 0) (oi := _) (v := ?_) (by simp only [List.getElem?_toArray, List.getElem?_cons_zero, List.getElem?_cons_succ]; rfl) (by kernel_rfl) (by kernel_rfl) (by kernel_rfl) (by intro _ _ _ h; exact h) (Or.inl ⟨by rfl, ?_⟩) ?_
      rotate_left
      · (intro w hSw; (try dsimp only at hSw); go_simp; (try (with_reducible rfl)))
      try simp only [Act.put, List.setIfInBounds_toArray, List.set_cons_zero, List.set_cons_succ]
      refine AnyB.takeQ (i := 1) (oi := _) (v := ?_) (by simp only [List.getElem?_toArray, List.getElem?_cons_zero, List.getElem?_cons_succ]; rfl) (by kernel_rfl) (by kernel_rfl) (by kernel_rfl) (by intro _ _ _ h; exact h) (Or.inl ⟨by rfl, ?_⟩) ?_
      rotate_left
      · (intro w hSw; (try dsimp only at hSw); go_simp; (try (with_reducible rfl)))
      try simp only [Act.put, List.setIfInBounds_toArray, List.set_cons_zero, List.set_cons_succ]
      refine AnyB.take (i := 2) (oi := _) (v := ?_) (by simp only [List.getElem?_toArray, List.getElem?_cons_zero, List.getElem?_cons_succ]; rfl) (by kernel_rfl) (by kernel_rfl) (by kernel_rfl) (by kernel_rfl) (by kernel_rfl) (by intro _ _ _ h; exact h) (Or.inl ⟨by rfl, ?_⟩) (by assumption) ?_
      rotate_left
      · (intro w hSw; (try dsimp only at hSw); go_simp; (try (with_reducible rfl)))
      try simp only [Act.put, List.setIfInBounds_toArray, List.set_cons_zero, List.set_cons_succ]
      refine AnyB.takeQ (i := 5) (oi := _) (v := ?_) (by simp only [List.getElem?_toArray, List.getElem?_cons_zero, List.getElem?_cons_succ]; rfl) (by kernel_rfl) (by kernel_rfl) (by kernel_rfl) (by intro _ _ _ h; exact h) (Or.inl ⟨by rfl, ?_⟩) ?_
      rotate_left
      · (intro w hSw; (try dsimp only at hSw); go_simp; (try (with_reducible rfl)))
      try simp only [Act.put, List.setIfInBounds_toArray, List.set_cons_zero, List.set_cons_succ]
      refine AnyB.take (i := 6) (oi := _) (v := ?_) (by simp only [List.getElem?_toArray, List.getElem?_cons_zero, List.getElem?_cons_succ]; rfl) (by kernel_rfl) (by kernel_rfl) (by kernel_rfl) (by kernel_rfl) (by kernel_rfl) (by intro _ _ _ h; exact h) (Or.inl ⟨by rfl, ?_⟩) (by assumption) ?_
      rotate_left
      · (intro w hSw; (try dsimp only at hSw); go_simp; (try (with_reducible rfl)))
      try simp only [Act.put, List.setIfInBounds_toArray, List.set_cons_zero, List.set_cons_succ]
      refine AnyB.each (rs := [3]) (by kernel_rfl) (by simp) ?_
      refine EachB.cons rfl (fun K hK hB => ?_) ?_
      · skip
        (go_simp; go_at_call 66; refine (impl_synthesized_any _ Lr _ (Rd.below KR.out (Below.trans bw1.out (bd.out.mono (by omega))) rfl) HSM.out (by omega) (by omega)).mono ?_; rintro e w3 ⟨v3, rfl, ho3, hb3⟩; rw [← HGG.out] at ho3; obtain ⟨a3, c3, rfl⟩ := ho3.forms; have SYN := Lib.hid (Reads.of_rd ho3.rd); replace HO := Lib.hid (own_below HO.out hb3 rfl); replace t3 := below_cell hb3 rfl t3; replace t1 := below_cell hb3 rfl t1; replace bd := Lib.hid (show Below w1.heap.size w1 w3 from Below.trans bd.out (hb3.mono bq)); replace bq := Nat.le_trans bq hb3.size; clear ho3 hb3; dsimp only)
        refine hK.out _ _ ?_ (fun hHeld1 => ?_)
        · ((try dsimp only); (first | exact ⟨t3, t1⟩))
        clear hB hK K hHeld0
        refine AnyB.each (rs := [4]) (by kernel_rfl) (by simp) ?_
        refine EachB.cons rfl (fun K hK hB => ?_) ?_
        · skip
          (refine step_append_any _ (by rfl) (.tmp 59) (.tmp 62) 28 (by rfl) w1.heap.size 104 i0 (.agg #[.int .i64 0, .int .i64 0, .int .i64 0]) 3 24 Try.underlying28 hi hz0 hz1 hz2 rfl (by omega) _ P.length _ (by rfl) HO.out _ a3 G.length c3 _ (by rfl) SYN.out (flat_one E3.one _) (by unfold maxLen; omega) (by omega) bq ?_; intro v4 w4 hown4 hg4 hat4; obtain ⟨a4, c4, rfl⟩ := own_form hown4; replace t3 := cell_grown hg4 t3 (fun e => by have := (World.ownsRow.lt HO.out _ e).1; omega); replace t1 := cell_grown hg4 t1 (fun e => by have := (World.ownsRow.lt HO.out _ e).1; omega); replace bd := Lib.hid (bd.out.grown hg4 bq (fun k hk => (World.ownsRow.lt HO.out k hk).1)); replace bq := Nat.le_trans bq hg4.size; replace HO := Lib.hid (show World.ownsRow _ _ _ _ _ _ ((P ++ G).flatMap E3.cs) from (by rw [List.flatMap_append]; exact hown4)); clear hown4 hg4 hat4 SYN)
          refine hK.out _ _ ?_ (fun hHeld2 => ?_)
          · ((try dsimp only); (first | exact ⟨t3, t1⟩))
          clear hB hK K hHeld1
          refine AnyB.each (rs := [7]) (by kernel_rfl) (by simp) ?_
          refine EachB.cons rfl (fun K hK hB => ?_) ?_
          · skip
            (go_simp; go_at_call 67; refine (impl_phases_any N hN7 _).mono ?_; rintro e w5 ⟨v5, rfl, ho5, hb5⟩; rw [← HRR.out] at ho5; obtain ⟨a5, c5, rfl⟩ := ho5.forms; have PHS := Lib.hid (Reads.of_rd ho5.rd); replace HO := Lib.hid (own_below HO.out hb5 rfl); replace t3 := below_cell hb5 rfl t3; replace t1 := below_cell hb5 rfl t1; replace bd := Lib.hid (show Below w1.heap.size w1 w5 from Below.trans bd.out (hb5.mono bq)); replace bq := Nat.le_trans bq hb5.size; clear ho5 hb5; dsimp only)
            refine hK.out _ _ ?_ (fun hHeld3 => ?_)
            · ((try dsimp only); (first | exact ⟨t3, t1⟩))
            clear hB hK K hHeld2
            refine AnyB.each (rs := [8]) (by kernel_rfl) (by simp) ?_
            refine EachB.cons rfl (fun K hK hB => ?_) ?_
            · skip
              (refine step_append_any _ (by rfl) (.tmp 63) (.tmp 66) 28 (by rfl) w1.heap.size 104 i0 (.agg #[.int .i64 0, .int .i64 0, .int .i64 0]) 3 24 Try.underlying28 hi hz0 hz1 hz2 rfl (by omega) _ (P.length + G.length) _ (by rfl) HO.out _ a5 Rp.length c5 _ (by rfl) PHS.out (flat_one E3.one _) (by unfold maxLen; omega) (by omega) bq ?_; intro v6 w6 hown6 hg6 hat6; obtain ⟨a6, c6, rfl⟩ := own_form hown6; replace t3 := cell_grown hg6 t3 (fun e => by have := (World.ownsRow.lt HO.out _ e).1; omega); replace t1 := cell_grown hg6 t1 (fun e => by have := (World.ownsRow.lt HO.out _ e).1; omega); replace bd := Lib.hid (bd.out.grown hg6 bq (fun k hk => (World.ownsRow.lt HO.out k hk).1)); replace bq := Nat.le_trans bq hg6.size; replace HO := Lib.hid (show World.ownsRow _ _ _ _ _ _ ((P ++ G ++ Rp).flatMap E3.cs) from (by rw [List.flatMap_append]; exact hown6)); clear hown6 hg6 hat6 PHS)
              refine hK.out _ _ ?_ (fun hHeld4 => ?_)
              · ((try dsimp only); (first | exact ⟨t3, t1⟩))
              clear hB hK K hHeld3
              refine AnyB.takeQ (i := 9) (oi := _) (v := ?_) (by simp only [List.getElem?_toArray, List.getElem?_cons_zero, List.getElem?_cons_succ]; rfl) (by kernel_rfl) (by kernel_rfl) (by kernel_rfl) (by intro _ _ _ h; exact h) (Or.inl ⟨by rfl, ?_⟩) ?_
              rotate_left
              · (intro w hSw; (try dsimp only at hSw); go_simp; (try (with_reducible rfl)))
              try simp only [Act.put, List.setIfInBounds_toArray, List.set_cons_zero, List.set_cons_succ]
              refine AnyB.none (by kernel_rfl) ?_ _
              have HA := Lib.hid (show P ++ G ++ Rp = pcAll p from by unfold pcAll; rw [HGG.out, HRR.out, HPP.out, HLr.out, HN.out, Int.toNat_natCast])
              have hal : P.length + G.length + Rp.length = (pcAll p).length := by rw [← HA.out, List.length_append, List.length_append]
              have HO2 := Lib.hid (show RdE w6 (.slice a6 (P.length + G.length + Rp.length) c6) E3.cs 3 (pcAll p) from Rd.of_own (base := w1.heap.size) (e := 104) (by rw [← hal, ← HA.out]; exact HO.out))
              have t0 := below_cell bd.out rfl T0.out
              have r0 := below_cell bd.out rfl RR0.out
              have r1 := below_cell bd.out rfl RR1.out
              have f0 := below_frz bd.out rfl (by omega) FF0.out
              have f1 := below_frz bd.out rfl (by omega) FF1.out
              have bww := Lib.hid (show Below w.heap.size w w6 from Below.trans bw1.out (bd.out.mono (by omega)))
              clear t1 t3 hal
              go_wp2_with fail
              refine (impl_circuitIf_any p.n _ (pcAll p) _ HO2.out (by omega)).mono ?_
              obtain ⟨SG, hSG⟩ : ∃ SG, SG = pcG p := ⟨_, rfl⟩
              have HSG := Lib.hid hSG
              rw [← HG.out, ← hSG]; clear hSG
              rintro e w9 ⟨u9, rfl, ho9, hb9⟩
              obtain ⟨aV, cV, rfl⟩ := ho9.forms
              replace r0 := below_cell hb9 rfl r0; replace r1 := below_cell hb9 rfl r1; replace f0 := below_frz hb9 rfl (by omega) f0; replace f1 := below_frz hb9 rfl (by omega) f1
              have z9 := hb9.size
              have HO9 := Lib.hid (OwnE.le ho9 (base' := w.heap.size + 2) (by omega)); clear ho9
              have bw9 := Lib.hid (show Below w.heap.size w w9 from Below.trans bww.out (hb9.mono (by omega))); clear hb9 t0
              go_wp2_with fail
              have hZ := box_set2 (nb := w.heap.size + 1) (.int .i64 (SG.getD Circ.zero).n) (.slice aV (SG.getD Circ.zero).gs.length cV) r0 r1
              have bqq := bw9.out
              exact bodyPost_ret (v := .tuple #[.agg #[.int .i64 (SG.getD Circ.zero).n, .slice aV (SG.getD Circ.zero).gs.length cV], .bool SG.isSome]) (by simp [results, Try.results24, go_sem, hZ]) rfl (by rw [← HSG.out]; exact ⟨_, rfl, OwnE.le (OwnE.set (OwnE.set HO9.out (by simp) _) (by simp) _) (by omega), (by repeat (first | exact Below.refl _ _ | assumption | refine Below.drew ?_ | refine below_drewN ?_ _ | refine Below.alloc ?_ (by first | omega | (simp <;> omega)) _ | refine Below.setCell ?_ (by first | omega | (simp <;> omega)) _ | refine Below.trans ?_ (Below.mono (by assumption) (by first | omega | (simp <;> omega)))))⟩)
            exact EachB.nil
          exact EachB.nil
        exact EachB.nil
      exact EachB.nil
end Go.Proofs.Ytdkfoleippncnaa
namespace Go.Proofs.Ytdkfoleippncnaa
set_option linter.unusedSimpArgs false
set_option linter.unusedVariables false
set_option linter.unnecessarySimpa false
set_option maxRecDepth 200000
open Go.ChangeShapes Go.WideShapes Go.ChangeAt Go.RowKit

set_option maxHeartbeats 4000000 in
theorem impl_PhaseCircuit_no (v u : Value) (p : PP) (w : World) (h : RdE w v E2.cs 2 p.ts) (k : RdI w u p.out) (hl : p.ts.length ≤ 1048576) (hm : p.out.length ≤ 1048576) (hb : ppB p = false) :
    Calls Try.prog 24 #[.agg #[.int .i64 p.n, .int .i64 p.ph, v, u]] w (CircPost w (pcG p)) := by
  have HH := Lib.hid h; have KT := Lib.hid k
  obtain ⟨A, c, rfl, _⟩ := h.form
  obtain ⟨A2, c2, rfl, _⟩ := k.form
  clear h k
  have HG := Lib.hid (pcG_none hb)
  have HB := Lib.hid hb; clear hb
  go_enter Try.func24, Try.ntmps24
  go_wp2_with fail
  refine (impl_IsValidPhasePoly_any _ _ p _ (Rd.below HH.out (show Below w.heap.size w _ from (by repeat (first | exact Below.refl _ _ | assumption | refine Below.drew ?_ | refine below_drewN ?_ _ | refine Below.alloc ?_ (by first | omega | (simp <;> omega)) _ | refine Below.setCell ?_ (by first | omega | (simp <;> omega)) _ | refine Below.trans ?_ (Below.mono (by assumption) (by first | omega | (simp <;> omega)))))) rfl) (Rd.below KT.out (show Below w.heap.size w _ from (by repeat (first | exact Below.refl _ _ | assumption | refine Below.drew ?_ | refine below_drewN ?_ _ | refine Below.alloc ?_ (by first | omega | (simp <;> omega)) _ | refine Below.setCell ?_ (by first | omega | (simp <;> omega)) _ | refine Below.trans ?_ (Below.mono (by assumption) (by first | omega | (simp <;> omega)))))) rfl) hl hm).mono ?_; rintro e w1 ⟨rfl, hb1⟩; rw [HB.out]
  have t0 := below_cell hb1 rfl (show ((w.alloc (.cells #[.int .i64 p.n, .int .i64 p.ph, .slice A p.ts.length c, .slice A2 p.out.length c2] 53)).alloc (.cells #[.int .i64 0, .slice none 0 0] 30)).cell? ⟨w.heap.size, 0, none⟩ = some (.int .i64 p.n) from (by repeat (first | (refine Eq.trans (World.cell?_alloc_at _ _ _ _ ?hh) ?_; (case hh => (simp; done)); rfl) | refine cell_alloc_keep _ ?_)))
  have t1 := below_cell hb1 rfl (show ((w.alloc (.cells #[.int .i64 p.n, .int .i64 p.ph, .slice A p.ts.length c, .slice A2 p.out.length c2] 53)).alloc (.cells #[.int .i64 0, .slice none 0 0] 30)).cell? ⟨w.heap.size, 1, none⟩ = some (.int .i64 p.ph) from (by repeat (first | (refine Eq.trans (World.cell?_alloc_at _ _ _ _ ?hh) ?_; (case hh => (simp; done)); rfl) | refine cell_alloc_keep _ ?_)))
  have t2 := below_cell hb1 rfl (show ((w.alloc (.cells #[.int .i64 p.n, .int .i64 p.ph, .slice A p.ts.length c, .slice A2 p.out.length c2] 53)).alloc (.cells #[.int .i64 0, .slice none 0 0] 30)).cell? ⟨w.heap.size, 2, none⟩ = some (.slice A p.ts.length c) from (by repeat (first | (refine Eq.trans (World.cell?_alloc_at _ _ _ _ ?hh) ?_; (case hh => (simp; done)); rfl) | refine cell_alloc_keep _ ?_)))
  have t3 := below_cell hb1 rfl (show ((w.alloc (.cells #[.int .i64 p.n, .int .i64 p.ph, .slice A p.ts.length c, .slice A2 p.out.length c2] 53)).alloc (.cells #[.int .i64 0, .slice none 0 0] 30)).cell? ⟨w.heap.size, 3, none⟩ = some (.slice A2 p.out.length c2) from (by repeat (first | (refine Eq.trans (World.cell?_alloc_at _ _ _ _ ?hh) ?_; (case hh => (simp; done)); rfl) | refine cell_alloc_keep _ ?_)))
  have r0 := below_cell hb1 rfl (show ((w.alloc (.cells #[.int .i64 p.n, .int .i64 p.ph, .slice A p.ts.length c, .slice A2 p.out.length c2] 53)).alloc (.cells #[.int .i64 0, .slice none 0 0] 30)).cell? ⟨w.heap.size + 1, 0, none⟩ = some (.int .i64 0) from (by repeat (first | (refine Eq.trans (World.cell?_alloc_at _ _ _ _ ?hh) ?_; (case hh => (simp; done)); rfl) | refine cell_alloc_keep _ ?_)))
  have f0 := below_frz hb1 rfl (by simp) (show ((w.alloc (.cells #[.int .i64 p.n, .int .i64 p.ph, .slice A p.ts.length c, .slice A2 p.out.length c2] 53)).alloc (.cells #[.int .i64 0, .slice none 0 0] 30)).frozen? ⟨w.heap.size + 1, 0, none⟩ = false from (by repeat (first | (refine World.frozen?_alloc_at _ _ _ _ ?hh; case hh => (simp; done)) | (refine frozen_alloc_lt _ ?hh ?_; case hh => first | omega | (simp <;> omega)))))
  have r1 := below_cell hb1 rfl (show ((w.alloc (.cells #[.int .i64 p.n, .int .i64 p.ph, .slice A p.ts.length c, .slice A2 p.out.length c2] 53)).alloc (.cells #[.int .i64 0, .slice none 0 0] 30)).cell? ⟨w.heap.size + 1, 1, none⟩ = some (.slice none 0 0) from (by repeat (first | (refine Eq.trans (World.cell?_alloc_at _ _ _ _ ?hh) ?_; (case hh => (simp; done)); rfl) | refine cell_alloc_keep _ ?_)))
  have f1 := below_frz hb1 rfl (by simp) (show ((w.alloc (.cells #[.int .i64 p.n, .int .i64 p.ph, .slice A p.ts.length c, .slice A2 p.out.length c2] 53)).alloc (.cells #[.int .i64 0, .slice none 0 0] 30)).frozen? ⟨w.heap.size + 1, 1, none⟩ = false from (by repeat (first | (refine World.frozen?_alloc_at _ _ _ _ ?hh; case hh => (simp; done)) | (refine frozen_alloc_lt _ ?hh ?_; case hh => first | omega | (simp <;> omega)))))
  have z1 := hb1.size; (simp at z1)
  have bw1 := Lib.hid (show Below w.heap.size w w1 from (by repeat (first | exact Below.refl _ _ | assumption | refine Below.drew ?_ | refine below_drewN ?_ _ | refine Below.alloc ?_ (by first | omega | (simp <;> omega)) _ | refine Below.setCell ?_ (by first | omega | (simp <;> omega)) _ | refine Below.trans ?_ (Below.mono (by assumption) (by first | omega | (simp <;> omega)))))); clear hb1
  go_wp2_with fail
  have hZ := box_set2 (nb := w.heap.size + 1) (.int .i64 0) (.slice none 0 0) r0 r1
  have bq := bw1.out
  exact bodyPost_ret (v := .tuple #[.agg #[.int .i64 0, .slice none 0 0], .bool false]) (by simp [results, Try.results24, go_sem, hZ]) rfl (CircPost.none HG.out (by repeat (first | exact Below.refl _ _ | assumption | refine Below.drew ?_ | refine below_drewN ?_ _ | refine Below.alloc ?_ (by first | omega | (simp <;> omega)) _ | refine Below.setCell ?_ (by first | omega | (simp <;> omega)) _ | refine Below.trans ?_ (Below.mono (by assumption) (by first | omega | (simp <;> omega))))))
theorem impl_PhaseCircuit_any (v u : Value) (p : PP) (w : World) (h : RdE w v E2.cs 2 p.ts) (k : RdI w u p.out) (hl : p.ts.length ≤ 1048576) (hm : p.out.length ≤ 1048576) :
    Calls Try.prog 24 #[.agg #[.int .i64 p.n, .int .i64 p.ph, v, u]] w (CircPost w (pcG p)) := by
  by_cases hok : PPOk p
  · exact impl_PhaseCircuit_ok v u p w h k hok
  · exact impl_PhaseCircuit_no v u p w h k hl hm (ppB_false hok)
set_option maxHeartbeats 4000000 in
theorem spec_PhaseCircuit_no (v u : Value) (p : PP) (w : World) (h : RdE w v E2.cs 2 p.ts) (k : RdI w u p.out) (hl : p.ts.length ≤ 1048576) (hm : p.out.length ≤ 1048576) (hb : ppB p = false) :
    Calls Try.prog 22 #[.agg #[.int .i64 p.n, .int .i64 p.ph, v, u]] w (CircPost w (pcG p)) := by
  have HH := Lib.hid h; have KT := Lib.hid k
  obtain ⟨A, c, rfl, _⟩ := h.form
  obtain ⟨A2, c2, rfl, _⟩ := k.form
  clear h k
  have HG := Lib.hid (pcG_none hb)
  have HB := Lib.hid hb; clear hb
  go_enter Try.func22, Try.ntmps22
  go_wp2_with fail
  refine (spec_l13Valid_any _ _ p _ (Rd.below HH.out (show Below w.heap.size w _ from (by repeat (first | exact Below.refl _ _ | assumption | refine Below.drew ?_ | refine below_drewN ?_ _ | refine Below.alloc ?_ (by first | omega | (simp <;> omega)) _ | refine Below.setCell ?_ (by first | omega | (simp <;> omega)) _ | refine Below.trans ?_ (Below.mono (by assumption) (by first | omega | (simp <;> omega)))))) rfl) (Rd.below KT.out (show Below w.heap.size w _ from (by repeat (first | exact Below.refl _ _ | assumption | refine Below.drew ?_ | refine below_drewN ?_ _ | refine Below.alloc ?_ (by first | omega | (simp <;> omega)) _ | refine Below.setCell ?_ (by first | omega | (simp <;> omega)) _ | refine Below.trans ?_ (Below.mono (by assumption) (by first | omega | (simp <;> omega)))))) rfl) hl hm).mono ?_; rintro e w1 ⟨rfl, hb1⟩; rw [HB.out]
  have t0 := below_cell hb1 rfl (show ((w.alloc (.cells #[.int .i64 p.n, .int .i64 p.ph, .slice A p.ts.length c, .slice A2 p.out.length c2] 53)).alloc (.cells #[.int .i64 0, .slice none 0 0] 30)).cell? ⟨w.heap.size, 0, none⟩ = some (.int .i64 p.n) from (by repeat (first | (refine Eq.trans (World.cell?_alloc_at _ _ _ _ ?hh) ?_; (case hh => (simp; done)); rfl) | refine cell_alloc_keep _ ?_)))
  have t1 := below_cell hb1 rfl (show ((w.alloc (.cells #[.int .i64 p.n, .int .i64 p.ph, .slice A p.ts.length c, .slice A2 p.out.length c2] 53)).alloc (.cells #[.int .i64 0, .slice none 0 0] 30)).cell? ⟨w.heap.size, 1, none⟩ = some (.int .i64 p.ph) from (by repeat (first | (refine Eq.trans (World.cell?_alloc_at _ _ _ _ ?hh) ?_; (case hh => (simp; done)); rfl) | refine cell_alloc_keep _ ?_)))
  have t2 := below_cell hb1 rfl (show ((w.alloc (.cells #[.int .i64 p.n, .int .i64 p.ph, .slice A p.ts.length c, .slice A2 p.out.length c2] 53)).alloc (.cells #[.int .i64 0, .slice none 0 0] 30)).cell? ⟨w.heap.size, 2, none⟩ = some (.slice A p.ts.length c) from (by repeat (first | (refine Eq.trans (World.cell?_alloc_at _ _ _ _ ?hh) ?_; (case hh => (simp; done)); rfl) | refine cell_alloc_keep _ ?_)))
  have t3 := below_cell hb1 rfl (show ((w.alloc (.cells #[.int .i64 p.n, .int .i64 p.ph, .slice A p.ts.length c, .slice A2 p.out.length c2] 53)).alloc (.cells #[.int .i64 0, .slice none 0 0] 30)).cell? ⟨w.heap.size, 3, none⟩ = some (.slice A2 p.out.length c2) from (by repeat (first | (refine Eq.trans (World.cell?_alloc_at _ _ _ _ ?hh) ?_; (case hh => (simp; done)); rfl) | refine cell_alloc_keep _ ?_)))
  have r0 := below_cell hb1 rfl (show ((w.alloc (.cells #[.int .i64 p.n, .int .i64 p.ph, .slice A p.ts.length c, .slice A2 p.out.length c2] 53)).alloc (.cells #[.int .i64 0, .slice none 0 0] 30)).cell? ⟨w.heap.size + 1, 0, none⟩ = some (.int .i64 0) from (by repeat (first | (refine Eq.trans (World.cell?_alloc_at _ _ _ _ ?hh) ?_; (case hh => (simp; done)); rfl) | refine cell_alloc_keep _ ?_)))
  have f0 := below_frz hb1 rfl (by simp) (show ((w.alloc (.cells #[.int .i64 p.n, .int .i64 p.ph, .slice A p.ts.length c, .slice A2 p.out.length c2] 53)).alloc (.cells #[.int .i64 0, .slice none 0 0] 30)).frozen? ⟨w.heap.size + 1, 0, none⟩ = false from (by repeat (first | (refine World.frozen?_alloc_at _ _ _ _ ?hh; case hh => (simp; done)) | (refine frozen_alloc_lt _ ?hh ?_; case hh => first | omega | (simp <;> omega)))))
  have r1 := below_cell hb1 rfl (show ((w.alloc (.cells #[.int .i64 p.n, .int .i64 p.ph, .slice A p.ts.length c, .slice A2 p.out.length c2] 53)).alloc (.cells #[.int .i64 0, .slice none 0 0] 30)).cell? ⟨w.heap.size + 1, 1, none⟩ = some (.slice none 0 0) from (by repeat (first | (refine Eq.trans (World.cell?_alloc_at _ _ _ _ ?hh) ?_; (case hh => (simp; done)); rfl) | refine cell_alloc_keep _ ?_)))
  have f1 := below_frz hb1 rfl (by simp) (show ((w.alloc (.cells #[.int .i64 p.n, .int .i64 p.ph, .slice A p.ts.length c, .slice A2 p.out.length c2] 53)).alloc (.cells #[.int .i64 0, .slice none 0 0] 30)).frozen? ⟨w.heap.size + 1, 1, none⟩ = false from (by repeat (first | (refine World.frozen?_alloc_at _ _ _ _ ?hh; case hh => (simp; done)) | (refine frozen_alloc_lt _ ?hh ?_; case hh => first | omega | (simp <;> omega)))))
  have z1 := hb1.size; (simp at z1)
  have bw1 := Lib.hid (show Below w.heap.size w w1 from (by repeat (first | exact Below.refl _ _ | assumption | refine Below.drew ?_ | refine below_drewN ?_ _ | refine Below.alloc ?_ (by first | omega | (simp <;> omega)) _ | refine Below.setCell ?_ (by first | omega | (simp <;> omega)) _ | refine Below.trans ?_ (Below.mono (by assumption) (by first | omega | (simp <;> omega)))))); clear hb1
  go_wp2_with fail
  have hZ := box_set2 (nb := w.heap.size + 1) (.int .i64 0) (.slice none 0 0) r0 r1
  have bq := bw1.out
  exact bodyPost_ret (v := .tuple #[.agg #[.int .i64 0, .slice none 0 0], .bool false]) (by simp [results, Try.results22, go_sem, hZ]) rfl (CircPost.none HG.out (by repeat (first | exact Below.refl _ _ | assumption | refine Below.drew ?_ | refine below_drewN ?_ _ | refine Below.alloc ?_ (by first | omega | (simp <;> omega)) _ | refine Below.setCell ?_ (by first | omega | (simp <;> omega)) _ | refine Below.trans ?_ (Below.mono (by assumption) (by first | omega | (simp <;> omega))))))
set_option maxHeartbeats 4000000 in
theorem spec_PhaseCircuit_any (v u : Value) (p : PP) (w : World) (h : RdE w v E2.cs 2 p.ts) (k : RdI w u p.out) (hl : p.ts.length ≤ 1048576) (hm : p.out.length ≤ 1048576) :
    Calls Try.prog 22 #[.agg #[.int .i64 p.n, .int .i64 p.ph, v, u]] w (CircPost w (pcG p)) := by
  by_cases hok : PPOk p
  case neg => exact spec_PhaseCircuit_no v u p w h k hl hm (ppB_false hok)
  have HH := Lib.hid h; have KT := Lib.hid k
  obtain ⟨A, c, rfl, _⟩ := h.form
  obtain ⟨A2, c2, rfl, _⟩ := k.form
  clear h k
  have HG := Lib.hid (pcG_some (ppB_true hok))
  have HB := Lib.hid (ppB_true hok)
  have HL := Lib.hid (fun W v u h k => spec_l13Circuit_any v u p W h k hok)
  go_enter Try.func22, Try.ntmps22
  go_wp2_with fail
  refine (spec_l13Valid_any _ _ p _ (Rd.below HH.out (show Below w.heap.size w _ from (by repeat (first | exact Below.refl _ _ | assumption | refine Below.drew ?_ | refine below_drewN ?_ _ | refine Below.alloc ?_ (by first | omega | (simp <;> omega)) _ | refine Below.setCell ?_ (by first | omega | (simp <;> omega)) _ | refine Below.trans ?_ (Below.mono (by assumption) (by first | omega | (simp <;> omega)))))) rfl) (Rd.below KT.out (show Below w.heap.size w _ from (by repeat (first | exact Below.refl _ _ | assumption | refine Below.drew ?_ | refine below_drewN ?_ _ | refine Below.alloc ?_ (by first | omega | (simp <;> omega)) _ | refine Below.setCell ?_ (by first | omega | (simp <;> omega)) _ | refine Below.trans ?_ (Below.mono (by assumption) (by first | omega | (simp <;> omega)))))) rfl) hl hm).mono ?_; rintro e w1 ⟨rfl, hb1⟩; rw [HB.out]
  have t0 := below_cell hb1 rfl (show ((w.alloc (.cells #[.int .i64 p.n, .int .i64 p.ph, .slice A p.ts.length c, .slice A2 p.out.length c2] 53)).alloc (.cells #[.int .i64 0, .slice none 0 0] 30)).cell? ⟨w.heap.size, 0, none⟩ = some (.int .i64 p.n) from (by repeat (first | (refine Eq.trans (World.cell?_alloc_at _ _ _ _ ?hh) ?_; (case hh => (simp; done)); rfl) | refine cell_alloc_keep _ ?_)))
  have t1 := below_cell hb1 rfl (show ((w.alloc (.cells #[.int .i64 p.n, .int .i64 p.ph, .slice A p.ts.length c, .slice A2 p.out.length c2] 53)).alloc (.cells #[.int .i64 0, .slice none 0 0] 30)).cell? ⟨w.heap.size, 1, none⟩ = some (.int .i64 p.ph) from (by repeat (first | (refine Eq.trans (World.cell?_alloc_at _ _ _ _ ?hh) ?_; (case hh => (simp; done)); rfl) | refine cell_alloc_keep _ ?_)))
  have t2 := below_cell hb1 rfl (show ((w.alloc (.cells #[.int .i64 p.n, .int .i64 p.ph, .slice A p.ts.length c, .slice A2 p.out.length c2] 53)).alloc (.cells #[.int .i64 0, .slice none 0 0] 30)).cell? ⟨w.heap.size, 2, none⟩ = some (.slice A p.ts.length c) from (by repeat (first | (refine Eq.trans (World.cell?_alloc_at _ _ _ _ ?hh) ?_; (case hh => (simp; done)); rfl) | refine cell_alloc_keep _ ?_)))
  have t3 := below_cell hb1 rfl (show ((w.alloc (.cells #[.int .i64 p.n, .int .i64 p.ph, .slice A p.ts.length c, .slice A2 p.out.length c2] 53)).alloc (.cells #[.int .i64 0, .slice none 0 0] 30)).cell? ⟨w.heap.size, 3, none⟩ = some (.slice A2 p.out.length c2) from (by repeat (first | (refine Eq.trans (World.cell?_alloc_at _ _ _ _ ?hh) ?_; (case hh => (simp; done)); rfl) | refine cell_alloc_keep _ ?_)))
  have r0 := below_cell hb1 rfl (show ((w.alloc (.cells #[.int .i64 p.n, .int .i64 p.ph, .slice A p.ts.length c, .slice A2 p.out.length c2] 53)).alloc (.cells #[.int .i64 0, .slice none 0 0] 30)).cell? ⟨w.heap.size + 1, 0, none⟩ = some (.int .i64 0) from (by repeat (first | (refine Eq.trans (World.cell?_alloc_at _ _ _ _ ?hh) ?_; (case hh => (simp; done)); rfl) | refine cell_alloc_keep _ ?_)))
  have f0 := below_frz hb1 rfl (by simp) (show ((w.alloc (.cells #[.int .i64 p.n, .int .i64 p.ph, .slice A p.ts.length c, .slice A2 p.out.length c2] 53)).alloc (.cells #[.int .i64 0, .slice none 0 0] 30)).frozen? ⟨w.heap.size + 1, 0, none⟩ = false from (by repeat (first | (refine World.frozen?_alloc_at _ _ _ _ ?hh; case hh => (simp; done)) | (refine frozen_alloc_lt _ ?hh ?_; case hh => first | omega | (simp <;> omega)))))
  have r1 := below_cell hb1 rfl (show ((w.alloc (.cells #[.int .i64 p.n, .int .i64 p.ph, .slice A p.ts.length c, .slice A2 p.out.length c2] 53)).alloc (.cells #[.int .i64 0, .slice none 0 0] 30)).cell? ⟨w.heap.size + 1, 1, none⟩ = some (.slice none 0 0) from (by repeat (first | (refine Eq.trans (World.cell?_alloc_at _ _ _ _ ?hh) ?_; (case hh => (simp; done)); rfl) | refine cell_alloc_keep _ ?_)))
  have f1 := below_frz hb1 rfl (by simp) (show ((w.alloc (.cells #[.int .i64 p.n, .int .i64 p.ph, .slice A p.ts.length c, .slice A2 p.out.length c2] 53)).alloc (.cells #[.int .i64 0, .slice none 0 0] 30)).frozen? ⟨w.heap.size + 1, 1, none⟩ = false from (by repeat (first | (refine World.frozen?_alloc_at _ _ _ _ ?hh; case hh => (simp; done)) | (refine frozen_alloc_lt _ ?hh ?_; case hh => first | omega | (simp <;> omega)))))
  have z1 := hb1.size; (simp at z1)
  have bw1 := Lib.hid (show Below w.heap.size w w1 from (by repeat (first | exact Below.refl _ _ | assumption | refine Below.drew ?_ | refine below_drewN ?_ _ | refine Below.alloc ?_ (by first | omega | (simp <;> omega)) _ | refine Below.setCell ?_ (by first | omega | (simp <;> omega)) _ | refine Below.trans ?_ (Below.mono (by assumption) (by first | omega | (simp <;> omega)))))); clear hb1
  go_wp2_with fail
  refine (HL.out _ _ _ (Rd.below HH.out bw1.out rfl) (Rd.below KT.out bw1.out rfl)).mono ?_; rintro e w2 ⟨vO, rfl, ho2, hb2⟩
  obtain ⟨aV, cV, rfl⟩ := ho2.forms
  replace r0 := below_cell hb2 rfl r0; replace r1 := below_cell hb2 rfl r1; replace f0 := below_frz hb2 rfl (by omega) f0; replace f1 := below_frz hb2 rfl (by omega) f1
  have z2 := hb2.size
  have HO9 := Lib.hid (OwnE.le ho2 (base' := w.heap.size + 2) (by omega)); clear ho2
  have bw2 := Lib.hid (show Below w.heap.size w w2 from Below.trans bw1.out (hb2.mono (by omega))); clear hb2 t0 t1 t2 t3
  go_wp2_with fail
  have hZ := box_set2 (nb := w.heap.size + 1) (.int .i64 p.n) (.slice aV (pcAll p).length cV) r0 r1
  have bqq := bw2.out
  exact bodyPost_ret (v := .tuple #[.agg #[.int .i64 p.n, .slice aV (pcAll p).length cV], .bool true]) (by simp [results, Try.results22, go_sem, hZ]) rfl (CircPost.some HG.out (OwnE.le (OwnE.set (OwnE.set HO9.out (by simp) _) (by simp) _) (by omega)) (by repeat (first | exact Below.refl _ _ | assumption | refine Below.drew ?_ | refine below_drewN ?_ _ | refine Below.alloc ?_ (by first | omega | (simp <;> omega)) _ | refine Below.setCell ?_ (by first | omega | (simp <;> omega)) _ | refine Below.trans ?_ (Below.mono (by assumption) (by first | omega | (simp <;> omega))))))
end Go.Proofs.Ytdkfoleippncnaa
