/- RotP, Pl0, DelT, IdxTerm, Pl1, Pl2, Pl3, Pl4, Pl5 in one text. -/
import Derived.Test.YtdkfoleippncnaaRot
import Derived.Test.YtdkfoleippncnaaGate1
import Derived.Test.YtdkfoleippncnaaPp0
import Derived.Test.YtdkfoleippncnaaPar1
import Derived.Test.YtdkfoleippncnaaTyTerm
import Derived.Test.YtdkfoleippncnaaWords
import Derived.Test.YtdkfoleippncnaaOwnG
import Derived.Test.YtdkfoleippncnaaElTerm
import Derived.Test.YtdkfoleippncnaaSl
import Derived.Test.YtdkfoleippncnaaRot2
import Derived.Test.YtdkfoleippncnaaPar2
import Derived.Test.YtdkfoleippncnaaBrk
import Derived.Test.YtdkfoleippncnaaSyns
import Derived.Test.YtdkfoleippncnaaPp2
import Derived.Shelf.RegionOpenPlain
import Derived.WalkSpells
import Derived.Deep.LoopGhost
import Derived.Shelf.Abstract
import Derived.Lib.SliceRun
import Derived.Deep.RegionLaw
import Derived.BigRegion
import Derived.BigQuiet
namespace Go.Proofs.Ytdkfoleippncnaa
set_option linter.unusedSimpArgs false
set_option linter.unusedVariables false
set_option linter.unnecessarySimpa false
set_option maxRecDepth 200000
open Go.ChangeShapes Go.WideShapes Go.ChangeAt Go.RowKit

theorem rotK_len (c : Int) : (rotKinds c).length ≤ 2 := by
  unfold rotKinds; repeat (first | split | decide)
theorem rotK_in {c k : Int} (h : k ∈ rotKinds c) : 4 ≤ k ∧ k ≤ 8 := by
  unfold rotKinds at h
  repeat (first | (simp at h; omega) | split at h)
theorem rotF_len (q c : Int) : (rotF q c).length ≤ 2 := by unfold rotF; rw [List.length_map]; exact rotK_len c
theorem rot_ok {n q : Nat} {c : Int} (hn : n ≤ 5) (hq : q < n) {g : E3} (hg : g ∈ rotF (q : Int) c) : GateOk (n : Int) g := by
  unfold rotF at hg
  obtain ⟨k, hk, rfl⟩ := List.mem_map.1 hg
  have := rotK_in hk
  unfold GateOk
  dsimp only
  omega
end Go.Proofs.Ytdkfoleippncnaa
namespace Go.Proofs.Ytdkfoleippncnaa
set_option linter.unusedSimpArgs false
set_option linter.unusedVariables false
set_option linter.unnecessarySimpa false
set_option maxRecDepth 200000
open Go.ChangeShapes Go.WideShapes Go.ChangeAt Go.RowKit

/-- A term's rotation at a qubit whose row is x. -/
def spT (x q : Nat) (s : List Nat × List E3) (t : E2) : List Nat × List E3 :=
  if t.a = (x : Int) ∧ hasB s.1 x = false then (s.1 ++ [x], s.2 ++ rotF (q : Int) t.b) else s
def spQ (ts : List E2) (R : List Nat) (s : List Nat × List E3) (q : Nat) : List Nat × List E3 := ts.foldl (spT (R.getD q 0) q) s
/-- Behind the reference's rounds: rows, the qubits to look at, masks done, gates. -/
structure PlS where (R : List Nat) (at_ : List Nat) (done : List Nat) (out : List E3)
def PlS.place (ts : List E2) (s : PlS) : List Nat × List E3 := s.at_.foldl (spQ ts s.R) (s.done, s.out)
def PlS.next (ts : List E2) (s : PlS) (g : E3) : PlS := ⟨cxN s.R g.b.toNat g.c.toNat, [g.c.toNat], (s.place ts).1, (s.place ts).2 ++ [g]⟩
def plTo (n : Nat) (gs : List E3) (ts : List E2) (k : Nat) : PlS := (gs.take k).foldl (PlS.next ts) ⟨idN n, List.range n, [], []⟩
theorem plTo_succ {n : Nat} {gs : List E3} {ts : List E2} {k : Nat} (h : k < gs.length) : plTo n gs ts (k + 1) = (plTo n gs ts k).next ts (gs.getD k ⟨0, 0, 0⟩) := by
  unfold plTo
  rw [List.take_succ_eq_append_getElem h, List.foldl_append]
  simp [List.getD, h]
def plEnd (n : Nat) (gs : List E3) (ts : List E2) : List Nat × List E3 := (plTo n gs ts gs.length).place ts
/-- The program's way: the terms that are left, gates. -/
def imP (R : List Nat) (s : List E2 × List E3) (q : Nat) : List E2 × List E3 :=
  match s.1.findIdx? (fun t => decide (t.a = ((R.getD q 0 : Nat) : Int))) with
  | some i => (s.1.eraseIdx i, s.2 ++ rotF (q : Int) (s.1.getD i ⟨0, 0⟩).b)
  | none => s
def imN (s : List Nat × (List E2 × List E3)) (g : E3) : List Nat × (List E2 × List E3) :=
  (cxN s.1 g.b.toNat g.c.toNat, imP (cxN s.1 g.b.toNat g.c.toNat) (s.2.1, s.2.2 ++ [g]) g.c.toNat)
def im0 (n : Nat) (ts : List E2) (k : Nat) : List E2 × List E3 := (List.range k).foldl (imP (idN n)) (ts, [])
theorem im0_succ (n : Nat) (ts : List E2) (k : Nat) : im0 n ts (k + 1) = imP (idN n) (im0 n ts k) k := by
  unfold im0; rw [List.range_succ, List.foldl_append]; rfl
def imTo (n : Nat) (gs : List E3) (ts : List E2) (k : Nat) : List Nat × (List E2 × List E3) := (gs.take k).foldl imN (idN n, im0 n ts n)
theorem imTo_succ {n : Nat} {gs : List E3} {ts : List E2} {k : Nat} (h : k < gs.length) : imTo n gs ts (k + 1) = imN (imTo n gs ts k) (gs.getD k ⟨0, 0, 0⟩) := by
  unfold imTo
  rw [List.take_succ_eq_append_getElem h, List.foldl_append]
  simp [List.getD, h]
/-- The masks rise and are positive. -/
def Rise (ts : List E2) : Prop := (∀ t ∈ ts, 1 ≤ t.a) ∧ ts.Pairwise (fun a b => a.a < b.a)
def leftOf (done : List Nat) (ts : List E2) : List E2 := ts.filter fun t => !hasB done t.a.toNat
theorem has_mem (L : List Nat) (x : Nat) : hasB L x = true ↔ x ∈ L := by
  unfold hasB; rw [List.any_eq_true]
  constructor
  · rintro ⟨y, h, e⟩; rw [← of_decide_eq_true e]; exact h
  · exact fun h => ⟨x, h, by simp⟩
theorem has_app (L : List Nat) (x y : Nat) : hasB (L ++ [y]) x = (hasB L x || decide (y = x)) := by
  unfold hasB; rw [List.any_append]; simp
/-- Where the mask is done or is no term's, nothing changes. -/
theorem spQ_same {x q : Nat} : ∀ (ts : List E2) (s : List Nat × List E3), ((∀ t ∈ ts, t.a ≠ (x : Int)) ∨ hasB s.1 x = true) → ts.foldl (spT x q) s = s
  | [], _, _ => rfl
  | t :: ts, s, h => by
    have e : spT x q s t = s := by
      unfold spT
      rw [if_neg]
      rintro ⟨h1, h2⟩
      rcases h with h | h
      · exact h t (by simp) h1
      · rw [h] at h2; cases h2
    rw [List.foldl_cons, e]
    exact spQ_same ts s (h.imp (fun h u hu => h u (by simp [hu])) id)
theorem spQ_split {x q : Nat} {l1 l2 : List E2} {t : E2} {s : List Nat × List E3} (h1 : ∀ u ∈ l1, u.a ≠ (x : Int)) (ht : t.a = (x : Int)) (hd : hasB s.1 x = false) :
    (l1 ++ t :: l2).foldl (spT x q) s = (s.1 ++ [x], s.2 ++ rotF (q : Int) t.b) := by
  rw [List.foldl_append, spQ_same l1 s (.inl h1), List.foldl_cons]
  have e : spT x q s t = (s.1 ++ [x], s.2 ++ rotF (q : Int) t.b) := by unfold spT; rw [if_pos ⟨ht, hd⟩]
  rw [e, spQ_same l2 _ (.inr (by rw [has_app]; simp))]
theorem find_none {p : E2 → Bool} {l : List E2} (h : ∀ t ∈ l, p t = false) : l.findIdx? p = none := by
  rw [List.findIdx?_eq_none_iff]; exact h
theorem find_at {p : E2 → Bool} {l1 l2 : List E2} {t : E2} (h : ∀ u ∈ l1, p u = false) (ht : p t = true) : (l1 ++ t :: l2).findIdx? p = some l1.length := by
  rw [List.findIdx?_append, find_none h]
  simp [List.findIdx?_cons, ht]
theorem erase_at {l1 l2 : List E2} {t : E2} : (l1 ++ t :: l2).eraseIdx l1.length = l1 ++ l2 := by
  rw [List.eraseIdx_append_of_length_le (Nat.le_refl _)]; simp
/-- One look at a qubit, both ways. -/
theorem place_one {ts : List E2} (hr : Rise ts) (R : List Nat) (s : List Nat × List E3) (q : Nat) :
    (leftOf (spQ ts R s q).1 ts, (spQ ts R s q).2) = imP R (leftOf s.1 ts, s.2) q ∧ (spQ ts R s q).1.length + (leftOf (spQ ts R s q).1 ts).length = s.1.length + (leftOf s.1 ts).length ∧ s.1.length ≤ (spQ ts R s q).1.length ∧ ((spQ ts R s q).2 = s.2 ∨ ∃ c, (spQ ts R s q).2 = s.2 ++ rotF (q : Int) c ∧ (spQ ts R s q).1.length = s.1.length + 1) := by
  obtain ⟨x, hx⟩ : ∃ x, x = R.getD q 0 := ⟨_, rfl⟩
  unfold spQ imP
  rw [← hx]
  by_cases hd : hasB s.1 x = true
  · rw [spQ_same ts s (.inr hd), find_none]
    · exact ⟨rfl, rfl, Nat.le_refl _, .inl rfl⟩
    · intro t ht
      have := (List.mem_filter.1 ht).2
      apply decide_eq_false
      intro e
      rw [e, Int.toNat_natCast, hd] at this
      cases this
  · have hd0 : hasB s.1 x = false := by simpa using hd
    by_cases hn : ∀ t ∈ ts, t.a ≠ (x : Int)
    · rw [spQ_same ts s (.inl hn), find_none]
      · exact ⟨rfl, rfl, Nat.le_refl _, .inl rfl⟩
      · exact fun t ht => decide_eq_false (hn t (List.mem_filter.1 ht).1)
    · obtain ⟨t, ht, hta⟩ : ∃ t ∈ ts, t.a = (x : Int) := by
        apply Classical.byContradiction
        intro h; exact hn fun t ht e => h ⟨t, ht, e⟩
      obtain ⟨l1, l2, rfl⟩ := List.append_of_mem ht
      obtain ⟨_, hp⟩ := hr
      rw [List.pairwise_append, List.pairwise_cons] at hp
      obtain ⟨p1, ⟨p2, p3⟩, p4⟩ := hp
      have h1 : ∀ u ∈ l1, u.a ≠ (x : Int) := fun u hu e => by have := p4 u hu t (by simp); omega
      have h2 : ∀ u ∈ l2, u.a ≠ (x : Int) := fun u hu e => by have := p2 u hu; omega
      have hpos : ∀ u ∈ l1 ++ t :: l2, 1 ≤ u.a := by assumption
      rw [spQ_split h1 hta hd0]
      have hT : (!hasB s.1 t.a.toNat) = true := by rw [hta, Int.toNat_natCast, hd0]; rfl
      have hT2 : (!hasB (s.1 ++ [x]) t.a.toNat) = false := by rw [hta, Int.toNat_natCast, has_app]; simp
      have keep : ∀ l : List E2, (∀ u ∈ l, 1 ≤ u.a) → (∀ u ∈ l, u.a ≠ (x : Int)) → leftOf (s.1 ++ [x]) l = leftOf s.1 l := by
        intro l hl0 hl
        unfold leftOf
        apply List.filter_congr
        intro u hu
        have h3 := hl u hu
        have h4 := hl0 u hu
        rw [has_app, decide_eq_false (by omega), Bool.or_false]
      have eA : leftOf s.1 (l1 ++ t :: l2) = leftOf s.1 l1 ++ t :: leftOf s.1 l2 := by
        unfold leftOf; rw [List.filter_append, List.filter_cons, if_pos hT]
      have eB : leftOf (s.1 ++ [x]) (l1 ++ t :: l2) = leftOf s.1 l1 ++ leftOf s.1 l2 := by
        rw [← keep l1 (fun u hu => hpos u (by simp [hu])) h1, ← keep l2 (fun u hu => hpos u (by simp [hu])) h2]
        unfold leftOf; rw [List.filter_append, List.filter_cons, if_neg (by rw [hT2]; simp)]
      dsimp only
      rw [eA, eB, find_at (l1 := leftOf s.1 l1) (l2 := leftOf s.1 l2) (fun u hu => decide_eq_false (h1 u (List.mem_filter.1 hu).1)) (decide_eq_true hta)]
      dsimp only
      refine ⟨?_, by simp; omega, by simp, .inr ⟨t.b, rfl, by simp⟩⟩
      rw [erase_at]
      congr 2
      simp [List.getD]
/-- What both ways keep: gates that fit, not too many. -/
structure PlOk (n : Nat) (ts : List E2) (k : Nat) (s : List Nat × List E3) : Prop where
  sum : s.1.length + (leftOf s.1 ts).length = ts.length
  len : s.2.length ≤ k + 2 * s.1.length
  ok : ∀ g ∈ s.2, GateOk (n : Int) g
theorem PlOk.done {n k : Nat} {ts : List E2} {s : List Nat × List E3} (h : PlOk n ts k s) : s.1.length ≤ ts.length := by have := h.sum; omega
theorem place_ok {n k : Nat} {ts : List E2} (hn : n ≤ 5) (hr : Rise ts) (R : List Nat) {s : List Nat × List E3} {q : Nat} (hq : q < n) (h : PlOk n ts k s) : PlOk n ts k (spQ ts R s q) := by
  obtain ⟨h1, h2, h3, h4⟩ := place_one hr R s q
  refine ⟨by rw [h2]; exact h.sum, ?_, ?_⟩
  · have := h.len
    rcases h4 with e | ⟨c, e, e2⟩
    · rw [e]; omega
    · rw [e, List.length_append]; have := rotF_len (q : Int) c; omega
  · intro g hg
    rcases h4 with e | ⟨c, e, e2⟩
    · rw [e] at hg; exact h.ok g hg
    · rw [e] at hg
      rcases List.mem_append.1 hg with hg | hg
      · exact h.ok g hg
      · exact rot_ok hn hq hg
theorem place_all {n k : Nat} {ts : List E2} (hn : n ≤ 5) (hr : Rise ts) (R : List Nat) : ∀ (qs : List Nat) (s : List Nat × List E3), (∀ q ∈ qs, q < n) → PlOk n ts k s →
    PlOk n ts k (qs.foldl (spQ ts R) s) ∧ (leftOf (qs.foldl (spQ ts R) s).1 ts, (qs.foldl (spQ ts R) s).2) = qs.foldl (imP R) (leftOf s.1 ts, s.2)
  | [], s, _, h => ⟨h, rfl⟩
  | q :: qs, s, hq, h => by
    obtain ⟨i1, i2⟩ := place_all hn hr R qs (spQ ts R s q) (fun x hx => hq x (by simp [hx])) (place_ok hn hr R (hq q (by simp)) h)
    rw [List.foldl_cons, List.foldl_cons, ← (place_one hr R s q).1]
    exact ⟨i1, i2⟩
structure PlInv (n : Nat) (ts : List E2) (k : Nat) (s : PlS) : Prop where
  len : s.R.length = n
  small : Small s.R
  at_ : ∀ q ∈ s.at_, q < n
  few : s.at_.length ≤ 5
  ok : PlOk n ts k (s.done, s.out)
theorem leftOf_nil (ts : List E2) : leftOf [] ts = ts := by unfold leftOf hasB; simp
theorem plTo_inv {d : Circ} {n : Nat} {ts : List E2} (hr : Rise ts) (hnet : netB d = true) (hn : d.n = (n : Int)) : ∀ k, k ≤ d.gs.length → PlInv n ts k (plTo n d.gs ts k)
  | 0, _ => by
    have hnn := net_n hnet
    refine ⟨idN_len n, idN_small (by omega), fun q hq => by simpa [plTo] using hq, by simp [plTo]; omega, ?_, ?_, ?_⟩
    · show 0 + (leftOf [] ts).length = _; rw [leftOf_nil]; omega
    · exact Nat.zero_le _
    · intro g hg; cases hg
  | k + 1, hk => by
    have hnn := net_n hnet
    have ih := plTo_inv hr hnet hn k (by omega)
    obtain ⟨a, b, hg, ha, hb, hab⟩ := net_gate hnet (show k < d.gs.length by omega)
    have hp := (place_all (k := k) (by omega) hr (plTo n d.gs ts k).R (plTo n d.gs ts k).at_ _ ih.at_ ih.ok).1
    rw [plTo_succ (by omega), hg]
    refine ⟨by simp [PlS.next, cxN_len]; exact ih.len, ih.small.cx _ _, ?_, by simp [PlS.next], ?_, ?_, ?_⟩
    · intro q hq
      simp only [PlS.next, Int.toNat_natCast, List.mem_singleton] at hq
      omega
    · exact hp.sum
    · show (_ ++ [_]).length ≤ _
      rw [List.length_append]
      have := hp.len
      unfold PlS.next PlS.place
      dsimp only [List.length_singleton]
      omega
    · intro g hg2
      rcases List.mem_append.1 hg2 with h | h
      · exact hp.ok g h
      · simp only [List.mem_singleton] at h
        subst h
        unfold GateOk
        dsimp only
        omega
theorem im_eq {d : Circ} {n : Nat} {ts : List E2} (hr : Rise ts) (hnet : netB d = true) (hn : d.n = (n : Int)) : ∀ k, k ≤ d.gs.length → imTo n d.gs ts k = ((plTo n d.gs ts k).R, (leftOf ((plTo n d.gs ts k).place ts).1 ts, ((plTo n d.gs ts k).place ts).2))
  | 0, _ => by
    have hnn := net_n hnet
    have hi := plTo_inv hr hnet hn 0 (by omega)
    have := (place_all (k := 0) (by omega) hr (plTo n d.gs ts 0).R (plTo n d.gs ts 0).at_ _ hi.at_ hi.ok).2
    unfold PlS.place
    rw [this]
    show (idN n, im0 n ts n) = (idN n, _)
    unfold im0
    show _ = (idN n, (List.range n).foldl (imP (idN n)) (leftOf [] ts, []))
    rw [leftOf_nil]
  | k + 1, hk => by
    have hnn := net_n hnet
    have ih := im_eq hr hnet hn k (by omega)
    have hi := plTo_inv hr hnet hn (k + 1) hk
    have hp := (place_all (k := k + 1) (by omega) hr (plTo n d.gs ts (k + 1)).R (plTo n d.gs ts (k + 1)).at_ _ hi.at_ hi.ok).2
    obtain ⟨a, b, hg, _⟩ := net_gate hnet (show k < d.gs.length by omega)
    rw [imTo_succ (by omega), ih]
    unfold PlS.place at hp ⊢
    rw [hp]
    rw [plTo_succ (by omega)]
    rfl
/-- The circuit with the rotations placed. -/
noncomputable def plG (d : Circ) (ts : List E2) : Option Circ :=
  if netB d = true ∧ TermsOk d.n ts ∧ (plEnd d.n.toNat d.gs ts).1.length = ts.length ∧ (plEnd d.n.toNat d.gs ts).2.length ≤ 400 then some ⟨d.n, (plEnd d.n.toNat d.gs ts).2⟩ else none
theorem terms_lt {n : Int} {ts : List E2} (h : TermsOk n ts) : ∀ j i, i < j → j < ts.length → (ts.getD i ⟨0, 0⟩).a < (ts.getD j ⟨0, 0⟩).a
  | 0, i, h1, _ => by omega
  | j + 1, i, h1, h2 => by
    have h3 := h (j + 1) h2
    unfold termB at h3
    simp only [Bool.and_eq_true, Bool.or_eq_true, decide_eq_true_eq, Nat.add_sub_cancel] at h3
    have h4 : (ts.getD j ⟨0, 0⟩).a < (ts.getD (j + 1) ⟨0, 0⟩).a := h3.2.resolve_left (by omega)
    rcases Nat.lt_or_ge i j with hij | hij
    · have := terms_lt h j i hij (by omega); omega
    · have : i = j := by omega
      subst this; exact h4
theorem rise_of {n : Int} {ts : List E2} (h : TermsOk n ts) : Rise ts := by
  refine ⟨fun t ht => ?_, ?_⟩
  · obtain ⟨k, hk, rfl⟩ := List.getElem_of_mem ht
    have := (term_ok h hk).1
    simpa [List.getD, hk] using this
  · rw [List.pairwise_iff_getElem]
    intro i j hi hj hij
    have := terms_lt h j i hij hj
    simpa [List.getD, hi, hj] using this
theorem plEnd_ok {d : Circ} {n : Nat} {ts : List E2} (ht : TermsOk d.n ts) (hnet : netB d = true) (hn : d.n = (n : Int)) : PlOk n ts d.gs.length (plEnd n d.gs ts) := by
  have hnn := net_n hnet
  have hi := plTo_inv (rise_of ht) hnet hn d.gs.length (Nat.le_refl _)
  exact (place_all (by omega) (rise_of ht) _ _ _ hi.at_ hi.ok).1
/-- What the program leaves, in the reference's words. -/
theorem im_end {d : Circ} {n : Nat} {ts : List E2} (ht : TermsOk d.n ts) (hnet : netB d = true) (hn : d.n = (n : Int)) :
    (imTo n d.gs ts d.gs.length).2.2 = (plEnd n d.gs ts).2 ∧ ((imTo n d.gs ts d.gs.length).2.1.length = 0 ↔ (plEnd n d.gs ts).1.length = ts.length) ∧ circB ⟨d.n, (plEnd n d.gs ts).2⟩ = decide ((plEnd n d.gs ts).2.length ≤ 400) := by
  have hnn := net_n hnet
  have h := im_eq (rise_of ht) hnet hn d.gs.length (Nat.le_refl _)
  have hk := plEnd_ok ht hnet hn
  rw [h]
  refine ⟨rfl, ?_, ?_⟩
  · have := hk.sum
    show (leftOf (plEnd n d.gs ts).1 ts).length = 0 ↔ _
    omega
  · by_cases hl : (plEnd n d.gs ts).2.length ≤ 400
    · rw [decide_eq_true hl]
      exact decide_eq_true ⟨⟨hnn.1, hnn.2.1⟩, hl, fun g hg => by rw [hn]; exact hk.ok g hg⟩
    · rw [decide_eq_false hl]; exact circB_l hl
end Go.Proofs.Ytdkfoleippncnaa
namespace Go.Proofs.Ytdkfoleippncnaa
set_option linter.unusedSimpArgs false
set_option linter.unusedVariables false
set_option linter.unnecessarySimpa false
set_option maxRecDepth 200000
open Go.ChangeShapes Go.WideShapes Go.ChangeAt Go.RowKit

def setM (xs : List Value) : Nat → List Value → List Value
  | _, [] => xs
  | o, v :: r => setM (xs.set o v) (o + 1) r
theorem setM_eq : ∀ (vs xs : List Value) (o : Nat), o + vs.length ≤ xs.length → setM xs o vs = xs.take o ++ vs ++ xs.drop (o + vs.length)
  | [], xs, o, _ => by simp [setM]
  | v :: r, xs, o, h => by
    simp only [List.length_cons] at h
    unfold setM
    rw [setM_eq r (xs.set o v) (o + 1) (by rw [List.length_set]; omega)]
    have ho : o < xs.length := by omega
    have e1 : (xs.set o v).take (o + 1) = xs.take o ++ [v] := by
      rw [List.take_succ_eq_append_getElem (by rw [List.length_set]; exact ho), List.take_set_of_le (Nat.le_refl _)]
      simp
    rw [e1, List.drop_set_of_lt (by omega)]
    simp [Nat.add_assoc, Nat.add_comm 1]
theorem own_setCells {base g n cap sz : Nat} {t : TypeId} : ∀ (vs : List Value) (o : Nat) {w : World} {xs : List Value}, w.ownsRow base t sz (.slice (some ⟨g, 0, none⟩) n cap) n xs →
    (w.setCells g o vs).ownsRow base t sz (.slice (some ⟨g, 0, none⟩) n cap) n (setM xs o vs) ∧ w.grownBy (w.setCells g o vs) (some g)
  | [], o, w, xs, h => ⟨h, ⟨rfl, rfl, rfl, Nat.le_refl _, fun _ _ _ => rfl⟩⟩
  | v :: r, o, w, xs, h => by
    obtain ⟨h1, g1⟩ := World.ownsRow.stored h o v
    obtain ⟨h2, g2⟩ := own_setCells r (o + 1) h1
    exact ⟨h2, ⟨g2.os.trans g1.os, g2.tape.trans g1.tape, g2.output.trans g1.output, Nat.le_trans g1.size g2.size, fun k hk hn => (g2.block k (Nat.lt_of_lt_of_le hk g1.size) hn).trans (g1.block k hk hn)⟩⟩
/-- A row that is cut shorter. -/
theorem own_cut {w : World} {base g n m cap sz : Nat} {t : TypeId} {xs : List Value} (h : w.ownsRow base t sz (.slice (some ⟨g, 0, none⟩) n cap) n xs) (hm : m ≤ n) : w.ownsRow base t sz (.slice (some ⟨g, 0, none⟩) m cap) m (xs.take (m * sz)) := by
  obtain ⟨h0, h1⟩ := h
  have hle : m * sz ≤ n * sz := Nat.mul_le_mul_right _ hm
  refine ⟨by rw [List.length_take]; omega, ?_⟩
  rcases h1 with ⟨e, _⟩ | ⟨g', cap', cur, e, hb, hg, h2, h3, h4, h5⟩
  · cases e
  · injection e with e1 e2 e3; subst e3; injection e1 with e1; injection e1 with e1; subst e1
    refine .inr ⟨g, cap, cur, rfl, hb, hg, by omega, h3, h4, ?_⟩
    rw [← h5, List.take_take, Nat.min_eq_left hle]
theorem own_caps {w : World} {base g n cap sz : Nat} {t : TypeId} {xs : List Value} (h : w.ownsRow base t sz (.slice (some ⟨g, 0, none⟩) n cap) n xs) : n ≤ cap ∧ cap ≤ 9223372036854775807 := by
  rcases h.2 with ⟨e, _⟩ | ⟨g', cap', cur, e, _, _, h1, h2, _⟩
  · cases e
  · injection e with _ _ e3; subst e3; exact ⟨h1, by simpa [maxLen] using h2⟩
theorem own_cellAt {w : World} {base g n cap sz : Nat} {t : TypeId} {xs : List Value} (h : w.ownsRow base t sz (.slice (some ⟨g, 0, none⟩) n cap) n xs) {j : Nat} {u : Value} (hj : xs[j]? = some u) : w.cell? ⟨g, j, none⟩ = some u := by
  have := World.ownsRow.cells h (g := g) rfl j u hj
  rw [Addr.add_lit, Nat.zero_add] at this
  exact this
/-- clear of one element of two cells. -/
theorem run_clear2 {P : Program} (w : World) (t e ty : TypeId) (a b : Value) (ht : P.underlying t = some (.slice e)) (hv : ∀ w, (zeroValue e).run P w = .ok (.agg #[a, b]) w) (ha : a.oneCell' = true) (hb : b.oneCell' = true) (g o c : Nat)
    (h0 : (w.cell? ⟨g, o, none⟩).isSome = true) (h1 : (w.cell? ⟨g, o + 1, none⟩).isSome = true) (f0 : w.frozen? ⟨g, o, none⟩ = false) (f1 : w.frozen? ⟨g, o + 1, none⟩ = false) :
    (Builtin.clear_ #[t] ty #[.slice (some ⟨g, o, none⟩) 1 c]).run P w = .ok (.tuple #[]) (w.setCells g o [a, b]) := by
  have hzc : (Builtin.zeroCells (Value.agg #[a, b]).cells 1).toList = [a, b] := by
    simp [Builtin.zeroCells]
    apply List.ext_getElem
    · simp [Value.cells]
    · intro i h1 h2
      simp [Value.cells] at h1 ⊢
      match i, h1 with
      | 0, _ => rfl
      | 1, _ => rfl
  have hst := run_storeCells_cells (P := P) g o [a, b] 0 w (fun j hj => by
      rw [Nat.add_zero]
      match j, hj with
      | 0, _ => exact h0
      | 1, _ => exact h1) (fun j hj => by
      rw [Nat.add_zero]
      match j, hj with
      | 0, _ => exact f0
      | 1, _ => exact f1) (by intro v hv'; simp at hv'; rcases hv' with rfl | rfl <;> assumption)
  rw [Nat.add_zero] at hst
  simp [Builtin.clear_, run_underlying ht, hv, hzc, hst]
theorem zero_Term : ∀ w, (zeroValue 90).run Try.prog w = .ok (.agg #[.int .i64 0, .int .i64 0]) w := fun w => by kernel_rfl
theorem flat_take {α : Type} {f : α → List Value} {sz : Nat} (hf : ∀ x, (f x).length = sz) : ∀ (xs : List α) (k : Nat), (xs.flatMap f).take (k * sz) = (xs.take k).flatMap f
  | [], k => by simp
  | x :: xs, 0 => by simp
  | x :: xs, k + 1 => by
    rw [List.flatMap_cons, List.take_succ_cons, List.flatMap_cons, ← flat_take hf xs k, Nat.add_mul, Nat.one_mul, Nat.add_comm, List.take_append, hf, List.take_of_length_le (by rw [hf]; omega), Nat.add_sub_cancel_left]
theorem flat_drop {α : Type} {f : α → List Value} {sz : Nat} (hf : ∀ x, (f x).length = sz) : ∀ (xs : List α) (k : Nat), (xs.flatMap f).drop (k * sz) = (xs.drop k).flatMap f
  | [], k => by simp
  | x :: xs, 0 => by simp
  | x :: xs, k + 1 => by
    rw [List.flatMap_cons, List.drop_succ_cons, ← flat_drop hf xs k, Nat.add_mul, Nat.one_mul, Nat.add_comm, List.drop_append, hf, List.drop_of_length_le (by rw [hf]; omega), Nat.add_sub_cancel_left, List.nil_append]
theorem info_TermP : (Try.prog.info? 90).map (fun i => (i.zero, i.size, i.bytes)) = some (some (.agg #[.int .i64 0, .int .i64 0]), 2, 16) := by kernel_rfl
set_option maxHeartbeats 4000000 in
theorem slices_Delete_Term (g n cap j base : Nat) (ts : List E2) (w : World) (h : w.ownsRow base 90 2 (.slice (some ⟨g, 0, none⟩) n cap) n (ts.flatMap E2.cs)) (hj : j < n) (hn : n ≤ 1048576) :
    Calls Try.prog 109 #[.slice (some ⟨g, 0, none⟩) n cap, .int .i64 (j : Int), .int .i64 ((j : Int) + 1)] w fun e w' => e = .returned (.slice (some ⟨g, 0, none⟩) (n - 1) cap) ∧ w'.ownsRow base 90 2 (.slice (some ⟨g, 0, none⟩) (n - 1) cap) (n - 1) ((ts.eraseIdx j).flatMap E2.cs) ∧ w.grownBy w' (some g) := by
  obtain ⟨i0, hi, hz0, hz1, hz2⟩ := info_parts info_TermP
  have hlen : (ts.flatMap E2.cs).length = n * 2 := h.1
  have hl : ts.length = n := by rw [flat_len E2.len] at hlen; omega
  obtain ⟨hc1, hc2⟩ := own_caps h
  obtain ⟨C, hC⟩ : ∃ C, C = ts.flatMap E2.cs := ⟨_, rfl⟩
  have hCe : ts.eraseIdx j = ts.take j ++ ts.drop (j + 1) := List.eraseIdx_eq_take_drop_succ ts j
  have hE : (ts.eraseIdx j).flatMap E2.cs = C.take (j * 2) ++ C.drop ((j + 1) * 2) := by rw [hC, flat_take E2.len, flat_drop E2.len, ← List.flatMap_append, ← hCe]
  have hone : ∀ u ∈ C, u.oneCell' = true := by rw [hC]; exact flat_one E2.one ts
  rw [← hC] at h hlen
  clear hC hCe
  have hD := h.drew
  obtain ⟨news, hnews⟩ : ∃ news, news = C.drop ((j + 1) * 2) := ⟨_, rfl⟩
  have hnl : news.length = (n - (j + 1)) * 2 := by rw [hnews, List.length_drop, hlen]; omega
  obtain ⟨A, hA, hsrc⟩ : ∃ A : Addr, (if cap = j + 1 then some (⟨g, 0, none⟩ : Addr) else some ⟨g, (j + 1) * 2, none⟩) = some A ∧ Hid (∀ t u, news[t]? = some u → w.drew.cell? (A.add t) = some u) := by
    by_cases hcj : cap = j + 1
    · refine ⟨⟨g, 0, none⟩, by simp [hcj], fun t u hu => ?_⟩
      have h0 : news.length = 0 := by rw [hnl]; omega
      rw [List.length_eq_zero_iff.1 h0] at hu
      simp at hu
    · refine ⟨⟨g, (j + 1) * 2, none⟩, by simp [hcj], fun t u hu => ?_⟩
      rw [hnews, List.getElem?_drop] at hu
      rw [Addr.add_lit]
      exact own_cellAt hD hu
  have s1 : Hid (news.length = (n - (j + 1)) * 2) := hnl
  have s2 : Hid (∀ u ∈ news, u.oneCell' = true) := by
    show ∀ u ∈ news, _
    intro u hu
    rw [hnews] at hu
    exact hone u (List.mem_of_mem_drop hu)
  have there : ∀ (W : World) (X : List Value), X.length = n * 2 → W.ownsRow base 90 2 (.slice (some ⟨g, 0, none⟩) n cap) n X → ∀ t, t < n * 2 → (W.cell? ⟨g, t, none⟩).isSome = true ∧ W.frozen? ⟨g, t, none⟩ = false := by
    intro W X hX hW t ht
    refine ⟨?_, World.ownsRow.frozenAt hW t⟩
    rw [own_cellAt hW (j := t) (u := X[t]'(by omega)) (List.getElem?_eq_getElem _)]; rfl
  have s3 : Hid (∀ t, t < news.length → (w.drew.cell? ⟨g, 0 + j * 2 + t, none⟩).isSome = true ∧ w.drew.frozen? ⟨g, 0 + j * 2 + t, none⟩ = false) := by
    intro t ht
    exact there _ C hlen hD _ (by omega)
  obtain ⟨W1, hW1⟩ : ∃ W1, W1 = w.drew.setCells g (0 + j * 2) news := ⟨_, rfl⟩
  obtain ⟨o1, g1⟩ := own_setCells news (0 + j * 2) hD
  rw [← hW1] at o1 g1
  have l1 : (setM C (0 + j * 2) news).length = n * 2 := o1.1
  have hcl : ∀ ty, (Builtin.clear_ #[38] ty #[.slice (some ⟨g, (n - 1) * 2, none⟩) 1 (cap - (n - 1))]).run Try.prog W1 = .ok (.tuple #[]) (W1.setCells g ((n - 1) * 2) [.int .i64 0, .int .i64 0]) :=
    fun ty => run_clear2 W1 _ _ ty _ _ Try.underlying38 zero_Term rfl rfl g ((n - 1) * 2) _ (there W1 _ l1 o1 _ (by omega)).1 (there W1 _ l1 o1 _ (by omega)).1 (there W1 _ l1 o1 _ (by omega)).2 (there W1 _ l1 o1 _ (by omega)).2
  obtain ⟨o2, g2⟩ := own_setCells [.int .i64 0, .int .i64 0] ((n - 1) * 2) o1
  have o3 := own_cut o2 (Nat.sub_le n 1)
  have eX : (setM (setM C (0 + j * 2) news) ((n - 1) * 2) [.int .i64 0, .int .i64 0]).take ((n - 1) * 2) = (ts.eraseIdx j).flatMap E2.cs := by
    rw [hE, setM_eq _ _ _ (by rw [l1]; simp; omega), List.append_assoc, List.take_append_of_le_length (by rw [List.length_take, l1]; omega), List.take_take, Nat.min_self, setM_eq _ _ _ (by rw [hlen, hnl]; omega), Nat.zero_add, hnews]
    rw [List.take_append_of_le_length (by simp [hlen]; omega), List.take_of_length_le (by simp [hlen]; omega)]
  rw [eX] at o3
  have O3 := Lib.hid o3
  have G3 := Lib.hid (show w.grownBy (W1.setCells g ((n - 1) * 2) [.int .i64 0, .int .i64 0]) (some g) from ⟨g2.os.trans g1.os, g2.tape.trans g1.tape, g2.output.trans g1.output, Nat.le_trans g1.size g2.size, fun k hk hne => (g2.block k (Nat.lt_of_lt_of_le hk g1.size) hne).trans (g1.block k hk hne)⟩)
  have hW : Hid (W1 = w.drew.setCells g (0 + j * 2) news) := hW1
  have hjc : j ≤ cap := by omega
  have hjc1 : j + 1 ≤ cap := by omega
  have q1 : j + (n - (j + 1)) = n - 1 := by omega
  have q2 : n - (n - 1) = 1 := by omega
  have b0 : (0 : Int) ≤ (j : Int) + 1 := by omega
  have b1 : (j : Int) + 1 ≤ (n : Int) := by omega
  clear hW1 o1 g1 l1 o2 g2 o3 eX there hE hone h hD hnews hnl hl hlen
  go_enter Try.func109, Try.ntmps109
  go_wp2_with fail
  go_region_law (refine step_append_room rfl (.tmp 22) (.tmp 25) 38 rfl 90 i0 2 Try.underlying38 hi hz1 g 0 j cap (by simp [Act.eval, Act.put]) A (n - (j + 1)) (cap - (j + 1)) news (by simp [Act.eval, Act.put]; done) s1.out hsrc.out s2.out (by omega) s3.out ?_; rw [← hW.out])
  go_wp2_with fail

  go_ret
  exact ⟨rfl, O3.out, G3.out⟩
theorem slices_Clone_Term (v : Value) (ts : List E2) (w : World) (h : RdE w v E2.cs 2 ts) (hn : ts.length ≤ 1048576) :
    Calls Try.prog 105 #[v] w fun e w' => ∃ v', e = .returned v' ∧ OwnE w' w.heap.size 90 v' E2.cs 2 ts ∧ Below w.heap.size w w' := by
  obtain ⟨i0, hi, hz0, hz1, hz2⟩ := info_parts info_TermP
  obtain ⟨A, c, rfl, _⟩ := h.form
  rcases A with _ | ad
  · have h0 : ts = [] := by
      rcases h.cases0 E2.len with ⟨h0, _⟩ | ⟨_, b, off, cap, e, _⟩
      · exact h0
      · cases e
    subst h0
    have hq := fun (W : World) (n c n2 c2 : Nat) => Lib.run_eql_slice_nil (P := Try.prog) W 38 90 none n c n2 c2 Try.underlying38
    clear h
    go_enter Try.func105, Try.ntmps105
    go_wp2_with fail
    go_ret
    exact ⟨_, rfl, OwnE.nil _ _ _, (by repeat (first | exact Below.refl _ _ | assumption | refine Below.drew ?_ | refine below_drewN ?_ _ | refine Below.alloc ?_ (by first | omega | (simp <;> omega)) _ | refine Below.setCell ?_ (by first | omega | (simp <;> omega)) _ | refine Below.trans ?_ (Below.mono (by assumption) (by first | omega | (simp <;> omega)))))⟩
  · have HR := Lib.hid (Reads.below (Reads.of_rd h) (show Below w.heap.size w (w.alloc (.cells #[] 90)) from (by repeat (first | exact Below.refl _ _ | assumption | refine Below.drew ?_ | refine below_drewN ?_ _ | refine Below.alloc ?_ (by first | omega | (simp <;> omega)) _ | refine Below.setCell ?_ (by first | omega | (simp <;> omega)) _ | refine Below.trans ?_ (Below.mono (by assumption) (by first | omega | (simp <;> omega)))))))
    have hq := fun (W : World) (n c n2 c2 : Nat) => Lib.run_eql_slice_nil (P := Try.prog) W 38 90 (some ad) n c n2 c2 Try.underlying38
    clear h
    go_enter Try.func105, Try.ntmps105
    go_wp2_with (at_builtin; refine wpList_append_any _ rfl _ _ 38 rfl w.heap.size 90 i0 (.agg #[.int .i64 0, .int .i64 0]) 2 16 Try.underlying38 hi hz0 hz1 hz2 rfl (by decide) (.slice (some ⟨w.heap.size, 0, none⟩) 0 0) 0 [] rfl (own_lit0 (f := E2.cs) (sz := 2) w w.heap.size 90 w.heap.size rfl (Nat.le_refl _)) w.heap.size (some ad) ts.length c (ts.flatMap E2.cs) rfl HR.out (flat_one E2.one _) (by unfold maxLen; omega) (by omega) (by simp) ?_; intro v1 w1 hown1 hg1 hat1)
    go_ret
    refine ⟨v1, rfl, by simpa [OwnE] using hown1, ?_⟩
    exact Below.grown (show Below w.heap.size w (w.alloc (.cells #[] 90)) from (by repeat (first | exact Below.refl _ _ | assumption | refine Below.drew ?_ | refine below_drewN ?_ _ | refine Below.alloc ?_ (by first | omega | (simp <;> omega)) _ | refine Below.setCell ?_ (by first | omega | (simp <;> omega)) _ | refine Below.trans ?_ (Below.mono (by assumption) (by first | omega | (simp <;> omega)))))) hg1 (by simp) (fun k hk => by simp [Value.ownBlock] at hk; omega)
end Go.Proofs.Ytdkfoleippncnaa
namespace Go.Proofs.Ytdkfoleippncnaa
set_option linter.unusedSimpArgs false
set_option linter.unusedVariables false
set_option linter.unnecessarySimpa false
set_option maxRecDepth 200000
open Go.ChangeShapes Go.WideShapes Go.ChangeAt Go.RowKit

def encTerm (x : E2) : Value := .agg #[.int .i64 x.a, .int .i64 x.b]
set_option maxHeartbeats 2000000 in
theorem slices_IndexFunc_Term (g : Nat) (lb : Array Value) (p : E2 → Bool) (eg : ∀ args w, (callFunc g args).run Try.prog w = .ok (.enter g args) w) (v : Value) (zs : List E2) (w : World) (h : RdE w v E2.cs 2 zs) (hp : PredB g lb encTerm p zs w) :
    Calls Try.prog 107 #[v, .func (.func g) #[] lb] w fun e w' => e = .returned (.int .i64 (idxI p zs)) ∧ Below w.heap.size w w' := by
  rcases h.cases0 E2.len with ⟨rfl, a0, c0, rfl⟩ | ⟨h0, b, off, cap, rfl, hb, hl, hm, hc⟩
  · go_enter Try.func107, Try.ntmps107
    go_wp2_with fail
    refine wp_loop_rounds 1 ?_
    rw [rounds_succ]
    go_wp2_with fail
    go_ret
    exact ⟨rfl, (by repeat (first | exact Below.refl _ _ | assumption | refine Below.drew ?_ | refine below_drewN ?_ _ | refine Below.alloc ?_ (by first | omega | (simp <;> omega)) _ | refine Below.setCell ?_ (by first | omega | (simp <;> omega)) _ | refine Below.trans ?_ (Below.mono (by assumption) (by first | omega | (simp <;> omega)))))⟩
  · clear h
    have Hp := Lib.hid hp; clear hp
    go_enter Try.func107, Try.ntmps107
    go_wp2_with fail
    go_loopg [5, 8] zs.length (fun gg _ i wr => ∃ k : Nat, k ≤ zs.length ∧ zs.length - k ≤ gg ∧ i = .int .i64 k ∧ Hid (∀ j (h : j < zs.length), j < k → p zs[j] = false) ∧ Below w.heap.size w wr)
    case atStart => exact ⟨0, Nat.zero_le _, by omega, rfl, (show ∀ j (h : j < zs.length), j < 0 → p zs[j] = false from fun j h hj => absurd hj (Nat.not_lt_zero _)), Below.refl _ _⟩
    case round =>
      obtain ⟨k, hk, hg, rfl, hpre, hbel⟩ := hrel
      by_cases hlt : k < zs.length
      · obtain ⟨y, hy⟩ : ∃ y, zs[k] = y := ⟨_, rfl⟩
        have q0 : wr.cell? ⟨b, off + k * 2, none⟩ = some (.int .i64 y.a) := (hbel.cell hb).trans (by rw [← hy]; exact hc k hlt 0 _ (by omega) rfl)
        have q1 : wr.cell? ⟨b, off + k * 2 + 1, none⟩ = some (.int .i64 y.b) := (hbel.cell hb).trans (by rw [← hy]; exact hc k hlt 1 _ (by omega) rfl)
        have hcall := Hp.out wr y (by rw [← hy]; exact List.getElem_mem hlt) hbel
        unfold encTerm at hcall
        have i1 : (k : Int) < (zs.length : Int) := by omega
        have Hy := Lib.hid hy; clear hy hc
        cases hq : p y with
        | true =>
          rw [hq] at hcall
          have Hq := Lib.hid hq; clear hq
          go_wp2_with (go_at_fn g; refine hcall.mono ?_; rintro e w2 ⟨rfl, hb2⟩)
          go_ret
          exact ⟨ret_int (idx_hit hlt hpre (by rw [Hy.out]; exact Hq.out)), below_step hbel hb2⟩
        | false =>
          rw [hq] at hcall
          have Hq := Lib.hid hq; clear hq
          go_wp2_with (go_at_fn g; refine hcall.mono ?_; rintro e w2 ⟨rfl, hb2⟩)
          go_roundg (zs.length - (k + 1))
          case measure => omega
          case rel => exact ⟨k + 1, by omega, by omega, by go_num, idx_next hlt hpre (by rw [Hy.out]; exact Hq.out), below_step hbel hb2⟩
      · clear hc
        go_wp2_with fail
        go_ret
        exact ⟨ret_int (idx_miss (by omega) hpre), hbel⟩
end Go.Proofs.Ytdkfoleippncnaa
namespace Go.Proofs.Ytdkfoleippncnaa
set_option linter.unusedSimpArgs false
set_option linter.unusedVariables false
set_option linter.unnecessarySimpa false
set_option maxRecDepth 200000
open Go.ChangeShapes Go.WideShapes Go.ChangeAt Go.RowKit

/-- The program's state: terms left behind box bL, rows behind box bR, gates behind box bO. -/
structure PSt (B bL bR bO n gR capR : Nat) (W0 w : World) (vL vO : Value) (R : List Nat) (L : List E2) (O : List E3) : Prop where
  cR : w.cell? ⟨bR, 0, none⟩ = some (.slice (some ⟨gR, 0, none⟩) n capR)
  cL : w.cell? ⟨bL, 0, none⟩ = some vL
  fL : w.frozen? ⟨bL, 0, none⟩ = false
  cO : w.cell? ⟨bO, 0, none⟩ = some vO
  fO : w.frozen? ⟨bO, 0, none⟩ = false
  rows : OwnN w B gR n capR R
  left : w.ownsRow B 90 2 vL L.length (L.flatMap E2.cs)
  out : w.ownsRow B 104 3 vO O.length (O.flatMap E3.cs)
  apL : ∀ g, vL.ownBlock = some g → g ≠ gR ∧ g ≠ bL ∧ g ≠ bR ∧ g ≠ bO
  apO : ∀ g, vO.ownBlock = some g → g ≠ gR ∧ g ≠ bL ∧ g ≠ bR ∧ g ≠ bO
  apLO : ∀ g, vL.ownBlock = some g → vO.ownBlock ≠ some g
  nR : gR ≠ bL ∧ gR ≠ bR ∧ gR ≠ bO
  nn : bL ≠ bR ∧ bL ≠ bO ∧ bR ≠ bO
  BL : B ≤ bL
  BO : B ≤ bO
  bel : Below B W0 w
section
variable {B bL bR bO n gR capR : Nat} {W0 w w' : World} {vL vO v' : Value} {R : List Nat} {L : List E2} {O : List E3}
theorem PSt.lt (h : PSt B bL bR bO n gR capR W0 w vL vO R L O) : bL < w.heap.size ∧ bR < w.heap.size ∧ bO < w.heap.size ∧ gR < w.heap.size ∧ B ≤ w.heap.size := by
  have h1 := World.block_lt_of_cell? _ _ h.cL
  have h2 := World.block_lt_of_cell? _ _ h.cR
  have h3 := World.block_lt_of_cell? _ _ h.cO
  have h4 := h.rows.lt
  have h5 := h.BL
  dsimp only at h1 h2 h3
  exact ⟨h1, h2, h3, h4.2, by omega⟩
theorem PSt.call (h : PSt B bL bR bO n gR capR W0 w vL vO R L O) (hb : Below w.heap.size w w') : PSt B bL bR bO n gR capR W0 w' vL vO R L O :=
  have hl := h.lt
  ⟨below_cell hb rfl h.cR, below_cell hb rfl h.cL, below_frz hb rfl hl.1 h.fL, below_cell hb rfl h.cO, below_frz hb rfl hl.2.2.1 h.fO, h.rows.below hb rfl, own_below h.left hb rfl, own_below h.out hb rfl, h.apL, h.apO, h.apLO, h.nR, h.nn, h.BL, h.BO, Below.trans h.bel (hb.mono hl.2.2.2.2)⟩
theorem PSt.appO {m : Nat} {rot : List E3} (h : PSt B bL bR bO n gR capR W0 w vL vO R L O) (hm : rot.length = m) (hown : w'.ownsRow B 104 3 v' (O.length + m) (O.flatMap E3.cs ++ rot.flatMap E3.cs))
    (hg : w.grownBy w' vO.ownBlock) (hat : v'.ownBlock = vO.ownBlock ∨ v'.ownBlock = some w.heap.size) :
    w'.cell? ⟨bO, 0, none⟩ = some vO ∧ w'.frozen? ⟨bO, 0, none⟩ = false ∧ w'.cell? ⟨bL, 0, none⟩ = some vL ∧ PSt B bL bR bO n gR capR W0 (w'.setCell ⟨bO, 0, none⟩ v') vL v' R L (O ++ rot) := by
  have hl := h.lt
  have nL : vO.ownBlock ≠ some bL := fun e => (h.apO _ e).2.1 rfl
  have nR : vO.ownBlock ≠ some bR := fun e => (h.apO _ e).2.2.1 rfl
  have nO : vO.ownBlock ≠ some bO := fun e => (h.apO _ e).2.2.2 rfl
  have dO := cell_grown hg h.cO nO
  have fO := frz_grown hg hl.2.2.1 h.fO nO
  have dL := cell_grown hg h.cL nL
  have fL := frz_grown hg hl.1 h.fL nL
  have dR := cell_grown hg h.cR nR
  have hL := World.ownsRow.lt h.left
  have hv : ∀ g, v'.ownBlock = some g → (g ≠ gR ∧ g ≠ bL ∧ g ≠ bR ∧ g ≠ bO) ∧ vL.ownBlock ≠ some g := by
    intro g hg'
    rcases hat with e | e
    · rw [e] at hg'; exact ⟨h.apO g hg', fun e2 => h.apLO g e2 hg'⟩
    · rw [e] at hg'; injection hg' with hg'
      refine ⟨⟨by omega, by omega, by omega, by omega⟩, fun e2 => ?_⟩
      have := (hL g e2).2; omega
  refine ⟨dO, fO, dL, ⟨cell_set_far h.nn.2.2 dR, cell_set_far h.nn.2.1 dL, by rw [World.frozen?_setCell]; exact fL, World.cell?_setCell_same _ _ _ dO, by rw [World.frozen?_setCell]; exact fO, ?_, ?_, ?_, h.apL, fun g hg' => (hv g hg').1, fun g e1 e2 => (hv g e2).2 e1, h.nR, h.nn, h.BL, h.BO, ?_⟩⟩
  · exact own_set_ne (own_other hg h.rows (fun k h1 h2 => by injection h1 with h1; subst h1; exact (h.apO _ h2).1 rfl)) (fun k hk => by injection hk with hk; subst hk; exact h.nR.2.2) _
  · exact own_set_ne (own_other hg h.left (fun k h1 h2 => h.apLO k h1 h2)) (fun k hk => (h.apL k hk).2.2.2) _
  · rw [List.length_append, List.flatMap_append, hm]
    exact own_set_ne hown (fun k hk => (hv k hk).1.2.2.2) _
  · exact Below.setCell (h.bel.grown hg hl.2.2.2.2 (fun k hk => (World.ownsRow.lt h.out k hk).1)) h.BO _
theorem PSt.delL {L' : List E2} (h : PSt B bL bR bO n gR capR W0 w vL vO R L O) (hown : w'.ownsRow B 90 2 v' L'.length (L'.flatMap E2.cs)) (hg : w.grownBy w' vL.ownBlock) (hat : v'.ownBlock = vL.ownBlock) :
    w'.cell? ⟨bL, 0, none⟩ = some vL ∧ w'.frozen? ⟨bL, 0, none⟩ = false ∧ PSt B bL bR bO n gR capR W0 (w'.setCell ⟨bL, 0, none⟩ v') v' vO R L' O := by
  have hl := h.lt
  have nL : vL.ownBlock ≠ some bL := fun e => (h.apL _ e).2.1 rfl
  have nR : vL.ownBlock ≠ some bR := fun e => (h.apL _ e).2.2.1 rfl
  have nO : vL.ownBlock ≠ some bO := fun e => (h.apL _ e).2.2.2 rfl
  have dO := cell_grown hg h.cO nO
  have fO := frz_grown hg hl.2.2.1 h.fO nO
  have dL := cell_grown hg h.cL nL
  have fL := frz_grown hg hl.1 h.fL nL
  have dR := cell_grown hg h.cR nR
  refine ⟨dL, fL, ⟨cell_set_far (Ne.symm h.nn.1) dR, World.cell?_setCell_same _ _ _ dL, by rw [World.frozen?_setCell]; exact fL, cell_set_far (Ne.symm h.nn.2.1) dO, by rw [World.frozen?_setCell]; exact fO, ?_, ?_, ?_, by rw [hat]; exact h.apL, h.apO, by rw [hat]; exact h.apLO, h.nR, h.nn, h.BL, h.BO, ?_⟩⟩
  · exact own_set_ne (own_other hg h.rows (fun k h1 h2 => by injection h1 with h1; subst h1; exact (h.apL _ h2).1 rfl)) (fun k hk => by injection hk with hk; subst hk; exact h.nR.1) _
  · exact own_set_ne hown (fun k hk => by rw [hat] at hk; exact (h.apL k hk).2.1) _
  · exact own_set_ne (own_other hg h.out (fun k h1 h2 => h.apLO k h2 h1)) (fun k hk => (h.apO k hk).2.1) _
  · exact Below.setCell (h.bel.grown hg hl.2.2.2.2 (fun k hk => (World.ownsRow.lt h.left k hk).1)) h.BL _
end
theorem placed11_any (bR qb gR capR n q x : Nat) (R : List Nat) (L : List E2) (w : World) (B : Nat) (hR : OwnN w B gR n capR R) (hc : w.cell? ⟨bR, 0, none⟩ = some (.slice (some ⟨gR, 0, none⟩) n capR)) (hq : w.cell? ⟨qb, 0, none⟩ = some (.int .i64 (q : Int))) (hqn : q < n) (hx : R.getD q 0 = x) :
    PredB 108 #[.pointer (some ⟨bR, 0, none⟩), .pointer (some ⟨qb, 0, none⟩)] encTerm (fun t => decide (t.a = (x : Int))) L w := by
  intro W t _ hb
  have hl := hR.len
  have c1 := own_int_cell hR q (by omega)
  rw [hx] at c1
  replace c1 := below_cell hb rfl c1
  replace hc := below_cell hb rfl hc
  replace hq := below_cell hb rfl hq
  have j1 : (q : Int) < (n : Int) := by omega
  have j0 : (0 : Int) ≤ (q : Int) := by omega
  clear hR hx hb hl
  show Calls Try.prog 108 #[.agg #[.int .i64 t.a, .int .i64 t.b], .pointer (some ⟨bR, 0, none⟩), .pointer (some ⟨qb, 0, none⟩)] W _
  have bb : Below W.heap.size W (W.alloc (.cells #[.int .i64 t.a, .int .i64 t.b] 90)) := (by repeat (first | exact Below.refl _ _ | assumption | refine Below.drew ?_ | refine below_drewN ?_ _ | refine Below.alloc ?_ (by first | omega | (simp <;> omega)) _ | refine Below.setCell ?_ (by first | omega | (simp <;> omega)) _ | refine Below.trans ?_ (Below.mono (by assumption) (by first | omega | (simp <;> omega)))))
  have d1 := below_cell bb rfl c1
  have d2 := below_cell bb rfl hc
  have d3 := below_cell bb rfl hq
  clear c1 hc hq
  go_enter Try.func108, Try.ntmps108
  go_wp2_with fail
  go_quiet (fail)
  go_wp2_with fail
  go_ret
  exact ⟨ret_bool (by rw [Bool.eq_iff_iff]; simp), (by repeat (first | exact Below.refl _ _ | assumption | refine Below.drew ?_ | refine below_drewN ?_ _ | refine Below.alloc ?_ (by first | omega | (simp <;> omega)) _ | refine Below.setCell ?_ (by first | omega | (simp <;> omega)) _ | refine Below.trans ?_ (Below.mono (by assumption) (by first | omega | (simp <;> omega)))))⟩
set_option maxHeartbeats 8000000 in
theorem placed1_any {B bL bR bO n gR capR : Nat} {W0 : World} {vL vO : Value} {R : List Nat} {L : List E2} {O : List E3} (q : Nat) (w : World) (h : PSt B bL bR bO n gR capR W0 w vL vO R L O) (hq : q < n) (hL : L.length ≤ 31) (hO : O.length ≤ 100000) (ht : ∀ t ∈ L, 0 ≤ t.b ∧ t.b ≤ 7) :
    Calls Try.prog 106 #[.int .i64 (q : Int), .pointer (some ⟨bL, 0, none⟩), .pointer (some ⟨bR, 0, none⟩), .pointer (some ⟨bO, 0, none⟩)] w fun e w' => e = .returned (.tuple #[]) ∧ ∃ vL' vO', PSt B bL bR bO n gR capR W0 w' vL' vO' R (imP R (L, O) q).1 (imP R (L, O) q).2 := by
  obtain ⟨i0, hi, hz0, hz1, hz2⟩ := info_parts info_gate
  have hmf : ∀ (fn : Fn) (first cap : Array Value) (w : World), (Instr.makeFunc fn first cap).run Try.prog w = .ok (.func fn first cap) w := fun _ _ _ _ => rfl
  have Eg := Lib.hid (enters_of Try.func108 (by kernel_rfl) rfl)
  obtain ⟨x, hx⟩ : ∃ x, R.getD q 0 = x := ⟨_, rfl⟩
  have H0 := Lib.hid (h.call (show Below w.heap.size w (w.alloc (.cells #[.int .i64 (q : Int)] 3)) from (by repeat (first | exact Below.refl _ _ | assumption | refine Below.drew ?_ | refine below_drewN ?_ _ | refine Below.alloc ?_ (by first | omega | (simp <;> omega)) _ | refine Below.setCell ?_ (by first | omega | (simp <;> omega)) _ | refine Below.trans ?_ (Below.mono (by assumption) (by first | omega | (simp <;> omega)))))))
  have q0 : (w.alloc (.cells #[.int .i64 (q : Int)] 3)).cell? ⟨w.heap.size, 0, none⟩ = some (.int .i64 (q : Int)) := (by repeat (first | (refine Eq.trans (World.cell?_alloc_at _ _ _ _ ?hh) ?_; (case hh => (simp; done)); rfl) | refine cell_alloc_keep _ ?_))
  have c1 := H0.out.cL
  have hP := Lib.hid (placed11_any bR w.heap.size gR capR n q x R L _ B H0.out.rows H0.out.cR q0 hq hx)
  have hRd := Lib.hid (show RdE _ vL E2.cs 2 L from Rd.of_own H0.out.left)
  have hvq : Hid (∀ g, vO.ownBlock = some g → g < w.heap.size) := fun g hg => (World.ownsRow.lt h.out g hg).2
  clear h
  rcases idxI_cases (fun t : E2 => decide (t.a = (x : Int))) L with ⟨hi1, hno⟩ | ⟨j, hi1, hj, hyes, hpre⟩
  · have HI := Lib.hid (show imP R (L, O) q = (L, O) from by unfold imP; rw [hx, find_none hno])
    have HI1 := Lib.hid hi1
    clear hno hi1
    go_enter Try.func106, Try.ntmps106
    go_wp2_with fail
    refine (slices_IndexFunc_Term _ _ _ Eg.out _ L _ hRd.out hP.out).mono ?_; rintro e w1 ⟨rfl, hb1⟩; rw [HI1.out]
    have H1 := Lib.hid (H0.out.call hb1)
    clear hb1 q0 c1
    go_wp2_with fail
    go_end0
    exact ⟨rfl, vL, vO, by rw [HI.out]; exact H1.out⟩
  · obtain ⟨c, hc⟩ : ∃ c, L[j].b = c := ⟨_, rfl⟩
    have HI := Lib.hid (show imP R (L, O) q = (L.eraseIdx j, O ++ rotF (q : Int) c) from by
      unfold imP
      rw [hx, show (L, O).1.findIdx? (fun t => decide (t.a = (x : Int))) = some j from by rw [List.findIdx?_eq_some_iff_getElem]; exact ⟨hj, hyes, fun t htj => by have := hpre t (by omega) htj; simpa using this⟩]
      simp [List.getD, hj, hc])
    have HI1 := Lib.hid hi1
    have hcr := ht L[j] (List.getElem_mem hj)
    rw [hc] at hcr
    obtain ⟨gL, capL, rfl⟩ := Go.Joins.ownsRow_form H0.out.left (by omega)
    have cc : (w.alloc (.cells #[.int .i64 (q : Int)] 3)).cell? ⟨gL, j * 2 + 1, none⟩ = some (.int .i64 c) := by
      refine own_cellAt H0.out.left ?_
      rw [flat_get E2.len L j 1 hj (by omega)]
      simp [E2.cs, hc]
    have hgL := Lib.hid (H0.out.apL gL rfl)
    have hj1 : (j : Int) < (L.length : Int) := by omega
    have hj0 : (0 : Int) ≤ (j : Int) := by omega
    clear hpre hyes hi1 hx hc
    go_enter Try.func106, Try.ntmps106
    go_wp2_with fail
    refine (slices_IndexFunc_Term _ _ _ Eg.out _ L _ hRd.out hP.out).mono ?_; rintro e w1 ⟨rfl, hb1⟩; rw [HI1.out]
    have H1 := Lib.hid (H0.out.call hb1)
    replace q0 := below_cell hb1 rfl q0
    replace cc := below_cell hb1 rfl cc
    clear hb1 c1 H0 hRd hP
    go_wp2_with fail
    have HD := Lib.hid (H1.out.call (show Below w1.heap.size w1 w1.drew from (by repeat (first | exact Below.refl _ _ | assumption | refine Below.drew ?_ | refine below_drewN ?_ _ | refine Below.alloc ?_ (by first | omega | (simp <;> omega)) _ | refine Below.setCell ?_ (by first | omega | (simp <;> omega)) _ | refine Below.trans ?_ (Below.mono (by assumption) (by first | omega | (simp <;> omega)))))))
    have k0 := HD.out.cO
    have k1 := HD.out.cL
    have fO := HD.out.fO
    replace q0 := cell_drew q0
    replace cc := cell_drew cc
    obtain ⟨aO, cO, rfl⟩ := own_form HD.out.out
    clear H1
    refine AnyB.begin (S := (fun w' => w'.cell? ⟨bO, 0, none⟩ = some (.slice aO O.length cO) ∧ w'.cell? ⟨w.heap.size, 0, none⟩ = some (.int .i64 (q : Int)) ∧ w'.cell? ⟨bL, 0, none⟩ = some (.slice (some ⟨gL, 0, none⟩) L.length capL) ∧ w'.cell? ⟨gL, j * 2 + 1, none⟩ = some (.int .i64 c))) [9] (by kernel_rfl) ?_ (fun hHeld0 => ?_)
    · ((try dsimp only); (first | exact ⟨k0, q0, k1, cc⟩))
    refine AnyB.take (i := 0) (oi := _) (v := ?_) (by simp only [List.getElem?_toArray, List.getElem?_cons_zero, List.getElem?_cons_succ]; rfl) (by kernel_rfl) (by kernel_rfl) (by kernel_rfl) (by kernel_rfl) (by kernel_rfl) (by intro _ _ _ h; exact h) (Or.inl ⟨by rfl, ?_⟩) (by assumption) ?_
    rotate_left
    · (intro w hSw; (try dsimp only at hSw); go_simp; (try (with_reducible rfl)))
    try simp only [Act.put, List.setIfInBounds_toArray, List.set_cons_zero, List.set_cons_succ]
    refine AnyB.take (i := 1) (oi := _) (v := ?_) (by simp only [List.getElem?_toArray, List.getElem?_cons_zero, List.getElem?_cons_succ]; rfl) (by kernel_rfl) (by kernel_rfl) (by kernel_rfl) (by kernel_rfl) (by kernel_rfl) (by intro _ _ _ h; exact h) (Or.inl ⟨by rfl, ?_⟩) (by assumption) ?_
    rotate_left
    · (intro w hSw; (try dsimp only at hSw); go_simp; (try (with_reducible rfl)))
    try simp only [Act.put, List.setIfInBounds_toArray, List.set_cons_zero, List.set_cons_succ]
    refine AnyB.take (i := 2) (oi := _) (v := ?_) (by simp only [List.getElem?_toArray, List.getElem?_cons_zero, List.getElem?_cons_succ]; rfl) (by kernel_rfl) (by kernel_rfl) (by kernel_rfl) (by kernel_rfl) (by kernel_rfl) (by intro _ _ _ h; exact h) (Or.inl ⟨by rfl, ?_⟩) (by assumption) ?_
    rotate_left
    · (intro w hSw; (try dsimp only at hSw); go_simp; (try (with_reducible rfl)))
    try simp only [Act.put, List.setIfInBounds_toArray, List.set_cons_zero, List.set_cons_succ]
    refine AnyB.takeQ (i := 3) (oi := _) (v := ?_) (by simp only [List.getElem?_toArray, List.getElem?_cons_zero, List.getElem?_cons_succ]; rfl) (by kernel_rfl) (by kernel_rfl) (by kernel_rfl) (by intro _ _ _ h; exact h) (Or.inl ⟨by rfl, ?_⟩) ?_
    rotate_left
    · (intro w hSw; (try dsimp only at hSw); go_simp; (try (with_reducible rfl)))
    try simp only [Act.put, List.setIfInBounds_toArray, List.set_cons_zero, List.set_cons_succ]
    refine AnyB.takeQ (i := 4) (oi := _) (v := ?_) (by simp only [List.getElem?_toArray, List.getElem?_cons_zero, List.getElem?_cons_succ]; rfl) (by kernel_rfl) (by kernel_rfl) (by kernel_rfl) (by intro _ _ _ h; exact h) (Or.inl ⟨by rfl, ?_⟩) ?_
    rotate_left
    · (intro w hSw; (try dsimp only at hSw); go_simp; (try (with_reducible rfl)))
    try simp only [Act.put, List.setIfInBounds_toArray, List.set_cons_zero, List.set_cons_succ]
    refine AnyB.takeQ (i := 5) (oi := _) (v := ?_) (by simp only [List.getElem?_toArray, List.getElem?_cons_zero, List.getElem?_cons_succ]; rfl) (by kernel_rfl) (by kernel_rfl) (by kernel_rfl) (by intro _ _ _ h; exact h) (Or.inl ⟨by rfl, ?_⟩) ?_
    rotate_left
    · (intro w hSw; (try dsimp only at hSw); go_simp; (try (with_reducible rfl)))
    try simp only [Act.put, List.setIfInBounds_toArray, List.set_cons_zero, List.set_cons_succ]
    refine AnyB.take (i := 6) (oi := _) (v := ?_) (by simp only [List.getElem?_toArray, List.getElem?_cons_zero, List.getElem?_cons_succ]; rfl) (by kernel_rfl) (by kernel_rfl) (by kernel_rfl) (by kernel_rfl) (by kernel_rfl) (by intro _ _ _ h; exact h) (Or.inl ⟨by rfl, ?_⟩) (by assumption) ?_
    rotate_left
    · (intro w hSw; (try dsimp only at hSw); go_simp; (try (with_reducible rfl)))
    try simp only [Act.put, List.setIfInBounds_toArray, List.set_cons_zero, List.set_cons_succ]
    refine AnyB.each (rs := [7]) (by kernel_rfl) (by simp) ?_
    refine EachB.cons rfl (fun K hK hB => ?_) ?_
    · skip
      (go_simp; go_at_call 64; refine (impl_rotation_any (q : Int) c _ hcr.1 hcr.2).mono ?_; rintro e w3 ⟨v3, rfl, ho3, hb3⟩; obtain ⟨a3, c3, rfl⟩ := ho3.forms; have RR := Lib.hid (Reads.of_rd ho3.rd); have H3 := Lib.hid (HD.out.call hb3); replace q0 := below_cell hb3 rfl q0; replace cc := below_cell hb3 rfl cc; clear hb3 ho3 HD k0 k1 fO; have k0 := H3.out.cO; have k1 := H3.out.cL; dsimp only)
      refine hK.out _ _ ?_ (fun hHeld1 => ?_)
      · ((try dsimp only); (first | exact ⟨k0, q0, k1, cc⟩))
      clear hB hK K hHeld0
      refine AnyB.each (rs := [8]) (by kernel_rfl) (by simp) ?_
      refine EachB.cons rfl (fun K hK hB => ?_) ?_
      · skip
        (refine step_append_any _ (by rfl) (.tmp 11) (.tmp 18) 28 (by rfl) B 104 i0 (.agg #[.int .i64 0, .int .i64 0, .int .i64 0]) 3 24 Try.underlying28 hi hz0 hz1 hz2 rfl (by omega) _ O.length _ (by rfl) H3.out.out w3.heap.size a3 (rotF (q : Int) c).length c3 _ (by rfl) RR.out (flat_one E3.one _) (by have := rotF_len (q : Int) c; unfold maxLen; omega) (by have := rotF_len (q : Int) c; omega) H3.out.lt.2.2.2.2 ?_; intro v4 w4 hown4 hg4 hat4; obtain ⟨a4, c4, rfl⟩ := own_form hown4; obtain ⟨d4, e4, l4, hST⟩ := PSt.appO H3.out rfl hown4 hg4 hat4; have H4 := Lib.hid hST; replace q0 := cell_grown hg4 q0 (fun e => by have h9 := hvq.out _ e; omega); replace cc := cell_grown hg4 cc (fun e => H3.out.apLO _ rfl e); clear hown4 hg4 hat4 hST H3 RR k0 k1; have k0 := d4; have k1 := l4)
        refine hK.out _ _ ?_ (fun hHeld2 => ?_)
        · ((try dsimp only); (first | exact ⟨k0, q0, k1, cc⟩))
        clear hB hK K hHeld1
        refine AnyB.each (rs := [9]) (by kernel_rfl) (by simp) ?_
        refine EachB.cons rfl (fun K hK hB => ?_) ?_
        · skip
          go_simp
          refine hB.out _ _ rfl ?_
          clear hB hK K
          refine AnyB.none (by kernel_rfl) ?_ _
          have k5 := H4.out.cL
          have f5 := H4.out.fL
          clear q0 cc k0 k1 d4 e4 l4
          go_wp2_with (go_at_call 109; refine (slices_Delete_Term gL L.length capL j B L _ H4.out.left hj (by omega)).mono ?_; rintro e w5 ⟨rfl, hown5, hg5⟩; obtain ⟨d5, e5, hS5⟩ := PSt.delL (L' := L.eraseIdx j) (v' := .slice (some ⟨gL, 0, none⟩) (L.length - 1) capL) H4.out (by rw [List.length_eraseIdx, if_pos hj]; exact hown5) hg5 rfl; have H5 := Lib.hid hS5; clear hown5 hg5 hS5 k5 f5)
          go_end0
          exact ⟨rfl, _, _, by rw [HI.out]; exact H5.out⟩
        exact EachB.nil
      exact EachB.nil
    exact EachB.nil
end Go.Proofs.Ytdkfoleippncnaa
namespace Go.Proofs.Ytdkfoleippncnaa
set_option linter.unusedSimpArgs false
set_option linter.unusedVariables false
set_option linter.unnecessarySimpa false
set_option maxRecDepth 200000
open Go.ChangeShapes Go.WideShapes Go.ChangeAt Go.RowKit

/-- What the program's rounds keep. -/
structure ImB (ts : List E2) (m : Nat) (s : List E2 × List E3) : Prop where
  sub : ∀ t ∈ s.1, t ∈ ts
  len : s.1.length ≤ ts.length
  few : s.2.length ≤ m
theorem imP_ok {ts : List E2} {m : Nat} {s : List E2 × List E3} (R : List Nat) (q : Nat) (h : ImB ts m s) : ImB ts (m + 2) (imP R s q) := by
  unfold imP
  split
  · refine ⟨fun t ht => h.sub t (List.mem_of_mem_eraseIdx ht), Nat.le_trans (List.length_eraseIdx_le _ _) h.len, ?_⟩
    have := h.few
    have h2 := rotF_len (q : Int) ((s.1.getD (by assumption) ⟨0, 0⟩).b)
    rw [List.length_append]; omega
  · exact ⟨h.sub, h.len, by have := h.few; omega⟩
theorem im0_ok (n : Nat) (ts : List E2) : ∀ k, ImB ts (2 * k) (im0 n ts k)
  | 0 => ⟨fun t ht => ht, Nat.le_refl _, Nat.le_refl _⟩
  | k + 1 => by rw [im0_succ]; exact imP_ok _ _ (im0_ok n ts k)
theorem imTo_ok (n : Nat) (gs : List E3) (ts : List E2) : ∀ k, k ≤ gs.length → ImB ts (2 * n + 3 * k) (imTo n gs ts k).2
  | 0, _ => im0_ok n ts n
  | k + 1, hk => by
    have ih := imTo_ok n gs ts k (by omega)
    rw [imTo_succ (by omega)]
    have := imP_ok (m := 2 * n + 3 * k + 1) (ts := ts) (cxN (imTo n gs ts k).1 (gs.getD k ⟨0, 0, 0⟩).b.toNat (gs.getD k ⟨0, 0, 0⟩).c.toNat) (s := ((imTo n gs ts k).2.1, (imTo n gs ts k).2.2 ++ [gs.getD k ⟨0, 0, 0⟩])) (gs.getD k ⟨0, 0, 0⟩).c.toNat ⟨ih.sub, ih.len, by simp; exact ih.few⟩
    exact this
theorem imTo_row {n : Nat} (hn : n ≤ 5) (gs : List E3) (ts : List E2) : ∀ k, k ≤ gs.length → (imTo n gs ts k).1.length = n ∧ Small (imTo n gs ts k).1
  | 0, _ => ⟨idN_len n, idN_small hn⟩
  | k + 1, hk => by
    obtain ⟨h1, h2⟩ := imTo_row hn gs ts k (by omega)
    rw [imTo_succ (by omega)]
    exact ⟨by simp [imN, cxN_len]; exact h1, h2.cx _ _⟩
theorem term_b {n : Int} {ts : List E2} (h : TermsOk n ts) : ∀ t ∈ ts, 0 ≤ t.b ∧ t.b ≤ 7 := by
  intro t ht
  obtain ⟨k, hk, rfl⟩ := List.getElem_of_mem ht
  have h1 := (term_ok h hk).2.2
  have e : ts.getD k ⟨0, 0⟩ = ts[k] := by simp [List.getD, hk]
  rw [e] at h1
  omega
theorem PSt.mid {B bL bR bO n gR capR : Nat} {W0 w : World} {vL vO : Value} {R : List Nat} {L : List E2} {O : List E3} (h : PSt B bL bR bO n gR capR W0 w vL vO R L O) (b x : Nat) :
    PSt B bL bR bO n gR capR W0 ((w.setCell ⟨gR, b, none⟩ (.int .i64 (x : Int))).drew) vL vO (R.set b x) L O := by
  have hR := h.rows.lt
  have bb : Below (w.setCell ⟨gR, b, none⟩ (.int .i64 (x : Int))).heap.size (w.setCell ⟨gR, b, none⟩ (.int .i64 (x : Int))) (w.setCell ⟨gR, b, none⟩ (.int .i64 (x : Int))).drew := (by repeat (first | exact Below.refl _ _ | assumption | refine Below.drew ?_ | refine below_drewN ?_ _ | refine Below.alloc ?_ (by first | omega | (simp <;> omega)) _ | refine Below.setCell ?_ (by first | omega | (simp <;> omega)) _ | refine Below.trans ?_ (Below.mono (by assumption) (by first | omega | (simp <;> omega)))))
  refine ⟨cell_set_far (Ne.symm h.nR.2.1) h.cR, cell_set_far (Ne.symm h.nR.1) h.cL, by show (w.setCell _ _).frozen? _ = false; rw [World.frozen?_setCell]; exact h.fL, cell_set_far (Ne.symm h.nR.2.2) h.cO, by show (w.setCell _ _).frozen? _ = false; rw [World.frozen?_setCell]; exact h.fO, ?_, ?_, ?_, h.apL, h.apO, h.apLO, h.nR, h.nn, h.BL, h.BO, Below.drew (Below.setCell h.bel hR.1 _)⟩
  · exact (h.rows.set b x).below bb rfl
  · exact own_below (own_set_ne (p := ⟨gR, b, none⟩) h.left (fun g' hg' => (h.apL g' hg').1) _) bb rfl
  · exact own_below (own_set_ne (p := ⟨gR, b, none⟩) h.out (fun g' hg' => (h.apO g' hg').1) _) bb rfl
theorem ret_sb {v : Value} {a b : Bool} (h : a = b) : Ending.returned (.tuple #[v, .bool a]) = .returned (.tuple #[v, .bool b]) := by rw [h]
theorem plG_len (d : Circ) (ts : List E2) : ((plG d ts).getD Circ.zero).gs.length ≤ 1000000 := by
  unfold plG; split
  · next h => simp; omega
  · simp [Circ.zero]
set_option maxHeartbeats 16000000 in
theorem impl_placed_any (n : Nat) (v u : Value) (d : Circ) (ts : List E2) (w : World) (h : RdE w v E3.cs 3 d.gs) (k : RdE w u E2.cs 2 ts) (hnet : netB d = true) (hn : d.n = (n : Int)) (ht : TermsOk d.n ts) :
    Calls Try.prog 54 #[.int .i64 (n : Int), v, u] w fun e w' => ∃ vO, e = .returned (.tuple #[vO, .bool (decide ((plEnd n d.gs ts).1.length = ts.length))]) ∧ OwnE w' w.heap.size 104 vO E3.cs 3 (plEnd n d.gs ts).2 ∧ Below w.heap.size w w' := by
  obtain ⟨i0, hi, hz0, hz1, hz2⟩ := info_parts info_gate
  have hmf : ∀ (fn : Fn) (first cap : Array Value) (w : World), (Instr.makeFunc fn first cap).run Try.prog w = .ok (.func fn first cap) w := fun _ _ _ _ => rfl
  have hnn := net_n hnet
  have hfew := terms_few (show 1 ≤ d.n ∧ d.n ≤ 5 from ⟨hnn.1, hnn.2.1⟩) ht
  have n1 : 1 ≤ n := by omega
  have n5 : n ≤ 5 := by omega
  have HE := Lib.hid (im_end ht hnet hn)
  have HT := Lib.hid (term_b ht)
  have HB := Lib.hid hnet
  have HN := Lib.hid hn
  have hgl : d.gs.length ≤ 400 := hnn.2.2
  obtain ⟨A, c, rfl, Hc⟩ := gate_at h
  have K := Lib.hid k
  obtain ⟨A2, c2, rfl, _⟩ := k.form
  clear h k hnet hn ht hnn
  go_enter Try.func54, Try.ntmps54
  go_wp2_with fail
  refine (impl_identityLinear_any (n : Int) _ (by omega) (by omega)).mono ?_; rintro e w1 ⟨v1, rfl, ho1, hb1⟩
  rw [Int.toNat_natCast, idN_ints] at ho1
  obtain ⟨gR, capR, hv1, hg1a, hg1b⟩ := own_ints ho1 (by rw [idN_len]; omega)
  rw [idN_len] at hv1
  subst hv1
  have z1 := hb1.size
  have O1 := Lib.hid ho1
  have bw1 := Lib.hid (show Below w.heap.size w w1 from hb1)
  clear hb1 ho1
  have hfd : ∀ w : World, (Instr.field 51 (.agg #[.slice (some ⟨gR, 0, none⟩) n capR]) 0).run Try.prog w = .ok (.slice (some ⟨gR, 0, none⟩) n capR) w := fun _ => by kernel_rfl
  go_wp2_with fail
  refine (slices_Clone_Term _ ts _ (Rd.below K.out bw1.out rfl) (by omega)).mono ?_; rintro e w2 ⟨vL, rfl, ho2, hb2⟩
  obtain ⟨aL, cL, rfl⟩ := ho2.forms
  have z2 := hb2.size
  have R0 := Lib.hid (show OwnN w2 w.heap.size gR n capR (idN n) from by have h9 := OwnI.below O1.out hb2 rfl; have h8 := OwnN.of (M := idN n) (by rw [idN_len]; exact h9); rw [idN_len] at h8; exact h8)
  have apL0 := Lib.hid (fun g (hg : (Value.slice aL ts.length cL).ownBlock = some g) => show w1.heap.size ≤ g ∧ g < w2.heap.size from ho2.lt g hg)
  have L0 := Lib.hid (OwnE.le ho2 (base' := w.heap.size) (by omega))
  have bw2 := Lib.hid (show Below w.heap.size w w2 from Below.trans bw1.out (hb2.mono (by omega)))
  clear hb2 ho2 O1 bw1
  go_wp2_with fail
  have S0 : Hid (PSt w.heap.size (w2.heap.size + 1 + 1) (w2.heap.size + 1) (w2.heap.size + 1 + 1 + 1) n gR capR w ((((w2.alloc (.cells #[] 104)).alloc (.cells #[.slice (some ⟨gR, 0, none⟩) n capR] 44)).alloc (.cells #[.slice aL ts.length cL] 38)).alloc (.cells #[.slice (some ⟨w2.heap.size, 0, none⟩) 0 0] 28)) (.slice aL ts.length cL) (.slice (some ⟨w2.heap.size, 0, none⟩) 0 0) (idN n) ts []) := by
    have b1 : Below w2.heap.size w2 ((((w2.alloc (.cells #[] 104)).alloc (.cells #[.slice (some ⟨gR, 0, none⟩) n capR] 44)).alloc (.cells #[.slice aL ts.length cL] 38)).alloc (.cells #[.slice (some ⟨w2.heap.size, 0, none⟩) 0 0] 28)) := (by repeat (first | exact Below.refl _ _ | assumption | refine Below.drew ?_ | refine below_drewN ?_ _ | refine Below.alloc ?_ (by first | omega | (simp <;> omega)) _ | refine Below.setCell ?_ (by first | omega | (simp <;> omega)) _ | refine Below.trans ?_ (Below.mono (by assumption) (by first | omega | (simp <;> omega)))))
    have o1 := own_lit0 (f := E3.cs) (sz := 3) w2 w.heap.size 104 w2.heap.size rfl (by omega)
    have b2 : Below (w2.alloc (.cells #[] 104)).heap.size (w2.alloc (.cells #[] 104)) ((((w2.alloc (.cells #[] 104)).alloc (.cells #[.slice (some ⟨gR, 0, none⟩) n capR] 44)).alloc (.cells #[.slice aL ts.length cL] 38)).alloc (.cells #[.slice (some ⟨w2.heap.size, 0, none⟩) 0 0] 28)) := (by repeat (first | exact Below.refl _ _ | assumption | refine Below.drew ?_ | refine below_drewN ?_ _ | refine Below.alloc ?_ (by first | omega | (simp <;> omega)) _ | refine Below.setCell ?_ (by first | omega | (simp <;> omega)) _ | refine Below.trans ?_ (Below.mono (by assumption) (by first | omega | (simp <;> omega)))))
    have eO : ∀ g', (Value.slice (some ⟨w2.heap.size, 0, none⟩) 0 0).ownBlock = some g' → g' = w2.heap.size := by
      intro g' hg'
      have h8 : w2.heap.size = g' := by simpa [Value.ownBlock] using hg'
      exact h8.symm
    exact (show PSt _ _ _ _ _ _ _ _ _ _ _ _ _ _ from ⟨(by repeat (first | (refine Eq.trans (World.cell?_alloc_at _ _ _ _ ?hh) ?_; (case hh => (simp; done)); rfl) | refine cell_alloc_keep _ ?_)), (by repeat (first | (refine Eq.trans (World.cell?_alloc_at _ _ _ _ ?hh) ?_; (case hh => (simp; done)); rfl) | refine cell_alloc_keep _ ?_)), (by repeat (first | (refine World.frozen?_alloc_at _ _ _ _ ?hh; case hh => (simp; done)) | (refine frozen_alloc_lt _ ?hh ?_; case hh => first | omega | (simp <;> omega)))), (by repeat (first | (refine Eq.trans (World.cell?_alloc_at _ _ _ _ ?hh) ?_; (case hh => (simp; done)); rfl) | refine cell_alloc_keep _ ?_)), (by repeat (first | (refine World.frozen?_alloc_at _ _ _ _ ?hh; case hh => (simp; done)) | (refine frozen_alloc_lt _ ?hh ?_; case hh => first | omega | (simp <;> omega)))), R0.out.below b1 rfl, own_below L0.out b1 rfl, own_below (show (w2.alloc (.cells #[] 104)).ownsRow w.heap.size 104 3 (.slice (some ⟨w2.heap.size, 0, none⟩) 0 0) 0 [] from o1) b2 rfl, fun g' hg' => by have := apL0.out g' hg'; omega, fun g' hg' => by have := eO g' hg'; omega, fun g' hg' e2 => by have h7 := apL0.out g' hg'; have := eO g' e2; omega, by omega, by omega, by omega, by omega, Below.trans bw2.out (b1.mono (by omega))⟩)
  clear R0 L0 apL0 bw2
  go_loopw [23] (fun i wr => ∃ (k : Nat) (vL vO : Value), k ≤ n ∧ i = .int .i64 k ∧ Hid (PSt w.heap.size (w2.heap.size + 1 + 1) (w2.heap.size + 1) (w2.heap.size + 1 + 1 + 1) n gR capR w wr vL vO (idN n) (im0 n ts k).1 (im0 n ts k).2)) (fun i _ => n - (intOf i).toNat)
  case atStart => exact ⟨0, _, _, Nat.zero_le _, rfl, S0⟩
  case round =>
    obtain ⟨k, vL, vO, hk, rfl, hS⟩ := hrel
    clear S0
    obtain ⟨wo, rfl⟩ : ∃ wo : World, wo = wr := ⟨_, rfl⟩
    by_cases hlt : k < n
    · have i1 : (k : Int) < (n : Int) := by omega
      have hB := im0_ok n ts k
      have hs := im0_succ n ts k
      have HS := Lib.hid hs; clear hs
      obtain ⟨s, hs⟩ : ∃ s, s = im0 n ts k := ⟨_, rfl⟩
      rw [← hs] at hB hS HS
      clear hs
      obtain ⟨L, O⟩ := s
      dsimp only at hS
      have q1 := hB.len; have q2 := hB.few
      dsimp only at q1 q2
      have q3 : ∀ t ∈ L, 0 ≤ t.b ∧ t.b ≤ 7 := fun t ht => HT.out t (hB.sub t ht)
      have Q3 := Lib.hid q3
      clear hB q3
      go_wp2_with fail
      refine (placed1_any k _ hS.out hlt (by omega) (by omega) Q3.out).mono ?_; rintro e x1 ⟨rfl, vL', vO', hS'⟩
      have S1 := Lib.hid hS'; clear hS' hS
      rw [← HS.out] at S1
      go_wp2_with fail
      go_roundw
      case rel => exact ⟨k + 1, vL', vO', by omega, by go_num, S1⟩
      case measure => simp [intOf]; omega
    · have e1 : k = n := by omega
      subst e1
      have i1 : ¬ (k : Int) < (k : Int) := by omega
      go_wp2_with fail
      go_loopw [32] (fun i wr => ∃ (j : Nat) (vL vO : Value), j ≤ d.gs.length ∧ i = .int .i64 j ∧ Hid (PSt w.heap.size (w2.heap.size + 1 + 1) (w2.heap.size + 1) (w2.heap.size + 1 + 1 + 1) k gR capR w wr vL vO (imTo k d.gs ts j).1 (imTo k d.gs ts j).2.1 (imTo k d.gs ts j).2.2)) (fun i _ => d.gs.length - (intOf i).toNat)
      case atStart => exact ⟨0, _, _, Nat.zero_le _, rfl, hS⟩
      case round =>
        clear hS
        obtain ⟨j, vL, vO, hj, rfl, hS⟩ := hrel
        by_cases hlt2 : j < d.gs.length
        · obtain ⟨b0, off, rfl, hb0, t0, t1, t2⟩ := Hc.out j hlt2
          obtain ⟨a, b, hg, ha, hb, hab⟩ := net_gate HB.out hlt2
          rw [HN.out] at ha hb
          have hst := imTo_succ (n := k) (ts := ts) hlt2
          rw [hg] at t0 t1 t2 hst
          have hbel := hS.out.bel
          replace t0 := (hbel.cell hb0).trans t0; replace t1 := (hbel.cell hb0).trans t1; replace t2 := (hbel.cell hb0).trans t2
          obtain ⟨hlen, hsm⟩ := imTo_row n5 d.gs ts j hj
          have hB := imTo_ok k d.gs ts j hj
          obtain ⟨s, hs⟩ : ∃ s, s = imTo k d.gs ts j := ⟨_, rfl⟩
          rw [← hs] at hB hS hst hlen hsm
          clear hs hg hbel
          obtain ⟨R, L, O⟩ := s
          dsimp only at hS hlen hsm hB
          have q1 := hB.len; have q2 := hB.few
          dsimp only at q1 q2
          have Q3 := Lib.hid (fun t (ht : t ∈ L) => HT.out t (hB.sub t ht))
          have HST := Lib.hid hst; clear hst hB
          have i2 : (j : Int) < (d.gs.length : Int) := by omega
          have SW := Lib.hid (hS.out.call (show Below wr.heap.size wr (wr.alloc (.cells #[.int .i64 9, .int .i64 (a : Int), .int .i64 (b : Int)] 104)) from (by repeat (first | exact Below.refl _ _ | assumption | refine Below.drew ?_ | refine below_drewN ?_ _ | refine Below.alloc ?_ (by first | omega | (simp <;> omega)) _ | refine Below.setCell ?_ (by first | omega | (simp <;> omega)) _ | refine Below.trans ?_ (Below.mono (by assumption) (by first | omega | (simp <;> omega)))))))
          obtain ⟨x, hx⟩ : ∃ x, x = R.getD a 0 := ⟨_, rfl⟩
          obtain ⟨y, hy⟩ : ∃ y, y = R.getD b 0 := ⟨_, rfl⟩
          have hxa := hsm.get a
          have hxb := hsm.get b
          have cR := SW.out.cR
          have ca := own_int_cell SW.out.rows a (by omega)
          have cb := own_int_cell SW.out.rows b (by omega)
          have fb := SW.out.rows.frz b
          rw [← hx] at ca hxa; rw [← hy] at cb hxb
          have hxo := bits_xor y x (by omega) (by omega)
          have hr : Hid (cxN R a b = R.set b (y ^^^ x)) := by show _ = _; rw [hx, hy]; rfl
          have j1 : (a : Int) < (k : Int) := by omega
          have j2 : (b : Int) < (k : Int) := by omega
          have j3 : (0 : Int) ≤ (a : Int) := by omega
          have j4 : (0 : Int) ≤ (b : Int) := by omega
          have e0 : (wr.alloc (.cells #[.int .i64 9, .int .i64 (a : Int), .int .i64 (b : Int)] 104)).cell? ⟨wr.heap.size, 0, none⟩ = some (.int .i64 9) := (by repeat (first | (refine Eq.trans (World.cell?_alloc_at _ _ _ _ ?hh) ?_; (case hh => (simp; done)); rfl) | refine cell_alloc_keep _ ?_))
          have e1 : (wr.alloc (.cells #[.int .i64 9, .int .i64 (a : Int), .int .i64 (b : Int)] 104)).cell? ⟨wr.heap.size, 1, none⟩ = some (.int .i64 (a : Int)) := (by repeat (first | (refine Eq.trans (World.cell?_alloc_at _ _ _ _ ?hh) ?_; (case hh => (simp; done)); rfl) | refine cell_alloc_keep _ ?_))
          have e2 : (wr.alloc (.cells #[.int .i64 9, .int .i64 (a : Int), .int .i64 (b : Int)] 104)).cell? ⟨wr.heap.size, 2, none⟩ = some (.int .i64 (b : Int)) := (by repeat (first | (refine Eq.trans (World.cell?_alloc_at _ _ _ _ ?hh) ?_; (case hh => (simp; done)); rfl) | refine cell_alloc_keep _ ?_))
          have LT := Lib.hid hS.out.lt
          have VO := Lib.hid (fun g (hg : vO.ownBlock = some g) => show g < wr.heap.size from (World.ownsRow.lt hS.out.out g hg).2)
          have SM := Lib.hid (SW.out.mid b (y ^^^ x))
          have hne : gR ≠ wr.heap.size := by have := LT.out; omega
          have hnb : w2.heap.size + 1 + 1 + 1 < wr.heap.size := LT.out.2.2.1
          have sW : Hid ((wr.alloc (.cells #[.int .i64 9, .int .i64 (a : Int), .int .i64 (b : Int)] 104)).heap.size = wr.heap.size + 1) := (show _ = _ by simp)
          clear hx hy hab hsm hS SW
          go_wp2_with fail
          generalize hW : wr.alloc (.cells #[.int .i64 9, .int .i64 (a : Int), .int .i64 (b : Int)] 104) = W at *
          clear hW
          go_region
          have x0 : (W.setCell ⟨gR, b, none⟩ (.int .i64 ((y ^^^ x : Nat) : Int))).drew.cell? ⟨wr.heap.size, 0, none⟩ = some (.int .i64 9) := cell_set_far (Ne.symm hne) e0
          have x1 : (W.setCell ⟨gR, b, none⟩ (.int .i64 ((y ^^^ x : Nat) : Int))).drew.cell? ⟨wr.heap.size, 1, none⟩ = some (.int .i64 (a : Int)) := cell_set_far (Ne.symm hne) e1
          have x2 : (W.setCell ⟨gR, b, none⟩ (.int .i64 ((y ^^^ x : Nat) : Int))).drew.cell? ⟨wr.heap.size, 2, none⟩ = some (.int .i64 (b : Int)) := cell_set_far (Ne.symm hne) e2
          have sX : wr.heap.size < (W.setCell ⟨gR, b, none⟩ (.int .i64 ((y ^^^ x : Nat) : Int))).drew.heap.size := by have := sW.out; simp; omega
          clear cR ca cb fb hxo e0 e1 e2 sW
          generalize (W.setCell ⟨gR, b, none⟩ (.int .i64 ((y ^^^ x : Nat) : Int))).drew = X at *
          have xO := SM.out.cO
          have xfO := SM.out.fO
          obtain ⟨aO, cO, rfl⟩ := own_form SM.out.out
          have SX := Lib.hid (SM.out.call (show Below X.heap.size X (X.alloc (.cells #[.int .i64 9, .int .i64 (a : Int), .int .i64 (b : Int)] 104)) from (by repeat (first | exact Below.refl _ _ | assumption | refine Below.drew ?_ | refine below_drewN ?_ _ | refine Below.alloc ?_ (by first | omega | (simp <;> omega)) _ | refine Below.setCell ?_ (by first | omega | (simp <;> omega)) _ | refine Below.trans ?_ (Below.mono (by assumption) (by first | omega | (simp <;> omega)))))))
          have y2 := cell_alloc_keep (.cells #[.int .i64 9, .int .i64 (a : Int), .int .i64 (b : Int)] 104) x2
          clear SM
          go_wp2_with (at_builtin; go_must (refine wpList_append_any _ rfl _ _ 28 rfl w.heap.size 104 i0 (.agg #[.int .i64 0, .int .i64 0, .int .i64 0]) 3 24 Try.underlying28 hi hz0 hz1 hz2 rfl (by decide) _ O.length _ rfl SX.out.out (X.heap.size + 1) _ 1 1 (E3.cs ⟨9, (a : Int), (b : Int)⟩) rfl (by have := reads_news X (E3.cs ⟨9, (a : Int), (b : Int)⟩) 104 3 1 rfl; simpa [E3.cs] using this) (E3.one _) (by unfold maxLen; omega) (by omega) SX.out.lt.2.2.2.2 ?_; intro v3 w4 hown3 hg3 hat3; obtain ⟨a3, c3', rfl⟩ := own_form hown3; obtain ⟨d4, e4, l4, hST⟩ := PSt.appO (rot := [⟨9, (a : Int), (b : Int)⟩]) SX.out rfl (by simpa using hown3) hg3 hat3; have S4 := Lib.hid hST; have y4 := cell_set_far (b := wr.heap.size) (nb := w2.heap.size + 1 + 1 + 1) (o2 := 0) (v := .slice a3 (O.length + 1) c3') (by omega) (cell_grown hg3 y2 (fun e => by have := VO.out _ e; omega)); clear hST hown3 hg3 hat3 xO xfO x0 x1 x2 y2 l4))
          refine (placed1_any b _ S4.out (by omega) (by omega) (by simp; omega) Q3.out).mono ?_; rintro e z1 ⟨rfl, vL', vO', hS'⟩
          have S5 := Lib.hid (show PSt _ _ _ _ _ _ _ _ z1 vL' vO' (imTo k d.gs ts (j + 1)).1 (imTo k d.gs ts (j + 1)).2.1 (imTo k d.gs ts (j + 1)).2.2 from by
            rw [HST.out]; unfold imN; dsimp only; rw [Int.toNat_natCast, Int.toNat_natCast, hr.out]; exact hS')
          clear hS' S4 y4
          go_wp2_with fail
          go_roundw
          case rel => exact ⟨j + 1, vL', vO', by omega, by go_num, S5⟩
          case measure => simp [intOf]; omega
        · have e2 : j = d.gs.length := by omega
          subst e2
          have i2 : ¬ (d.gs.length : Int) < (d.gs.length : Int) := by omega
          obtain ⟨E1, E2', _⟩ := HE.out
          obtain ⟨aO, cO, rfl⟩ := own_form hS.out.out
          obtain ⟨aL2, cL2, rfl⟩ := own_form hS.out.left
          have k0 := hS.out.cO
          have k1 := hS.out.cL
          have HR := Lib.hid (show (((imTo k d.gs ts d.gs.length).2.1.length : Int) == 0) = decide ((plEnd k d.gs ts).1.length = ts.length) from by
            rw [Bool.eq_iff_iff]; simp only [beq_iff_eq, decide_eq_true_eq]; rw [← E2']; omega)
          have HO := Lib.hid (show OwnE wr w.heap.size 104 (.slice aO (imTo k d.gs ts d.gs.length).2.2.length cO) E3.cs 3 (plEnd k d.gs ts).2 from by rw [← E1]; exact hS.out.out)
          have bq := hS.out.bel
          clear E1 E2' hS
          go_wp2_with fail
          go_quiet (fail)
          go_wp2_with fail
          go_ret2
          exact ⟨_, ret_sb HR.out, OwnE.below HO.out (show Below wr.heap.size wr _ from (by repeat (first | exact Below.refl _ _ | assumption | refine Below.drew ?_ | refine below_drewN ?_ _ | refine Below.alloc ?_ (by first | omega | (simp <;> omega)) _ | refine Below.setCell ?_ (by first | omega | (simp <;> omega)) _ | refine Below.trans ?_ (Below.mono (by assumption) (by first | omega | (simp <;> omega)))))) rfl, (by repeat (first | exact Below.refl _ _ | assumption | refine Below.drew ?_ | refine below_drewN ?_ _ | refine Below.alloc ?_ (by first | omega | (simp <;> omega)) _ | refine Below.setCell ?_ (by first | omega | (simp <;> omega)) _ | refine Below.trans ?_ (Below.mono (by assumption) (by first | omega | (simp <;> omega)))))⟩
set_option maxHeartbeats 8000000 in
theorem impl_PlaceRotations_any (v u : Value) (d : Circ) (ts : List E2) (w : World) (h : RdE w v E3.cs 3 d.gs) (k : RdE w u E2.cs 2 ts) (hl : d.gs.length ≤ 1048576) (hm : ts.length ≤ 1048576) :
    Calls Try.prog 16 #[.agg #[.int .i64 d.n, v], u] w (CircPost w (plG d ts)) := by
  have H := Lib.hid h; have K := Lib.hid k
  obtain ⟨A, c, rfl, _⟩ := h.form
  obtain ⟨A2, c2, rfl, _⟩ := k.form
  clear h k
  cases hb : netB d with
  | false =>
    have HG := Lib.hid (show plG d ts = none from by unfold plG; rw [if_neg (fun h => by rw [hb] at h; cases h.1)])
    have HB := Lib.hid hb; clear hb
    go_enter Try.func16, Try.ntmps16
    go_wp2_with fail
    refine (impl_isNetwork_any _ d _ (Rd.below H.out (show Below w.heap.size w _ from (by repeat (first | exact Below.refl _ _ | assumption | refine Below.drew ?_ | refine below_drewN ?_ _ | refine Below.alloc ?_ (by first | omega | (simp <;> omega)) _ | refine Below.setCell ?_ (by first | omega | (simp <;> omega)) _ | refine Below.trans ?_ (Below.mono (by assumption) (by first | omega | (simp <;> omega)))))) rfl) hl).mono ?_; rintro e w1 ⟨rfl, hb1⟩; rw [HB.out]
    have r0 := below_cell hb1 rfl (show ((w.alloc (.cells #[.int .i64 d.n, .slice A d.gs.length c] 30)).alloc (.cells #[.int .i64 0, .slice none 0 0] 30)).cell? ⟨w.heap.size + 1, 0, none⟩ = some (.int .i64 0) from (by repeat (first | (refine Eq.trans (World.cell?_alloc_at _ _ _ _ ?hh) ?_; (case hh => (simp; done)); rfl) | refine cell_alloc_keep _ ?_)))
    have r1 := below_cell hb1 rfl (show ((w.alloc (.cells #[.int .i64 d.n, .slice A d.gs.length c] 30)).alloc (.cells #[.int .i64 0, .slice none 0 0] 30)).cell? ⟨w.heap.size + 1, 1, none⟩ = some (.slice none 0 0) from (by repeat (first | (refine Eq.trans (World.cell?_alloc_at _ _ _ _ ?hh) ?_; (case hh => (simp; done)); rfl) | refine cell_alloc_keep _ ?_)))
    obtain ⟨hc_hb1, hf_hb1⟩ := bcell hb1; have hz_hb1 := hb1.size; (try simp at hz_hb1); have hs0_hb1 : w.heap.size < w1.heap.size := (by omega); have hs1_hb1 : w.heap.size + 1 < w1.heap.size := (by omega)
    go_wp2_with fail
    have hZ := box_set2 (nb := w.heap.size + 1) (.int .i64 0) (.slice none 0 0) r0 r1
    exact bodyPost_ret (v := .tuple #[.agg #[.int .i64 0, .slice none 0 0], .bool false]) (by simp [results, Try.results16, go_sem, hZ]) rfl (CircPost.none HG.out (by repeat (first | exact Below.refl _ _ | assumption | refine Below.drew ?_ | refine below_drewN ?_ _ | refine Below.alloc ?_ (by first | omega | (simp <;> omega)) _ | refine Below.setCell ?_ (by first | omega | (simp <;> omega)) _ | refine Below.trans ?_ (Below.mono (by assumption) (by first | omega | (simp <;> omega))))))
  | true =>
    have hnn := net_n hb
    obtain ⟨m, hm'⟩ : ∃ m : Nat, d.n = (m : Int) := ⟨d.n.toNat, by omega⟩
    have HM := Lib.hid hm'
    have m1 : 1 ≤ m := by omega
    have m5 : m ≤ 5 := by omega
    have HB := Lib.hid hb
    by_cases ht : TermsOk d.n ts
    · have HD := Lib.hid (plEnd_ok ht hb hm')
      have HC := Lib.hid (im_end ht hb hm').2.2
      have HTB := Lib.hid (show termsB (m : Int) ts = true from by rw [← hm']; exact termsB_true ht)
      have few := HD.out.len
      have fewd := HD.out.done
      have fewt := terms_few (show 1 ≤ d.n ∧ d.n ≤ 5 from ⟨hnn.1, hnn.2.1⟩) ht
      have HPL := Lib.hid (fun W vv uu h k => impl_placed_any m vv uu d ts W h k hb hm' ht)
      have hlO : (plEnd m d.gs ts).2.length ≤ 1000 := by omega
      by_cases hok : (plEnd m d.gs ts).1.length = ts.length
      · have HG := Lib.hid (show plG d ts = circIf (m : Int) (plEnd m d.gs ts).2 from by
          have hC := HC.out
          rw [hm'] at hC
          unfold plG circIf
          rw [hC, hm', Int.toNat_natCast]
          by_cases h4 : (plEnd m d.gs ts).2.length ≤ 400
          · rw [if_pos ⟨hb, hm' ▸ ht, hok, h4⟩, decide_eq_true h4]; rfl
          · rw [if_neg (fun h => h4 h.2.2.2), decide_eq_false h4]; rfl)
        have HOK := Lib.hid (decide_eq_true hok)
        clear hok HC HD ht hb hm' few fewd hnn
        go_enter Try.func16, Try.ntmps16
        go_wp2_with fail
        refine (impl_isNetwork_any _ d _ (Rd.below H.out (show Below w.heap.size w _ from (by repeat (first | exact Below.refl _ _ | assumption | refine Below.drew ?_ | refine below_drewN ?_ _ | refine Below.alloc ?_ (by first | omega | (simp <;> omega)) _ | refine Below.setCell ?_ (by first | omega | (simp <;> omega)) _ | refine Below.trans ?_ (Below.mono (by assumption) (by first | omega | (simp <;> omega)))))) rfl) hl).mono ?_; rintro e w1 ⟨rfl, hb1⟩; rw [HB.out]
        have t0 : w1.cell? ⟨w.heap.size, 0, none⟩ = some (.int .i64 (m : Int)) := below_cell hb1 rfl (by rw [← HM.out]; exact (by repeat (first | (refine Eq.trans (World.cell?_alloc_at _ _ _ _ ?hh) ?_; (case hh => (simp; done)); rfl) | refine cell_alloc_keep _ ?_)))
        have t1 := below_cell hb1 rfl (show ((w.alloc (.cells #[.int .i64 d.n, .slice A d.gs.length c] 30)).alloc (.cells #[.int .i64 0, .slice none 0 0] 30)).cell? ⟨w.heap.size, 1, none⟩ = some (.slice A d.gs.length c) from (by repeat (first | (refine Eq.trans (World.cell?_alloc_at _ _ _ _ ?hh) ?_; (case hh => (simp; done)); rfl) | refine cell_alloc_keep _ ?_)))
        have r0 := below_cell hb1 rfl (show ((w.alloc (.cells #[.int .i64 d.n, .slice A d.gs.length c] 30)).alloc (.cells #[.int .i64 0, .slice none 0 0] 30)).cell? ⟨w.heap.size + 1, 0, none⟩ = some (.int .i64 0) from (by repeat (first | (refine Eq.trans (World.cell?_alloc_at _ _ _ _ ?hh) ?_; (case hh => (simp; done)); rfl) | refine cell_alloc_keep _ ?_)))
        have r1 := below_cell hb1 rfl (show ((w.alloc (.cells #[.int .i64 d.n, .slice A d.gs.length c] 30)).alloc (.cells #[.int .i64 0, .slice none 0 0] 30)).cell? ⟨w.heap.size + 1, 1, none⟩ = some (.slice none 0 0) from (by repeat (first | (refine Eq.trans (World.cell?_alloc_at _ _ _ _ ?hh) ?_; (case hh => (simp; done)); rfl) | refine cell_alloc_keep _ ?_)))
        have f0 := below_frz hb1 rfl (by simp) (show ((w.alloc (.cells #[.int .i64 d.n, .slice A d.gs.length c] 30)).alloc (.cells #[.int .i64 0, .slice none 0 0] 30)).frozen? ⟨w.heap.size + 1, 0, none⟩ = false from (by repeat (first | (refine World.frozen?_alloc_at _ _ _ _ ?hh; case hh => (simp; done)) | (refine frozen_alloc_lt _ ?hh ?_; case hh => first | omega | (simp <;> omega)))))
        have f1 := below_frz hb1 rfl (by simp) (show ((w.alloc (.cells #[.int .i64 d.n, .slice A d.gs.length c] 30)).alloc (.cells #[.int .i64 0, .slice none 0 0] 30)).frozen? ⟨w.heap.size + 1, 1, none⟩ = false from (by repeat (first | (refine World.frozen?_alloc_at _ _ _ _ ?hh; case hh => (simp; done)) | (refine frozen_alloc_lt _ ?hh ?_; case hh => first | omega | (simp <;> omega)))))
        have z1 := hb1.size; (simp at z1)
        have bw1 := Lib.hid (show Below w.heap.size w w1 from (by repeat (first | exact Below.refl _ _ | assumption | refine Below.drew ?_ | refine below_drewN ?_ _ | refine Below.alloc ?_ (by first | omega | (simp <;> omega)) _ | refine Below.setCell ?_ (by first | omega | (simp <;> omega)) _ | refine Below.trans ?_ (Below.mono (by assumption) (by first | omega | (simp <;> omega)))))); clear hb1
        go_wp2_with fail
        refine (impl_areTerms_any (m : Int) _ ts _ (Rd.below K.out bw1.out rfl) (by omega) (by omega) hm).mono ?_; rintro e w2 ⟨rfl, hb2⟩; rw [HTB.out]
        replace t0 := below_cell hb2 rfl t0; replace t1 := below_cell hb2 rfl t1; replace r0 := below_cell hb2 rfl r0; replace r1 := below_cell hb2 rfl r1; replace f0 := below_frz hb2 rfl (by omega) f0; replace f1 := below_frz hb2 rfl (by omega) f1
        have z2 := hb2.size
        have bw2 := Lib.hid (show Below w.heap.size w w2 from Below.trans bw1.out (hb2.mono (by omega))); clear hb2 bw1
        go_wp2_with fail
        refine (HPL.out _ _ _ (Rd.below H.out bw2.out rfl) (Rd.below K.out bw2.out rfl)).mono ?_; rintro e w3 ⟨vO, rfl, ho3, hb3⟩; rw [HOK.out]
        obtain ⟨aO, cO, rfl⟩ := ho3.forms
        have R3 := Lib.hid (OwnE.rd ho3)
        replace t0 := below_cell hb3 rfl t0; replace t1 := below_cell hb3 rfl t1; replace r0 := below_cell hb3 rfl r0; replace r1 := below_cell hb3 rfl r1; replace f0 := below_frz hb3 rfl (by omega) f0; replace f1 := below_frz hb3 rfl (by omega) f1
        have z3 := hb3.size
        have bw3 := Lib.hid (show Below w.heap.size w w3 from Below.trans bw2.out (hb3.mono (by omega))); clear hb3 bw2 ho3
        go_wp2_with fail
        refine (impl_circuitIf_any (m : Int) _ (plEnd m d.gs ts).2 _ R3.out (by omega)).mono ?_
        obtain ⟨SG, hSG⟩ : ∃ SG, SG = plG d ts := ⟨_, rfl⟩
        have HSG := Lib.hid hSG
        rw [← HG.out, ← hSG]; clear hSG
        rintro e w4 ⟨u4, rfl, ho4, hb4⟩
        obtain ⟨aV, cV, rfl⟩ := ho4.forms
        replace r0 := below_cell hb4 rfl r0; replace r1 := below_cell hb4 rfl r1; replace f0 := below_frz hb4 rfl (by omega) f0; replace f1 := below_frz hb4 rfl (by omega) f1
        have z4 := hb4.size
        have HO4 := Lib.hid (OwnE.le ho4 (base' := w.heap.size + 2) (by omega)); clear ho4
        have bw4 := Lib.hid (show Below w.heap.size w w4 from Below.trans bw3.out (hb4.mono (by omega))); clear hb4 bw3 t0 t1
        go_wp2_with fail
        have hZ := box_set2 (nb := w.heap.size + 1) (.int .i64 (SG.getD Circ.zero).n) (.slice aV (SG.getD Circ.zero).gs.length cV) r0 r1
        have bq := bw4.out
        exact bodyPost_ret (v := .tuple #[.agg #[.int .i64 (SG.getD Circ.zero).n, .slice aV (SG.getD Circ.zero).gs.length cV], .bool SG.isSome]) (by simp [results, Try.results16, go_sem, hZ]) rfl (by rw [← HSG.out]; exact ⟨_, rfl, OwnE.le (OwnE.set (OwnE.set HO4.out (by simp) _) (by simp) _) (by omega), (by repeat (first | exact Below.refl _ _ | assumption | refine Below.drew ?_ | refine below_drewN ?_ _ | refine Below.alloc ?_ (by first | omega | (simp <;> omega)) _ | refine Below.setCell ?_ (by first | omega | (simp <;> omega)) _ | refine Below.trans ?_ (Below.mono (by assumption) (by first | omega | (simp <;> omega)))))⟩)
      · have HG := Lib.hid (show plG d ts = none from by unfold plG; rw [if_neg (fun h => hok (by have := h.2.2.1; rwa [hm', Int.toNat_natCast] at this))])
        have HOK := Lib.hid (decide_eq_false hok)
        clear hok HC HD ht hb hm' few fewd hnn
        go_enter Try.func16, Try.ntmps16
        go_wp2_with fail
        refine (impl_isNetwork_any _ d _ (Rd.below H.out (show Below w.heap.size w _ from (by repeat (first | exact Below.refl _ _ | assumption | refine Below.drew ?_ | refine below_drewN ?_ _ | refine Below.alloc ?_ (by first | omega | (simp <;> omega)) _ | refine Below.setCell ?_ (by first | omega | (simp <;> omega)) _ | refine Below.trans ?_ (Below.mono (by assumption) (by first | omega | (simp <;> omega)))))) rfl) hl).mono ?_; rintro e w1 ⟨rfl, hb1⟩; rw [HB.out]
        have t0 : w1.cell? ⟨w.heap.size, 0, none⟩ = some (.int .i64 (m : Int)) := below_cell hb1 rfl (by rw [← HM.out]; exact (by repeat (first | (refine Eq.trans (World.cell?_alloc_at _ _ _ _ ?hh) ?_; (case hh => (simp; done)); rfl) | refine cell_alloc_keep _ ?_)))
        have t1 := below_cell hb1 rfl (show ((w.alloc (.cells #[.int .i64 d.n, .slice A d.gs.length c] 30)).alloc (.cells #[.int .i64 0, .slice none 0 0] 30)).cell? ⟨w.heap.size, 1, none⟩ = some (.slice A d.gs.length c) from (by repeat (first | (refine Eq.trans (World.cell?_alloc_at _ _ _ _ ?hh) ?_; (case hh => (simp; done)); rfl) | refine cell_alloc_keep _ ?_)))
        have r0 := below_cell hb1 rfl (show ((w.alloc (.cells #[.int .i64 d.n, .slice A d.gs.length c] 30)).alloc (.cells #[.int .i64 0, .slice none 0 0] 30)).cell? ⟨w.heap.size + 1, 0, none⟩ = some (.int .i64 0) from (by repeat (first | (refine Eq.trans (World.cell?_alloc_at _ _ _ _ ?hh) ?_; (case hh => (simp; done)); rfl) | refine cell_alloc_keep _ ?_)))
        have r1 := below_cell hb1 rfl (show ((w.alloc (.cells #[.int .i64 d.n, .slice A d.gs.length c] 30)).alloc (.cells #[.int .i64 0, .slice none 0 0] 30)).cell? ⟨w.heap.size + 1, 1, none⟩ = some (.slice none 0 0) from (by repeat (first | (refine Eq.trans (World.cell?_alloc_at _ _ _ _ ?hh) ?_; (case hh => (simp; done)); rfl) | refine cell_alloc_keep _ ?_)))
        have f0 := below_frz hb1 rfl (by simp) (show ((w.alloc (.cells #[.int .i64 d.n, .slice A d.gs.length c] 30)).alloc (.cells #[.int .i64 0, .slice none 0 0] 30)).frozen? ⟨w.heap.size + 1, 0, none⟩ = false from (by repeat (first | (refine World.frozen?_alloc_at _ _ _ _ ?hh; case hh => (simp; done)) | (refine frozen_alloc_lt _ ?hh ?_; case hh => first | omega | (simp <;> omega)))))
        have f1 := below_frz hb1 rfl (by simp) (show ((w.alloc (.cells #[.int .i64 d.n, .slice A d.gs.length c] 30)).alloc (.cells #[.int .i64 0, .slice none 0 0] 30)).frozen? ⟨w.heap.size + 1, 1, none⟩ = false from (by repeat (first | (refine World.frozen?_alloc_at _ _ _ _ ?hh; case hh => (simp; done)) | (refine frozen_alloc_lt _ ?hh ?_; case hh => first | omega | (simp <;> omega)))))
        have z1 := hb1.size; (simp at z1)
        have bw1 := Lib.hid (show Below w.heap.size w w1 from (by repeat (first | exact Below.refl _ _ | assumption | refine Below.drew ?_ | refine below_drewN ?_ _ | refine Below.alloc ?_ (by first | omega | (simp <;> omega)) _ | refine Below.setCell ?_ (by first | omega | (simp <;> omega)) _ | refine Below.trans ?_ (Below.mono (by assumption) (by first | omega | (simp <;> omega)))))); clear hb1
        go_wp2_with fail
        refine (impl_areTerms_any (m : Int) _ ts _ (Rd.below K.out bw1.out rfl) (by omega) (by omega) hm).mono ?_; rintro e w2 ⟨rfl, hb2⟩; rw [HTB.out]
        replace t0 := below_cell hb2 rfl t0; replace t1 := below_cell hb2 rfl t1; replace r0 := below_cell hb2 rfl r0; replace r1 := below_cell hb2 rfl r1; replace f0 := below_frz hb2 rfl (by omega) f0; replace f1 := below_frz hb2 rfl (by omega) f1
        have z2 := hb2.size
        have bw2 := Lib.hid (show Below w.heap.size w w2 from Below.trans bw1.out (hb2.mono (by omega))); clear hb2 bw1
        go_wp2_with fail
        refine (HPL.out _ _ _ (Rd.below H.out bw2.out rfl) (Rd.below K.out bw2.out rfl)).mono ?_; rintro e w3 ⟨vO, rfl, ho3, hb3⟩; rw [HOK.out]
        obtain ⟨aO, cO, rfl⟩ := ho3.forms
        have R3 := Lib.hid (OwnE.rd ho3)
        replace t0 := below_cell hb3 rfl t0; replace t1 := below_cell hb3 rfl t1; replace r0 := below_cell hb3 rfl r0; replace r1 := below_cell hb3 rfl r1; replace f0 := below_frz hb3 rfl (by omega) f0; replace f1 := below_frz hb3 rfl (by omega) f1
        have z3 := hb3.size
        have bw3 := Lib.hid (show Below w.heap.size w w3 from Below.trans bw2.out (hb3.mono (by omega))); clear hb3 bw2 ho3
        go_wp2_with fail
        have hZ := box_set2 (nb := w.heap.size + 1) (.int .i64 0) (.slice none 0 0) r0 r1
        have bq := bw3.out
        exact bodyPost_ret (v := .tuple #[.agg #[.int .i64 0, .slice none 0 0], .bool false]) (by simp [results, Try.results16, go_sem, hZ]) rfl (CircPost.none HG.out (by repeat (first | exact Below.refl _ _ | assumption | refine Below.drew ?_ | refine below_drewN ?_ _ | refine Below.alloc ?_ (by first | omega | (simp <;> omega)) _ | refine Below.setCell ?_ (by first | omega | (simp <;> omega)) _ | refine Below.trans ?_ (Below.mono (by assumption) (by first | omega | (simp <;> omega))))))
    · have HG := Lib.hid (show plG d ts = none from by unfold plG; rw [if_neg (fun h => ht h.2.1)])
      have HTB := Lib.hid (show termsB (m : Int) ts = false from by rw [← hm']; exact termsB_false ht)
      clear ht hb hm' hnn
      go_enter Try.func16, Try.ntmps16
      go_wp2_with fail
      refine (impl_isNetwork_any _ d _ (Rd.below H.out (show Below w.heap.size w _ from (by repeat (first | exact Below.refl _ _ | assumption | refine Below.drew ?_ | refine below_drewN ?_ _ | refine Below.alloc ?_ (by first | omega | (simp <;> omega)) _ | refine Below.setCell ?_ (by first | omega | (simp <;> omega)) _ | refine Below.trans ?_ (Below.mono (by assumption) (by first | omega | (simp <;> omega)))))) rfl) hl).mono ?_; rintro e w1 ⟨rfl, hb1⟩; rw [HB.out]
      have t0 : w1.cell? ⟨w.heap.size, 0, none⟩ = some (.int .i64 (m : Int)) := below_cell hb1 rfl (by rw [← HM.out]; exact (by repeat (first | (refine Eq.trans (World.cell?_alloc_at _ _ _ _ ?hh) ?_; (case hh => (simp; done)); rfl) | refine cell_alloc_keep _ ?_)))
      have t1 := below_cell hb1 rfl (show ((w.alloc (.cells #[.int .i64 d.n, .slice A d.gs.length c] 30)).alloc (.cells #[.int .i64 0, .slice none 0 0] 30)).cell? ⟨w.heap.size, 1, none⟩ = some (.slice A d.gs.length c) from (by repeat (first | (refine Eq.trans (World.cell?_alloc_at _ _ _ _ ?hh) ?_; (case hh => (simp; done)); rfl) | refine cell_alloc_keep _ ?_)))
      have r0 := below_cell hb1 rfl (show ((w.alloc (.cells #[.int .i64 d.n, .slice A d.gs.length c] 30)).alloc (.cells #[.int .i64 0, .slice none 0 0] 30)).cell? ⟨w.heap.size + 1, 0, none⟩ = some (.int .i64 0) from (by repeat (first | (refine Eq.trans (World.cell?_alloc_at _ _ _ _ ?hh) ?_; (case hh => (simp; done)); rfl) | refine cell_alloc_keep _ ?_)))
      have r1 := below_cell hb1 rfl (show ((w.alloc (.cells #[.int .i64 d.n, .slice A d.gs.length c] 30)).alloc (.cells #[.int .i64 0, .slice none 0 0] 30)).cell? ⟨w.heap.size + 1, 1, none⟩ = some (.slice none 0 0) from (by repeat (first | (refine Eq.trans (World.cell?_alloc_at _ _ _ _ ?hh) ?_; (case hh => (simp; done)); rfl) | refine cell_alloc_keep _ ?_)))
      have f0 := below_frz hb1 rfl (by simp) (show ((w.alloc (.cells #[.int .i64 d.n, .slice A d.gs.length c] 30)).alloc (.cells #[.int .i64 0, .slice none 0 0] 30)).frozen? ⟨w.heap.size + 1, 0, none⟩ = false from (by repeat (first | (refine World.frozen?_alloc_at _ _ _ _ ?hh; case hh => (simp; done)) | (refine frozen_alloc_lt _ ?hh ?_; case hh => first | omega | (simp <;> omega)))))
      have f1 := below_frz hb1 rfl (by simp) (show ((w.alloc (.cells #[.int .i64 d.n, .slice A d.gs.length c] 30)).alloc (.cells #[.int .i64 0, .slice none 0 0] 30)).frozen? ⟨w.heap.size + 1, 1, none⟩ = false from (by repeat (first | (refine World.frozen?_alloc_at _ _ _ _ ?hh; case hh => (simp; done)) | (refine frozen_alloc_lt _ ?hh ?_; case hh => first | omega | (simp <;> omega)))))
      have z1 := hb1.size; (simp at z1)
      have bw1 := Lib.hid (show Below w.heap.size w w1 from (by repeat (first | exact Below.refl _ _ | assumption | refine Below.drew ?_ | refine below_drewN ?_ _ | refine Below.alloc ?_ (by first | omega | (simp <;> omega)) _ | refine Below.setCell ?_ (by first | omega | (simp <;> omega)) _ | refine Below.trans ?_ (Below.mono (by assumption) (by first | omega | (simp <;> omega)))))); clear hb1
      go_wp2_with fail
      refine (impl_areTerms_any (m : Int) _ ts _ (Rd.below K.out bw1.out rfl) (by omega) (by omega) hm).mono ?_; rintro e w2 ⟨rfl, hb2⟩; rw [HTB.out]
      replace t0 := below_cell hb2 rfl t0; replace t1 := below_cell hb2 rfl t1; replace r0 := below_cell hb2 rfl r0; replace r1 := below_cell hb2 rfl r1; replace f0 := below_frz hb2 rfl (by omega) f0; replace f1 := below_frz hb2 rfl (by omega) f1
      have z2 := hb2.size
      have bw2 := Lib.hid (show Below w.heap.size w w2 from Below.trans bw1.out (hb2.mono (by omega))); clear hb2 bw1
      go_wp2_with fail
      have hZ := box_set2 (nb := w.heap.size + 1) (.int .i64 0) (.slice none 0 0) r0 r1
      have bq := bw2.out
      exact bodyPost_ret (v := .tuple #[.agg #[.int .i64 0, .slice none 0 0], .bool false]) (by simp [results, Try.results16, go_sem, hZ]) rfl (CircPost.none HG.out (by repeat (first | exact Below.refl _ _ | assumption | refine Below.drew ?_ | refine below_drewN ?_ _ | refine Below.alloc ?_ (by first | omega | (simp <;> omega)) _ | refine Below.setCell ?_ (by first | omega | (simp <;> omega)) _ | refine Below.trans ?_ (Below.mono (by assumption) (by first | omega | (simp <;> omega))))))
end Go.Proofs.Ytdkfoleippncnaa
namespace Go.Proofs.Ytdkfoleippncnaa
set_option linter.unusedSimpArgs false
set_option linter.unusedVariables false
set_option linter.unnecessarySimpa false
set_option maxRecDepth 200000
open Go.ChangeShapes Go.WideShapes Go.ChangeAt Go.RowKit

theorem spec_l1Has_all (v : Value) (L : List Nat) (x : Nat) (w : World) (h : RdI w v (ints L)) :
    Calls Try.prog 81 #[v, .int .i64 (x : Int)] w fun e w' => e = .returned (.bool (hasB L x)) ∧ w = w' := by
  by_cases h0 : 0 < L.length
  · exact spec_l1Has_any v L x w h h0
  · have hL : L = [] := List.eq_nil_of_length_eq_zero (by omega)
    subst hL
    obtain ⟨A, c, rfl, _⟩ := h.form
    clear h
    rw [ints_len]
    go_enter Try.func81, Try.ntmps81
    go_wp2_with fail
    refine wp_loop_rounds 1 ?_
    rw [rounds_succ]
    go_wp2_with fail
    go_ret
    exact ⟨rfl, rfl⟩
/-- The reference's state: gates in the circuit of box bO, rows behind box b7, masks done, qubits to look at. -/
structure SSt (B bO b7 n : Nat) (W0 w : World) (vO vR vD vA : Value) (R At D : List Nat) (O : List E3) : Prop where
  c0 : w.cell? ⟨bO, 0, none⟩ = some (.int .i64 (n : Int))
  cO : w.cell? ⟨bO, 1, none⟩ = some vO
  fO : w.frozen? ⟨bO, 1, none⟩ = false
  cR : w.cell? ⟨b7, 0, none⟩ = some vR
  fR : w.frozen? ⟨b7, 0, none⟩ = false
  rows : OwnI w B vR (ints R)
  out : w.ownsRow B 104 3 vO O.length (O.flatMap E3.cs)
  dn : w.ownsRow B 3 1 vD D.length ((ints D).map (Value.int .i64))
  at_ : w.ownsRow B 3 1 vA At.length ((ints At).map (Value.int .i64))
  apO : ∀ g, vO.ownBlock = some g → g ≠ bO ∧ g ≠ b7 ∧ vR.ownBlock ≠ some g ∧ vD.ownBlock ≠ some g ∧ vA.ownBlock ≠ some g
  apD : ∀ g, vD.ownBlock = some g → g ≠ bO ∧ g ≠ b7 ∧ vR.ownBlock ≠ some g ∧ vA.ownBlock ≠ some g
  apR : ∀ g, vR.ownBlock = some g → g ≠ bO ∧ g ≠ b7 ∧ vA.ownBlock ≠ some g
  apA : ∀ g, vA.ownBlock = some g → g ≠ bO ∧ g ≠ b7
  nn : bO ≠ b7
  BO : B ≤ bO
  B7 : B ≤ b7
  bel : Below B W0 w
section
variable {B bO b7 n : Nat} {W0 w w' : World} {vO vR vD vA v' : Value} {R At D : List Nat} {O : List E3}
theorem SSt.lt (h : SSt B bO b7 n W0 w vO vR vD vA R At D O) : bO < w.heap.size ∧ b7 < w.heap.size ∧ B ≤ w.heap.size := by
  have h1 := World.block_lt_of_cell? _ _ h.cO
  have h2 := World.block_lt_of_cell? _ _ h.cR
  have h5 := h.BO
  dsimp only at h1 h2
  exact ⟨h1, h2, by omega⟩
theorem SSt.call (h : SSt B bO b7 n W0 w vO vR vD vA R At D O) (hb : Below w.heap.size w w') : SSt B bO b7 n W0 w' vO vR vD vA R At D O :=
  have hl := h.lt
  ⟨below_cell hb rfl h.c0, below_cell hb rfl h.cO, below_frz hb rfl hl.1 h.fO, below_cell hb rfl h.cR, below_frz hb rfl hl.2.1 h.fR, OwnI.below h.rows hb rfl, own_below h.out hb rfl, own_below h.dn hb rfl, own_below h.at_ hb rfl, h.apO, h.apD, h.apR, h.apA, h.nn, h.BO, h.B7, Below.trans h.bel (hb.mono hl.2.2)⟩
/-- A step that touches one row of the state alone, or lays new blocks. -/
theorem own_ne {sz m : Nat} {t : TypeId} {v u : Value} {xs : List Value} (hg : w.grownBy w' v.ownBlock) (ho : w.ownsRow B t sz u m xs) (hne : ∀ g, v.ownBlock = some g → u.ownBlock ≠ some g) : w'.ownsRow B t sz u m xs :=
  own_other hg ho (fun g h1 h2 => hne g h2 h1)
theorem SSt.appA {q : Nat} (h : SSt B bO b7 n W0 w vO vR vD vA R At D O) (hown : w'.ownsRow B 3 1 v' (At.length + 1) ((ints At).map (Value.int .i64) ++ [.int .i64 (q : Int)]))
    (hg : w.grownBy w' vA.ownBlock) (hat : v'.ownBlock = vA.ownBlock ∨ v'.ownBlock = some w.heap.size) : SSt B bO b7 n W0 w' vO vR vD v' R (At ++ [q]) D O := by
  have hl := h.lt
  have hO := World.ownsRow.lt h.out; have hD := World.ownsRow.lt h.dn; have hR := World.ownsRow.lt h.rows
  have n1 : vA.ownBlock ≠ some bO := fun e => (h.apA _ e).1 rfl
  have n2 : vA.ownBlock ≠ some b7 := fun e => (h.apA _ e).2 rfl
  have hv : ∀ g, v'.ownBlock = some g → (g ≠ bO ∧ g ≠ b7) ∧ vR.ownBlock ≠ some g ∧ vO.ownBlock ≠ some g ∧ vD.ownBlock ≠ some g := by
    intro g hg'
    rcases hat with e | e
    · rw [e] at hg'; exact ⟨h.apA g hg', fun e2 => (h.apR g e2).2.2 hg', fun e2 => (h.apO g e2).2.2.2.2 hg', fun e2 => (h.apD g e2).2.2.2 hg'⟩
    · rw [e] at hg'; injection hg' with hg'
      exact ⟨⟨by omega, by omega⟩, fun e2 => by have := (hR g e2).2; omega, fun e2 => by have := (hO g e2).2; omega, fun e2 => by have := (hD g e2).2; omega⟩
  refine ⟨cell_grown hg h.c0 n1, cell_grown hg h.cO n1, frz_grown hg hl.1 h.fO n1, cell_grown hg h.cR n2, frz_grown hg hl.2.1 h.fR n2, own_ne hg h.rows (fun g e e2 => (h.apR g e2).2.2 e), own_ne hg h.out (fun g e e2 => (h.apO g e2).2.2.2.2 e), own_ne hg h.dn (fun g e e2 => (h.apD g e2).2.2.2 e), ?_, fun g e => ⟨(h.apO g e).1, (h.apO g e).2.1, (h.apO g e).2.2.1, (h.apO g e).2.2.2.1, fun e2 => (hv g e2).2.2.1 e⟩, fun g e => ⟨(h.apD g e).1, (h.apD g e).2.1, (h.apD g e).2.2.1, fun e2 => (hv g e2).2.2.2 e⟩, fun g e => ⟨(h.apR g e).1, (h.apR g e).2.1, fun e2 => (hv g e2).2.1 e⟩, fun g e => (hv g e).1, h.nn, h.BO, h.B7, h.bel.grown hg hl.2.2 (fun k hk => (World.ownsRow.lt h.at_ k hk).1)⟩
  have e9 : (At ++ [q]).length = At.length + 1 := by simp
  rw [e9]; simpa [ints] using hown
theorem SSt.appD {x : Nat} (h : SSt B bO b7 n W0 w vO vR vD vA R At D O) (hown : w'.ownsRow B 3 1 v' (D.length + 1) ((ints D).map (Value.int .i64) ++ [.int .i64 (x : Int)]))
    (hg : w.grownBy w' vD.ownBlock) (hat : v'.ownBlock = vD.ownBlock ∨ v'.ownBlock = some w.heap.size) : SSt B bO b7 n W0 w' vO vR v' vA R At (D ++ [x]) O := by
  have hl := h.lt
  have hO := World.ownsRow.lt h.out; have hA := World.ownsRow.lt h.at_; have hR := World.ownsRow.lt h.rows
  have n1 : vD.ownBlock ≠ some bO := fun e => (h.apD _ e).1 rfl
  have n2 : vD.ownBlock ≠ some b7 := fun e => (h.apD _ e).2.1 rfl
  have hv : ∀ g, v'.ownBlock = some g → (g ≠ bO ∧ g ≠ b7) ∧ vR.ownBlock ≠ some g ∧ vO.ownBlock ≠ some g ∧ vA.ownBlock ≠ some g := by
    intro g hg'
    rcases hat with e | e
    · rw [e] at hg'; exact ⟨⟨(h.apD g hg').1, (h.apD g hg').2.1⟩, (h.apD g hg').2.2.1, fun e2 => (h.apO g e2).2.2.2.1 hg', (h.apD g hg').2.2.2⟩
    · rw [e] at hg'; injection hg' with hg'
      exact ⟨⟨by omega, by omega⟩, fun e2 => by have := (hR g e2).2; omega, fun e2 => by have := (hO g e2).2; omega, fun e2 => by have := (hA g e2).2; omega⟩
  refine ⟨cell_grown hg h.c0 n1, cell_grown hg h.cO n1, frz_grown hg hl.1 h.fO n1, cell_grown hg h.cR n2, frz_grown hg hl.2.1 h.fR n2, own_ne hg h.rows (fun g e e2 => (h.apD g e).2.2.1 e2), own_ne hg h.out (fun g e e2 => (h.apO g e2).2.2.2.1 e), ?_, own_ne hg h.at_ (fun g e e2 => (h.apD g e).2.2.2 e2), fun g e => ⟨(h.apO g e).1, (h.apO g e).2.1, (h.apO g e).2.2.1, fun e2 => (hv g e2).2.2.1 e, (h.apO g e).2.2.2.2⟩, fun g e => ⟨(hv g e).1.1, (hv g e).1.2, (hv g e).2.1, (hv g e).2.2.2⟩, h.apR, h.apA, h.nn, h.BO, h.B7, h.bel.grown hg hl.2.2 (fun k hk => (World.ownsRow.lt h.dn k hk).1)⟩
  have e9 : (D ++ [x]).length = D.length + 1 := by simp
  rw [e9]; simpa [ints] using hown
theorem SSt.appO {m : Nat} {rot : List E3} (h : SSt B bO b7 n W0 w vO vR vD vA R At D O) (hm : rot.length = m) (hown : w'.ownsRow B 104 3 v' (O.length + m) (O.flatMap E3.cs ++ rot.flatMap E3.cs))
    (hg : w.grownBy w' vO.ownBlock) (hat : v'.ownBlock = vO.ownBlock ∨ v'.ownBlock = some w.heap.size) :
    w'.cell? ⟨bO, 1, none⟩ = some vO ∧ w'.frozen? ⟨bO, 1, none⟩ = false ∧ SSt B bO b7 n W0 (w'.setCell ⟨bO, 1, none⟩ v') v' vR vD vA R At D (O ++ rot) := by
  have hl := h.lt
  have hD := World.ownsRow.lt h.dn; have hA := World.ownsRow.lt h.at_; have hR := World.ownsRow.lt h.rows
  have n1 : vO.ownBlock ≠ some bO := fun e => (h.apO _ e).1 rfl
  have n2 : vO.ownBlock ≠ some b7 := fun e => (h.apO _ e).2.1 rfl
  have d0 := cell_grown hg h.c0 n1
  have dO := cell_grown hg h.cO n1
  have fO := frz_grown hg hl.1 h.fO n1
  have dR := cell_grown hg h.cR n2
  have fR := frz_grown hg hl.2.1 h.fR n2
  have hv : ∀ g, v'.ownBlock = some g → (g ≠ bO ∧ g ≠ b7) ∧ vR.ownBlock ≠ some g ∧ vD.ownBlock ≠ some g ∧ vA.ownBlock ≠ some g := by
    intro g hg'
    rcases hat with e | e
    · rw [e] at hg'; exact ⟨⟨(h.apO g hg').1, (h.apO g hg').2.1⟩, (h.apO g hg').2.2⟩
    · rw [e] at hg'; injection hg' with hg'
      exact ⟨⟨by omega, by omega⟩, fun e2 => by have := (hR g e2).2; omega, fun e2 => by have := (hD g e2).2; omega, fun e2 => by have := (hA g e2).2; omega⟩
  refine ⟨dO, fO, ⟨(World.cell?_setCell_other _ _ _ _ (by intro e; injection e with _ e; cases e)).trans d0, World.cell?_setCell_same _ _ _ dO, by rw [World.frozen?_setCell]; exact fO, cell_set_far (Ne.symm h.nn) dR, by rw [World.frozen?_setCell]; exact fR, own_set_ne (own_ne hg h.rows (fun g e e2 => (h.apO g e).2.2.1 e2)) (fun g e => (h.apR g e).1) _, ?_, own_set_ne (own_ne hg h.dn (fun g e e2 => (h.apO g e).2.2.2.1 e2)) (fun g e => (h.apD g e).1) _, own_set_ne (own_ne hg h.at_ (fun g e e2 => (h.apO g e).2.2.2.2 e2)) (fun g e => (h.apA g e).1) _, fun g e => ⟨(hv g e).1.1, (hv g e).1.2, (hv g e).2⟩, h.apD, h.apR, h.apA, h.nn, h.BO, h.B7, Below.setCell (h.bel.grown hg hl.2.2 (fun k hk => (World.ownsRow.lt h.out k hk).1)) h.BO _⟩⟩
  rw [List.length_append, List.flatMap_append, hm]
  exact own_set_ne hown (fun g e => (hv g e).1.1) _
/-- The rows are another list's, in blocks that were not there. -/
theorem SSt.setR {R' : List Nat} (h : SSt B bO b7 n W0 w vO vR vD vA R At D O) (hb : Below w.heap.size w w') (ho : OwnI w' w.heap.size v' (ints R')) : SSt B bO b7 n W0 (w'.setCell ⟨b7, 0, none⟩ v') vO v' vD vA R' At D O := by
  have hl := h.lt
  have k := h.call hb
  have hO := World.ownsRow.lt h.out; have hD := World.ownsRow.lt h.dn; have hA := World.ownsRow.lt h.at_
  have hv : ∀ g, v'.ownBlock = some g → w.heap.size ≤ g := fun g e => (World.ownsRow.lt ho g e).1
  refine ⟨cell_set_far h.nn k.c0, cell_set_far h.nn k.cO, by rw [World.frozen?_setCell]; exact k.fO, World.cell?_setCell_same _ _ _ k.cR, by rw [World.frozen?_setCell]; exact k.fR, own_set_ne (OwnI.le ho hl.2.2) (fun g e => by have := hv g e; dsimp only; omega) _, own_set_ne k.out (fun g e => (h.apO g e).2.1) _, own_set_ne k.dn (fun g e => (h.apD g e).2.1) _, own_set_ne k.at_ (fun g e => (h.apA g e).2) _, fun g e => ⟨(h.apO g e).1, (h.apO g e).2.1, fun e2 => by have := hv g e2; have := (hO g e).2; omega, (h.apO g e).2.2.2⟩, fun g e => ⟨(h.apD g e).1, (h.apD g e).2.1, fun e2 => by have := hv g e2; have := (hD g e).2; omega, (h.apD g e).2.2.2⟩, fun g e => ⟨by have := hv g e; omega, by have := hv g e; omega, fun e2 => by have := hv g e; have := (hA g e2).2; omega⟩, h.apA, h.nn, h.BO, h.B7, Below.setCell k.bel h.B7 _⟩
/-- The qubits to look at are one alone, laid into a new block. -/
theorem SSt.newA {b : Nat} (h : SSt B bO b7 n W0 w vO vR vD vA R At D O) : SSt B bO b7 n W0 (w.alloc (.cells #[.int .i64 (b : Int)] 3)) vO vR vD (.slice (some ⟨w.heap.size, 0, none⟩) 1 1) R [b] D O := by
  have hl := h.lt
  have k := h.call (show Below w.heap.size w (w.alloc (.cells #[.int .i64 (b : Int)] 3)) from (by repeat (first | exact Below.refl _ _ | assumption | refine Below.drew ?_ | refine below_drewN ?_ _ | refine Below.alloc ?_ (by first | omega | (simp <;> omega)) _ | refine Below.setCell ?_ (by first | omega | (simp <;> omega)) _ | refine Below.trans ?_ (Below.mono (by assumption) (by first | omega | (simp <;> omega))))))
  have hO := World.ownsRow.lt h.out; have hD := World.ownsRow.lt h.dn; have hR := World.ownsRow.lt h.rows
  have hv : ∀ g, (Value.slice (some ⟨w.heap.size, 0, none⟩) 1 1).ownBlock = some g → g = w.heap.size := fun g e => by
    have h8 : w.heap.size = g := by simpa [Value.ownBlock] using e
    exact h8.symm
  refine ⟨k.c0, k.cO, k.fO, k.cR, k.fR, k.rows, k.out, k.dn, ?_, fun g e => ⟨(h.apO g e).1, (h.apO g e).2.1, (h.apO g e).2.2.1, (h.apO g e).2.2.2.1, fun e2 => by have := hv g e2; have := (hO g e).2; omega⟩, fun g e => ⟨(h.apD g e).1, (h.apD g e).2.1, (h.apD g e).2.2.1, fun e2 => by have := hv g e2; have := (hD g e).2; omega⟩, fun g e => ⟨(h.apR g e).1, (h.apR g e).2.1, fun e2 => by have := hv g e2; have := (hR g e).2; omega⟩, fun g e => by have := hv g e; omega, h.nn, h.BO, h.B7, k.bel⟩
  refine ⟨by simp [ints], .inr ⟨w.heap.size, 1, #[.int .i64 (b : Int)], rfl, hl.2.2, ?_, Nat.le_refl _, by unfold maxLen; omega, by simp, by simp [ints]⟩⟩
  show (w.heap.push _)[w.heap.size]? = _
  simp
end
/-- The looks at a qubit only add. -/
theorem spT_grow (x q : Nat) : ∀ (ts : List E2) (s : List Nat × List E3), s.1.length ≤ (ts.foldl (spT x q) s).1.length ∧ s.2.length ≤ (ts.foldl (spT x q) s).2.length
  | [], _ => ⟨Nat.le_refl _, Nat.le_refl _⟩
  | t :: ts, s => by
    rw [List.foldl_cons]
    have h := spT_grow x q ts (spT x q s t)
    have h2 : s.1.length ≤ (spT x q s t).1.length ∧ s.2.length ≤ (spT x q s t).2.length := by
      unfold spT; split <;> simp
    omega
def spM (x q : Nat) (ts : List E2) (s : List Nat × List E3) (m : Nat) : List Nat × List E3 := (ts.take m).foldl (spT x q) s
theorem spM_succ {x q : Nat} {ts : List E2} {s : List Nat × List E3} {m : Nat} (h : m < ts.length) : spM x q ts s (m + 1) = spT x q (spM x q ts s m) (ts.getD m ⟨0, 0⟩) := by
  unfold spM
  rw [List.take_succ_eq_append_getElem h, List.foldl_append]
  simp [List.getD, h]
theorem spM_le (x q : Nat) (ts : List E2) (s : List Nat × List E3) (m : Nat) : (spM x q ts s m).1.length ≤ (ts.foldl (spT x q) s).1.length ∧ (spM x q ts s m).2.length ≤ (ts.foldl (spT x q) s).2.length := by
  have h := spT_grow x q (ts.drop m) (spM x q ts s m)
  have e : (ts.drop m).foldl (spT x q) (spM x q ts s m) = ts.foldl (spT x q) s := by unfold spM; rw [← List.foldl_append, List.take_append_drop]
  rw [e] at h; exact h
theorem spM_end {x q : Nat} {ts : List E2} {s : List Nat × List E3} {m : Nat} (h : ts.length ≤ m) : spM x q ts s m = ts.foldl (spT x q) s := by unfold spM; rw [List.take_of_length_le h]
def spJ (ts : List E2) (R : List Nat) (s : List Nat × List E3) (qs : List Nat) (j : Nat) : List Nat × List E3 := (qs.take j).foldl (spQ ts R) s
theorem spJ_succ {ts : List E2} {R : List Nat} {s : List Nat × List E3} {qs : List Nat} {j : Nat} (h : j < qs.length) : spJ ts R s qs (j + 1) = spQ ts R (spJ ts R s qs j) (qs.getD j 0) := by
  unfold spJ
  rw [List.take_succ_eq_append_getElem h, List.foldl_append]
  simp [List.getD, h]
theorem spJ_end {ts : List E2} {R : List Nat} {s : List Nat × List E3} {qs : List Nat} {j : Nat} (h : qs.length ≤ j) : spJ ts R s qs j = qs.foldl (spQ ts R) s := by unfold spJ; rw [List.take_of_length_le h]
theorem spJ_ok {n k : Nat} {ts : List E2} {qs : List Nat} (hn : n ≤ 5) (hr : Rise ts) (R : List Nat) {s : List Nat × List E3} (hq : ∀ q ∈ qs, q < n) (h : PlOk n ts k s) (j : Nat) : PlOk n ts k (spJ ts R s qs j) :=
  (place_all hn hr R (qs.take j) s (fun q hq' => hq q (List.mem_of_mem_take hq')) h).1
end Go.Proofs.Ytdkfoleippncnaa
namespace Go.Proofs.Ytdkfoleippncnaa
set_option linter.unusedSimpArgs false
set_option linter.unusedVariables false
set_option linter.unnecessarySimpa false
set_option maxRecDepth 200000
open Go.ChangeShapes Go.WideShapes Go.ChangeAt Go.RowKit

theorem qubit_at {w : World} {B m : Nat} {v : Value} {At : List Nat} (h : w.ownsRow B 3 1 v At.length ((ints At).map (Value.int .i64))) (hm : m < At.length) : ∃ g cap, v = .slice (some ⟨g, 0, none⟩) At.length cap ∧ w.cell? ⟨g, m, none⟩ = some (.int .i64 ((At.getD m 0 : Nat) : Int)) := by
  obtain ⟨g, cap, rfl⟩ := Go.Joins.ownsRow_form h (by omega)
  exact ⟨g, cap, rfl, own_int_cell (show OwnN w B g At.length cap At from h) m hm⟩
theorem term_at2 {w : World} {v : Value} {ts : List E2} (h : RdE w v E2.cs 2 ts) : ∃ A c, v = .slice A ts.length c ∧ Hid (∀ k, k < ts.length → ∃ b off, A = some ⟨b, off, none⟩ ∧ b < w.heap.size ∧ w.cell? ⟨b, off + k * 2, none⟩ = some (.int .i64 (ts.getD k ⟨0, 0⟩).a) ∧ w.cell? ⟨b, off + k * 2 + 1, none⟩ = some (.int .i64 (ts.getD k ⟨0, 0⟩).b)) := by
  rcases h.cases0 E2.len with ⟨he, A, c, rfl⟩ | ⟨_, b, off, cap, rfl, hb, hl, hm, hc⟩
  · subst he
    exact ⟨A, c, rfl, show ∀ _, _ from fun k hk => by simp at hk⟩
  · refine ⟨_, cap, rfl, show ∀ _, _ from fun k hk => ⟨b, off, rfl, hb, ?_⟩⟩
    have e : ts.getD k ⟨0, 0⟩ = ts[k] := by simp [List.getD, hk]
    rw [e]
    exact ⟨hc k hk 0 _ (by omega) rfl, hc k hk 1 _ (by omega) rfl⟩
set_option maxHeartbeats 32000000 in
theorem spec_l14Place_any (n : Nat) (v u : Value) (d : Circ) (ts : List E2) (w : World) (h : RdE w v E3.cs 3 d.gs) (k : RdE w u E2.cs 2 ts) (hnet : netB d = true) (hn : d.n = (n : Int)) (ht : TermsOk d.n ts) :
    Calls Try.prog 50 #[.agg #[.int .i64 d.n, v], u] w fun e w' => ∃ vO, e = .returned (.tuple #[.agg #[.int .i64 (n : Int), vO], .int .i64 ((plEnd n d.gs ts).1.length : Int)]) ∧ OwnE w' w.heap.size 104 vO E3.cs 3 (plEnd n d.gs ts).2 ∧ Below w.heap.size w w' := by
  obtain ⟨i0, hi, hz0, hz1, hz2⟩ := info_parts info_gate
  obtain ⟨j0, hj, hy0, hy1, hy2⟩ := info_parts info_int
  have hnn := net_n hnet
  have hfew := terms_few (show 1 ≤ d.n ∧ d.n ≤ 5 from ⟨hnn.1, hnn.2.1⟩) ht
  have n1 : 1 ≤ n := by omega
  have n5 : n ≤ 5 := by omega
  have HR := Lib.hid (rise_of ht)
  have HT := Lib.hid (term_b ht)
  have HI := Lib.hid (plTo_inv HR.out hnet hn)
  have HB := Lib.hid hnet
  have HN := Lib.hid hn
  have hgl : d.gs.length ≤ 400 := hnn.2.2
  obtain ⟨A, c, rfl, Hc⟩ := gate_at h
  obtain ⟨A2, c2, rfl, Kc⟩ := term_at2 k
  clear h k hnet ht hnn
  go_enter Try.func50, Try.ntmps50
  go_wp2_with fail
  rw [hn]
  clear hn
  have hB0 : Below w.heap.size w (((w.alloc (.cells #[.int .i64 (n : Int), .slice A d.gs.length c] 30)).alloc (.cells #[.int .i64 0, .slice none 0 0] 30)).alloc (.cells #[.int .i64 (n : Int), .slice none 0 0] 30)) := (by repeat (first | exact Below.refl _ _ | assumption | refine Below.drew ?_ | refine below_drewN ?_ _ | refine Below.alloc ?_ (by first | omega | (simp <;> omega)) _ | refine Below.setCell ?_ (by first | omega | (simp <;> omega)) _ | refine Below.trans ?_ (Below.mono (by assumption) (by first | omega | (simp <;> omega)))))
  obtain ⟨W0, hW0⟩ : ∃ W0, W0 = ((w.alloc (.cells #[.int .i64 (n : Int), .slice A d.gs.length c] 30)).alloc (.cells #[.int .i64 0, .slice none 0 0] 30)) := ⟨_, rfl⟩
  have b0 : Below (w.heap.size + 1 + 1) W0 (W0.alloc (.cells #[.int .i64 (n : Int), .slice none 0 0] 30)) := Below.alloc (Below.refl _ _) (by rw [hW0]; simp) _
  have s0 : W0.heap.size = w.heap.size + 1 + 1 := by rw [hW0]; simp
  have A0 := Lib.hid (fun W (hb : Below (w.heap.size + 1 + 1) W0 W) => show W.cell? ⟨w.heap.size, 0, none⟩ = some (.int .i64 (n : Int)) from (hb.cell (p := ⟨w.heap.size, 0, none⟩) (by dsimp only; omega)).trans (by rw [hW0]; exact (by repeat (first | (refine Eq.trans (World.cell?_alloc_at _ _ _ _ ?hh) ?_; (case hh => (simp; done)); rfl) | refine cell_alloc_keep _ ?_))))
  have A1 := Lib.hid (fun W (hb : Below (w.heap.size + 1 + 1) W0 W) => show W.cell? ⟨w.heap.size, 1, none⟩ = some (.slice A d.gs.length c) from (hb.cell (p := ⟨w.heap.size, 1, none⟩) (by dsimp only; omega)).trans (by rw [hW0]; exact (by repeat (first | (refine Eq.trans (World.cell?_alloc_at _ _ _ _ ?hh) ?_; (case hh => (simp; done)); rfl) | refine cell_alloc_keep _ ?_))))
  have R0 := Lib.hid (fun W (hb : Below (w.heap.size + 1 + 1) W0 W) => show W.cell? ⟨w.heap.size + 1, 0, none⟩ = some (.int .i64 0) from (hb.cell (p := ⟨w.heap.size + 1, 0, none⟩) (by dsimp only; omega)).trans (by rw [hW0]; exact (by repeat (first | (refine Eq.trans (World.cell?_alloc_at _ _ _ _ ?hh) ?_; (case hh => (simp; done)); rfl) | refine cell_alloc_keep _ ?_))))
  have R1 := Lib.hid (fun W (hb : Below (w.heap.size + 1 + 1) W0 W) => show W.cell? ⟨w.heap.size + 1, 1, none⟩ = some (.slice none 0 0) from (hb.cell (p := ⟨w.heap.size + 1, 1, none⟩) (by dsimp only; omega)).trans (by rw [hW0]; exact (by repeat (first | (refine Eq.trans (World.cell?_alloc_at _ _ _ _ ?hh) ?_; (case hh => (simp; done)); rfl) | refine cell_alloc_keep _ ?_))))
  have F0 := Lib.hid (fun W (hb : Below (w.heap.size + 1 + 1) W0 W) => show W.frozen? ⟨w.heap.size + 1, 0, none⟩ = false ∧ W.frozen? ⟨w.heap.size + 1, 1, none⟩ = false from ⟨(hb.frozen (p := ⟨w.heap.size + 1, 0, none⟩) (by dsimp only; omega)).trans (by rw [hW0]; exact (by repeat (first | (refine World.frozen?_alloc_at _ _ _ _ ?hh; case hh => (simp; done)) | (refine frozen_alloc_lt _ ?hh ?_; case hh => first | omega | (simp <;> omega))))), (hb.frozen (p := ⟨w.heap.size + 1, 1, none⟩) (by dsimp only; omega)).trans (by rw [hW0]; exact (by repeat (first | (refine World.frozen?_alloc_at _ _ _ _ ?hh; case hh => (simp; done)) | (refine frozen_alloc_lt _ ?hh ?_; case hh => first | omega | (simp <;> omega)))))⟩)
  have BW := Lib.hid (fun W (hb : Below (w.heap.size + 1 + 1) W0 W) => show Below w.heap.size w W from Below.trans (show Below w.heap.size w W0 from by rw [hW0]; exact (by repeat (first | exact Below.refl _ _ | assumption | refine Below.drew ?_ | refine below_drewN ?_ _ | refine Below.alloc ?_ (by first | omega | (simp <;> omega)) _ | refine Below.setCell ?_ (by first | omega | (simp <;> omega)) _ | refine Below.trans ?_ (Below.mono (by assumption) (by first | omega | (simp <;> omega)))))) (hb.mono (by omega)))
  have cc0 : (W0.alloc (.cells #[.int .i64 (n : Int), .slice none 0 0] 30)).cell? ⟨w.heap.size + 1 + 1, 0, none⟩ = some (.int .i64 (n : Int)) := by rw [hW0]; exact (by repeat (first | (refine Eq.trans (World.cell?_alloc_at _ _ _ _ ?hh) ?_; (case hh => (simp; done)); rfl) | refine cell_alloc_keep _ ?_))
  have cc1 : (W0.alloc (.cells #[.int .i64 (n : Int), .slice none 0 0] 30)).cell? ⟨w.heap.size + 1 + 1, 1, none⟩ = some (.slice none 0 0) := by rw [hW0]; exact (by repeat (first | (refine Eq.trans (World.cell?_alloc_at _ _ _ _ ?hh) ?_; (case hh => (simp; done)); rfl) | refine cell_alloc_keep _ ?_))
  have cf1 : (W0.alloc (.cells #[.int .i64 (n : Int), .slice none 0 0] 30)).frozen? ⟨w.heap.size + 1 + 1, 1, none⟩ = false := by rw [hW0]; exact (by repeat (first | (refine World.frozen?_alloc_at _ _ _ _ ?hh; case hh => (simp; done)) | (refine frozen_alloc_lt _ ?hh ?_; case hh => first | omega | (simp <;> omega))))
  rw [← hW0] at hB0 ⊢
  clear hW0
  refine (spec_l12Identity_any (n : Int) _ (by omega) (by omega)).mono ?_; rintro e w1 ⟨v1, rfl, ho1, hb1⟩
  rw [Int.toNat_natCast, idN_ints] at ho1
  obtain ⟨gR, capR, hv1, hg1a, hg1b⟩ := own_ints ho1 (by rw [idN_len]; omega)
  rw [idN_len] at hv1
  subst hv1
  have S0 : Hid (SSt (w.heap.size + 1 + 1) (w.heap.size + 1 + 1) w1.heap.size n W0 (w1.alloc (.cells #[.slice (some ⟨gR, 0, none⟩) n capR] 51)) (.slice none 0 0) (.slice (some ⟨gR, 0, none⟩) n capR) (.slice none 0 0) (.slice none 0 0) (idN n) [] [] []) := by
    have z1 := hb1.size
    simp at z1 hg1a
    have b2 : Below w1.heap.size w1 (w1.alloc (.cells #[.slice (some ⟨gR, 0, none⟩) n capR] 51)) := (by repeat (first | exact Below.refl _ _ | assumption | refine Below.drew ?_ | refine below_drewN ?_ _ | refine Below.alloc ?_ (by first | omega | (simp <;> omega)) _ | refine Below.setCell ?_ (by first | omega | (simp <;> omega)) _ | refine Below.trans ?_ (Below.mono (by assumption) (by first | omega | (simp <;> omega)))))
    have eR : ∀ g, (Value.slice (some ⟨gR, 0, none⟩) n capR).ownBlock = some g → g = gR := fun g e => by
      have h8 : gR = g := by simpa [Value.ownBlock] using e
      exact h8.symm
    have no : ∀ g, (Value.slice none 0 0).ownBlock ≠ some g := fun g e => by cases e
    exact (show SSt _ _ _ _ _ _ _ _ _ _ _ _ _ _ from ⟨below_cell b2 rfl (below_cell hb1 rfl cc0), below_cell b2 rfl (below_cell hb1 rfl cc1), below_frz b2 rfl (by omega) (below_frz hb1 rfl (by simp; omega) cf1), (by repeat (first | (refine Eq.trans (World.cell?_alloc_at _ _ _ _ ?hh) ?_; (case hh => (simp; done)); rfl) | refine cell_alloc_keep _ ?_)), (by repeat (first | (refine World.frozen?_alloc_at _ _ _ _ ?hh; case hh => (simp; done)) | (refine frozen_alloc_lt _ ?hh ?_; case hh => first | omega | (simp <;> omega)))), OwnI.below (OwnI.le ho1 (by simp; omega)) b2 rfl, World.ownsRow_nil _ _ _ _, World.ownsRow_nil _ _ _ _, World.ownsRow_nil _ _ _ _, fun g e => absurd e (no g), fun g e => absurd e (no g), fun g e => by have := eR g e; exact ⟨by omega, by omega, no g⟩, fun g e => absurd e (no g), by omega, Nat.le_refl _, by omega, Below.trans b0 (Below.trans (hb1.mono (by simp; omega)) (b2.mono (by omega)))⟩)
  clear cc0 cc1 cf1 b0 hB0 ho1 hb1 s0
  go_wp2_with fail
  go_loopw [9, 10] (fun vA i wr => ∃ (k : Nat), k ≤ n ∧ i = .int .i64 k ∧ Hid (SSt (w.heap.size + 1 + 1) (w.heap.size + 1 + 1) w1.heap.size n W0 wr (.slice none 0 0) (.slice (some ⟨gR, 0, none⟩) n capR) (.slice none 0 0) vA (idN n) (List.range k) [] [])) (fun _ i _ => n - (intOf i).toNat)
  case atStart => exact ⟨0, Nat.zero_le _, rfl, S0⟩
  case round =>
    obtain ⟨k, hk, rfl, hS⟩ := hrel
    rename_i vA _
    clear S0
    have t0 := A0.out _ hS.out.bel
    by_cases hlt : k < n
    · have i1 : (k : Int) < (n : Int) := by omega
      have SX := Lib.hid (hS.out.call (show Below wr.heap.size wr (wr.alloc (.cells #[.int .i64 (k : Int)] 3)) from (by repeat (first | exact Below.refl _ _ | assumption | refine Below.drew ?_ | refine below_drewN ?_ _ | refine Below.alloc ?_ (by first | omega | (simp <;> omega)) _ | refine Below.setCell ?_ (by first | omega | (simp <;> omega)) _ | refine Below.trans ?_ (Below.mono (by assumption) (by first | omega | (simp <;> omega)))))))
      have ln : (List.range k).length = k := List.length_range
      go_wp2_with (at_builtin; go_must (refine wpList_append_any _ rfl _ _ 44 rfl (w.heap.size + 1 + 1) 3 j0 (.int .i64 0) 1 8 Try.underlying44 hj hy0 hy1 hy2 rfl (by decide) _ (List.range k).length _ rfl SX.out.at_ (wr.heap.size + 1) _ 1 1 [.int .i64 (k : Int)] rfl (one_reads wr k) (one_one _) (by unfold maxLen; omega) (by omega) SX.out.lt.2.2 ?_; intro v3 w4 hown3 hg3 hat3; have S4 := Lib.hid (SSt.appA (q := k) SX.out (by simpa using hown3) hg3 hat3); clear hown3 hg3 hat3))
      go_roundw
      case rel => exact ⟨k + 1, by omega, by go_num, (show SSt _ _ _ _ _ _ _ _ _ _ _ _ _ _ from by rw [List.range_succ]; exact S4.out)⟩
      case measure => simp [intOf]; omega
    · have e1 : n = k := by omega
      subst e1
      have i1 : ¬ (n : Int) < (n : Int) := by omega
      go_wp2_with fail
      go_loopw [8, 9, 11] (fun sd sa i wr => ∃ (k : Nat) (vO vR vD vA : Value) (R At D : List Nat) (O : List E3), vD = sd ∧ vA = sa ∧ i = .int .i64 k ∧ k ≤ d.gs.length + 1 ∧ Hid (SSt (w.heap.size + 1 + 1) (w.heap.size + 1 + 1) w1.heap.size n W0 wr vO vR vD vA R At D O) ∧ Hid ((k ≤ d.gs.length ∧ plTo n d.gs ts k = ⟨R, At, D, O⟩) ∨ (k = d.gs.length + 1 ∧ plEnd n d.gs ts = (D, O)))) (fun _ _ i _ => d.gs.length + 2 - (intOf i).toNat)
      case atStart => exact ⟨0, _, _, _, _, _, _, _, _, rfl, rfl, rfl, by omega, hS, (show _ ∨ _ from .inl ⟨by omega, rfl⟩)⟩
      case round =>
        clear hS t0
        obtain ⟨k, vO, vR, vD, vA, R, At, D, O, rfl, rfl, rfl, hk, hS, hP⟩ := hrel
        have t1 := A1.out _ hS.out.bel
        by_cases hlt : k ≤ d.gs.length
        · have hpl := hP.out.resolve_right (fun h => by omega)
          have hinv := HI.out k hlt
          rw [hpl.2] at hinv
          have hlen := hinv.len
          have hsm := hinv.small
          have hat := hinv.at_
          have hok := hinv.ok
          dsimp only at hlen hsm hat hok
          have SJ := Lib.hid (spJ_ok n5 HR.out R hat hok)
          have HP := Lib.hid hpl.2
          have HAT := Lib.hid hat; have HSM := Lib.hid hsm
          have hatl := hinv.few
          dsimp only at hatl
          clear hpl hinv hsm hat hok hP
          obtain ⟨gR', capR', hvR, _, _⟩ := own_ints hS.out.rows (by omega)
          rw [hlen] at hvR
          subst hvR
          obtain ⟨aA, cA, rfl⟩ := own_form hS.out.at_
          have i1 : (k : Int) ≤ (d.gs.length : Int) := by omega
          obtain ⟨wq, hwq⟩ : ∃ wq : World, wq = wr := ⟨_, rfl⟩
          go_wp2_with fail
          go_loopw [8, 42] (fun sd i wr => ∃ (jj : Nat) (vO vD : Value), jj ≤ At.length ∧ vD = sd ∧ i = .int .i64 jj ∧ Hid (SSt (w.heap.size + 1 + 1) (w.heap.size + 1 + 1) w1.heap.size n W0 wr vO (.slice (some ⟨gR', 0, none⟩) n capR') vD (.slice aA At.length cA) R At (spJ ts R (D, O) At jj).1 (spJ ts R (D, O) At jj).2)) (fun _ i _ => At.length - (intOf i).toNat)
          case atStart => exact ⟨0, vO, vD, Nat.zero_le _, rfl, rfl, hS⟩
          case round =>
            clear hS t1 hwq wq
            obtain ⟨jj, vO, vD, hjj, rfl, rfl, hS⟩ := hrel
            by_cases hlt2 : jj < At.length
            · obtain ⟨gA, capA, e, cq⟩ := qubit_at hS.out.at_ hlt2
              injection e with e1 _ e3
              subst e1; subst e3
              obtain ⟨q, hq⟩ : ∃ q, q = At.getD jj 0 := ⟨_, rfl⟩
              have hqn : q < n := by
                have := HAT.out (At.getD jj 0) (by rw [getD_lt hlt2]; exact List.getElem_mem hlt2)
                omega
              have HJ := Lib.hid (show spJ ts R (D, O) At (jj + 1) = ts.foldl (spT (R.getD q 0) q) (spJ ts R (D, O) At jj) from by rw [spJ_succ hlt2, ← hq]; rfl)
              rw [← hq] at cq
              clear hq
              obtain ⟨x, hx⟩ : ∃ x, x = R.getD q 0 := ⟨_, rfl⟩
              rw [← hx] at HJ
              have HX := Lib.hid hx
              have hx31 := HSM.out.get q
              rw [← hx] at hx31
              have P1 := SJ.out (jj + 1)
              rw [HJ.out] at P1
              have B1 := P1.done
              have B2 := P1.len
              clear P1 hx
              obtain ⟨s, hs⟩ : ∃ s, s = spJ ts R (D, O) At jj := ⟨_, rfl⟩
              rw [← hs] at hS HJ B1 B2
              have HS := Lib.hid hs; clear hs
              have i2 : (jj : Int) < (At.length : Int) := by omega
              go_wp2_with fail
              go_loopw [8, 48] (fun sd i wr => ∃ (m : Nat) (vO vD : Value), m ≤ ts.length ∧ vD = sd ∧ i = .int .i64 m ∧ Hid (SSt (w.heap.size + 1 + 1) (w.heap.size + 1 + 1) w1.heap.size n W0 wr vO (.slice (some ⟨gR', 0, none⟩) n capR') vD (.slice (some ⟨gA, 0, none⟩) At.length cA) R At (spM x q ts s m).1 (spM x q ts s m).2)) (fun _ i _ => ts.length - (intOf i).toNat)
              case atStart => exact ⟨0, vO, vD, Nat.zero_le _, rfl, rfl, hS⟩
              case round =>
                clear hS cq
                obtain ⟨m, vO, vD, hm, rfl, rfl, hS⟩ := hrel
                by_cases hlt3 : m < ts.length
                · obtain ⟨b0, off, rfl, hb0, u0, u1⟩ := Kc.out m hlt3
                  obtain ⟨y, hy⟩ : ∃ y, y = ts.getD m ⟨0, 0⟩ := ⟨_, rfl⟩
                  have hmem : y ∈ ts := by rw [hy]; simp [List.getD, hlt3]
                  have hyb := HT.out y hmem
                  have hst := spM_succ (x := x) (q := q) (s := s) hlt3
                  have hle := spM_le x q ts s m
                  rw [← hy] at u0 u1 hst
                  clear hy hmem
                  obtain ⟨ya, yc⟩ := y
                  dsimp only at u0 u1 hyb
                  have hbw := BW.out _ hS.out.bel
                  replace u0 := (hbw.cell hb0).trans u0; replace u1 := (hbw.cell hb0).trans u1
                  obtain ⟨s2, hs2⟩ : ∃ s2, s2 = spM x q ts s m := ⟨_, rfl⟩
                  rw [← hs2] at hS hst hle
                  have HST := Lib.hid hst
                  clear hs2 hst hbw
                  obtain ⟨D2, O2⟩ := s2
                  dsimp only at hS hle
                  have i3 : (m : Int) < (ts.length : Int) := by omega
                  have SW := Lib.hid (hS.out.call (show Below wr.heap.size wr (wr.alloc (.cells #[.int .i64 ya, .int .i64 yc] 90)) from (by repeat (first | exact Below.refl _ _ | assumption | refine Below.drew ?_ | refine below_drewN ?_ _ | refine Below.alloc ?_ (by first | omega | (simp <;> omega)) _ | refine Below.setCell ?_ (by first | omega | (simp <;> omega)) _ | refine Below.trans ?_ (Below.mono (by assumption) (by first | omega | (simp <;> omega)))))))
                  have e0 : (wr.alloc (.cells #[.int .i64 ya, .int .i64 yc] 90)).cell? ⟨wr.heap.size, 0, none⟩ = some (.int .i64 ya) := (by repeat (first | (refine Eq.trans (World.cell?_alloc_at _ _ _ _ ?hh) ?_; (case hh => (simp; done)); rfl) | refine cell_alloc_keep _ ?_))
                  have e1 : (wr.alloc (.cells #[.int .i64 ya, .int .i64 yc] 90)).cell? ⟨wr.heap.size, 1, none⟩ = some (.int .i64 yc) := (by repeat (first | (refine Eq.trans (World.cell?_alloc_at _ _ _ _ ?hh) ?_; (case hh => (simp; done)); rfl) | refine cell_alloc_keep _ ?_))
                  have cR := SW.out.cR
                  have cx := own_int_cell (OwnN.of (M := R) (by rw [hlen]; exact SW.out.rows)) q (by omega)
                  rw [← HX.out] at cx
                  have LT := Lib.hid hS.out.lt
                  have VO := Lib.hid (fun g (hg : vO.ownBlock = some g) => show g < wr.heap.size from (World.ownsRow.lt hS.out.out g hg).2)
                  have VD := Lib.hid (fun g (hg : vD.ownBlock = some g) => show g < wr.heap.size from (World.ownsRow.lt hS.out.dn g hg).2)
                  have RD := Lib.hid (show RdI _ vD (ints D2) from Rd.of_own (show OwnI _ (w.heap.size + 1 + 1) vD (ints D2) from by unfold OwnI; rw [ints_len]; exact SW.out.dn))
                  have j1 : (q : Int) < (n : Int) := by omega
                  have j2 : (0 : Int) ≤ (q : Int) := by omega
                  clear hS
                  by_cases hyx : ya = (x : Int)
                  · subst hyx
                    cases hh : hasB D2 x with
                    | true =>
                      have HM1 := Lib.hid (show spM x q ts s (m + 1) = (D2, O2) from by rw [HST.out]; unfold spT; rw [if_neg (fun h => by have := h.2; rw [hh] at this; cases this)])
                      have HH := Lib.hid hh
                      clear hh
                      go_wp2_with fail
                      go_quiet ((go_at_call 81; exact quietB (spec_l1Has_all _ D2 x _ (Rd.below RD.out (below_drewN (Below.refl _ _) _) rfl)) HH.out))
                      have SQ := Lib.hid (SW.out.call (below_drewN (Below.refl _ _) nq))
                      go_wp2_with fail
                      go_roundw
                      case rel => exact ⟨m + 1, vO, vD, by omega, rfl, by go_num, (show SSt _ _ _ _ _ _ _ _ _ _ _ _ _ _ from by rw [HM1.out]; exact SQ.out)⟩
                      case measure => simp [intOf]; omega
                    | false =>
                      have HM1 := Lib.hid (show spM x q ts s (m + 1) = (D2 ++ [x], O2 ++ rotF (q : Int) yc) from by rw [HST.out]; unfold spT; rw [if_pos ⟨rfl, hh⟩])
                      have HH := Lib.hid hh
                      clear hh
                      go_wp2_with fail
                      go_quiet ((go_at_call 81; exact quietB (spec_l1Has_all _ D2 x _ (Rd.below RD.out (below_drewN (Below.refl _ _) _) rfl)) HH.out))
                      have SQ := Lib.hid (SW.out.call (below_drewN (Below.refl _ _) nq))
                      have x0 := below_cell (below_drewN (Below.refl _ (wr.alloc (.cells #[.int .i64 (x : Int), .int .i64 yc] 90))) nq) rfl e0
                      have x1 := below_cell (below_drewN (Below.refl _ (wr.alloc (.cells #[.int .i64 (x : Int), .int .i64 yc] 90))) nq) rfl e1
                      clear RD cR cx SW e0 e1
                      generalize (wr.alloc (.cells #[.int .i64 (x : Int), .int .i64 yc] 90)).drewN nq = X at *
                      have SX := Lib.hid (SQ.out.call (show Below X.heap.size X (X.alloc (.cells #[.int .i64 (x : Int)] 3)) from (by repeat (first | exact Below.refl _ _ | assumption | refine Below.drew ?_ | refine below_drewN ?_ _ | refine Below.alloc ?_ (by first | omega | (simp <;> omega)) _ | refine Below.setCell ?_ (by first | omega | (simp <;> omega)) _ | refine Below.trans ?_ (Below.mono (by assumption) (by first | omega | (simp <;> omega)))))))
                      replace x1 := cell_alloc_keep (.cells #[.int .i64 (x : Int)] 3) x1
                      clear SQ
                      go_wp2_with (at_builtin; go_must (refine wpList_append_any _ rfl _ _ 44 rfl (w.heap.size + 1 + 1) 3 j0 (.int .i64 0) 1 8 Try.underlying44 hj hy0 hy1 hy2 rfl (by decide) _ D2.length _ rfl SX.out.dn (X.heap.size + 1) _ 1 1 [.int .i64 (x : Int)] rfl (one_reads X x) (one_one _) (by unfold maxLen; omega) (by omega) SX.out.lt.2.2 ?_; intro v3 w4 hown3 hg3 hat3; have S4 := Lib.hid (SSt.appD (x := x) SX.out (by simpa using hown3) hg3 hat3); replace x1 := cell_grown hg3 x1 (fun e => by have := VD.out _ e; omega); clear hown3 hg3 hat3 SX x0))
                      have HD := Lib.hid (S4.out.call (show Below w4.heap.size w4 w4.drew from (by repeat (first | exact Below.refl _ _ | assumption | refine Below.drew ?_ | refine below_drewN ?_ _ | refine Below.alloc ?_ (by first | omega | (simp <;> omega)) _ | refine Below.setCell ?_ (by first | omega | (simp <;> omega)) _ | refine Below.trans ?_ (Below.mono (by assumption) (by first | omega | (simp <;> omega)))))))
                      have k0 := HD.out.cO
                      replace x1 := cell_drew x1
                      have fO := HD.out.fO
                      obtain ⟨aO, cO, rfl⟩ := own_form HD.out.out
                      clear S4
                      refine AnyB.begin (S := (fun w' => w'.cell? ⟨w.heap.size + 1 + 1, 1, none⟩ = some (.slice aO O2.length cO) ∧ w'.cell? ⟨wr.heap.size, 1, none⟩ = some (.int .i64 yc))) [8] (by kernel_rfl) ?_ (fun hHeld0 => ?_)
                      · ((try dsimp only); (first | exact ⟨k0, x1⟩))
                      refine AnyB.takeQ (i := 0) (oi := _) (v := ?_) (by simp only [List.getElem?_toArray, List.getElem?_cons_zero, List.getElem?_cons_succ]; rfl) (by kernel_rfl) (by kernel_rfl) (by kernel_rfl) (by intro _ _ _ h; exact h) (Or.inl ⟨by rfl, ?_⟩) ?_
                      rotate_left
                      · (intro w hSw; (try dsimp only at hSw); go_simp; (try (with_reducible rfl)))
                      try simp only [Act.put, List.setIfInBounds_toArray, List.set_cons_zero, List.set_cons_succ]
                      refine AnyB.take (i := 1) (oi := _) (v := ?_) (by simp only [List.getElem?_toArray, List.getElem?_cons_zero, List.getElem?_cons_succ]; rfl) (by kernel_rfl) (by kernel_rfl) (by kernel_rfl) (by kernel_rfl) (by kernel_rfl) (by intro _ _ _ h; exact h) (Or.inl ⟨by rfl, ?_⟩) (by assumption) ?_
                      rotate_left
                      · (intro w hSw; (try dsimp only at hSw); go_simp; (try (with_reducible rfl)))
                      try simp only [Act.put, List.setIfInBounds_toArray, List.set_cons_zero, List.set_cons_succ]
                      refine AnyB.takeQ (i := 2) (oi := _) (v := ?_) (by simp only [List.getElem?_toArray, List.getElem?_cons_zero, List.getElem?_cons_succ]; rfl) (by kernel_rfl) (by kernel_rfl) (by kernel_rfl) (by intro _ _ _ h; exact h) (Or.inl ⟨by rfl, ?_⟩) ?_
                      rotate_left
                      · (intro w hSw; (try dsimp only at hSw); go_simp; (try (with_reducible rfl)))
                      try simp only [Act.put, List.setIfInBounds_toArray, List.set_cons_zero, List.set_cons_succ]
                      refine AnyB.takeQ (i := 3) (oi := _) (v := ?_) (by simp only [List.getElem?_toArray, List.getElem?_cons_zero, List.getElem?_cons_succ]; rfl) (by kernel_rfl) (by kernel_rfl) (by kernel_rfl) (by intro _ _ _ h; exact h) (Or.inl ⟨by rfl, ?_⟩) ?_
                      rotate_left
                      · (intro w hSw; (try dsimp only at hSw); go_simp; (try (with_reducible rfl)))
                      try simp only [Act.put, List.setIfInBounds_toArray, List.set_cons_zero, List.set_cons_succ]
                      refine AnyB.take (i := 4) (oi := _) (v := ?_) (by simp only [List.getElem?_toArray, List.getElem?_cons_zero, List.getElem?_cons_succ]; rfl) (by kernel_rfl) (by kernel_rfl) (by kernel_rfl) (by kernel_rfl) (by kernel_rfl) (by intro _ _ _ h; exact h) (Or.inl ⟨by rfl, ?_⟩) (by assumption) ?_
                      rotate_left
                      · (intro w hSw; (try dsimp only at hSw); go_simp; (try (with_reducible rfl)))
                      try simp only [Act.put, List.setIfInBounds_toArray, List.set_cons_zero, List.set_cons_succ]
                      refine AnyB.each (rs := [5]) (by kernel_rfl) (by simp) ?_
                      refine EachB.cons rfl (fun K hK hB => ?_) ?_
                      · skip
                        (go_simp; go_at_call 99; refine (spec_l13Rotation_any (q : Int) yc _ hyb.1 hyb.2).mono ?_; rintro e w5 ⟨v5, rfl, ho5, hb5⟩; obtain ⟨a5, c5, rfl⟩ := ho5.forms; have RR := Lib.hid (Reads.of_rd ho5.rd); have H5 := Lib.hid (HD.out.call hb5); replace x1 := below_cell hb5 rfl x1; clear hb5 ho5 HD k0 fO; have k0 := H5.out.cO; dsimp only)
                        refine hK.out _ _ ?_ (fun hHeld1 => ?_)
                        · ((try dsimp only); (first | exact ⟨k0, x1⟩))
                        clear hB hK K hHeld0
                        refine AnyB.each (rs := [6]) (by kernel_rfl) (by simp) ?_
                        refine EachB.cons rfl (fun K hK hB => ?_) ?_
                        · skip
                          (refine step_append_any _ (by rfl) (.tmp 73) (.tmp 77) 28 (by rfl) (w.heap.size + 1 + 1) 104 i0 (.agg #[.int .i64 0, .int .i64 0, .int .i64 0]) 3 24 Try.underlying28 hi hz0 hz1 hz2 rfl (by omega) _ O2.length _ (by rfl) H5.out.out w5.heap.size a5 (rotF (q : Int) yc).length c5 _ (by rfl) RR.out (flat_one E3.one _) (by have := rotF_len (q : Int) yc; unfold maxLen; omega) (by have := rotF_len (q : Int) yc; omega) H5.out.lt.2.2 ?_; intro v6 w6 hown6 hg6 hat6; obtain ⟨a6, c6, rfl⟩ := own_form hown6; obtain ⟨d6, e6, hST⟩ := SSt.appO H5.out rfl hown6 hg6 hat6; have H6 := Lib.hid hST; replace x1 := cell_grown hg6 x1 (fun e => by have := VO.out _ e; omega); clear hown6 hg6 hat6 hST H5 RR k0; have k0 := d6)
                          refine hK.out _ _ ?_ (fun hHeld2 => ?_)
                          · ((try dsimp only); (first | exact ⟨k0, x1⟩))
                          clear hB hK K hHeld1
                          refine AnyB.takeQ (i := 7) (oi := _) (v := ?_) (by simp only [List.getElem?_toArray, List.getElem?_cons_zero, List.getElem?_cons_succ]; rfl) (by kernel_rfl) (by kernel_rfl) (by kernel_rfl) (by intro _ _ _ h; exact h) (Or.inl ⟨by rfl, ?_⟩) ?_
                          rotate_left
                          · (intro w hSw; (try dsimp only at hSw); go_simp; (try (with_reducible rfl)))
                          try simp only [Act.put, List.setIfInBounds_toArray, List.set_cons_zero, List.set_cons_succ]
                          refine AnyB.each (rs := [8]) (by kernel_rfl) (by simp) ?_
                          refine EachB.cons rfl (fun K hK hB => ?_) ?_
                          · skip
                            go_simp
                            refine hB.out _ _ rfl ?_
                            clear hB hK K
                            refine AnyB.none (by kernel_rfl) ?_ _
                            clear k0 x1 d6 e6
                            go_wp2_with fail
                            go_roundw
                            case rel => exact ⟨m + 1, _, _, by omega, rfl, by go_num, (show SSt _ _ _ _ _ _ _ _ _ _ _ _ _ _ from by rw [HM1.out]; exact H6.out)⟩
                            case measure => simp [intOf]; omega
                          exact EachB.nil
                        exact EachB.nil
                      exact EachB.nil
                  · have d1 : (ya == (x : Int)) = false := by simpa using hyx
                    have HM1 := Lib.hid (show spM x q ts s (m + 1) = (D2, O2) from by rw [HST.out]; unfold spT; rw [if_neg (fun h => hyx h.1)])
                    clear hyx RD
                    go_wp2_with fail
                    go_quiet (fail)
                    have SQ := Lib.hid (SW.out.call (below_drewN (Below.refl _ _) nq))
                    go_wp2_with fail
                    go_roundw
                    case rel => exact ⟨m + 1, vO, vD, by omega, rfl, by go_num, (show SSt _ _ _ _ _ _ _ _ _ _ _ _ _ _ from by rw [HM1.out]; exact SQ.out)⟩
                    case measure => simp [intOf]; omega
                · have i3 : ¬ (m : Int) < (ts.length : Int) := by omega
                  have HE := Lib.hid (show spM x q ts s m = spJ ts R (D, O) At (jj + 1) from by rw [HJ.out, HS.out]; exact spM_end (by omega))
                  go_wp2_with fail
                  go_roundw
                  case rel => exact ⟨jj + 1, vO, vD, by omega, rfl, by go_num, (show SSt _ _ _ _ _ _ _ _ _ _ _ _ _ _ from by rw [← HE.out]; exact hS.out)⟩
                  case measure => simp [intOf]; omega
            · have i2 : ¬ (jj : Int) < (At.length : Int) := by omega
              have HE := Lib.hid (show spJ ts R (D, O) At jj = (plTo n d.gs ts k).place ts from by rw [HP.out]; exact spJ_end (by omega))
              have hb := SJ.out jj
              have hb1 := hb.done
              have hb2 := hb.len
              clear hb
              obtain ⟨s, hs⟩ : ∃ s, s = spJ ts R (D, O) At jj := ⟨_, rfl⟩
              rw [← hs] at hS HE hb1 hb2
              clear hs
              obtain ⟨D2, O2⟩ := s
              dsimp only at hS hb1 hb2
              have t1 := A1.out _ hS.out.bel
              by_cases hlt4 : k < d.gs.length
              · have i4 : (k : Int) < (d.gs.length : Int) := by omega
                have i5 : (0 : Int) ≤ (k : Int) := by omega
                obtain ⟨b0, off, rfl, hb0, u0, u1, u2⟩ := Hc.out k hlt4
                obtain ⟨a, b, hg, ha, hb, hab⟩ := net_gate HB.out hlt4
                rw [HN.out] at ha hb
                have hst := plTo_succ (n := n) (ts := ts) hlt4
                rw [hg] at u0 u1 u2 hst
                have HST := Lib.hid (show plTo n d.gs ts (k + 1) = ⟨cxN R a b, [b], D2, O2 ++ [⟨9, (a : Int), (b : Int)⟩]⟩ from by rw [hst]; unfold PlS.next; rw [← HE.out, HP.out]; simp)
                have hbw := BW.out _ hS.out.bel
                replace u0 := (hbw.cell hb0).trans u0; replace u1 := (hbw.cell hb0).trans u1; replace u2 := (hbw.cell hb0).trans u2
                clear hst hg hbw HE HP
                have SG := Lib.hid (hS.out.call (show Below wr.heap.size wr (wr.alloc (.cells #[.int .i64 9, .int .i64 (a : Int), .int .i64 (b : Int)] 104)) from (by repeat (first | exact Below.refl _ _ | assumption | refine Below.drew ?_ | refine below_drewN ?_ _ | refine Below.alloc ?_ (by first | omega | (simp <;> omega)) _ | refine Below.setCell ?_ (by first | omega | (simp <;> omega)) _ | refine Below.trans ?_ (Below.mono (by assumption) (by first | omega | (simp <;> omega)))))))
                have e0 : (wr.alloc (.cells #[.int .i64 9, .int .i64 (a : Int), .int .i64 (b : Int)] 104)).cell? ⟨wr.heap.size, 0, none⟩ = some (.int .i64 9) := (by repeat (first | (refine Eq.trans (World.cell?_alloc_at _ _ _ _ ?hh) ?_; (case hh => (simp; done)); rfl) | refine cell_alloc_keep _ ?_))
                have e1 : (wr.alloc (.cells #[.int .i64 9, .int .i64 (a : Int), .int .i64 (b : Int)] 104)).cell? ⟨wr.heap.size, 1, none⟩ = some (.int .i64 (a : Int)) := (by repeat (first | (refine Eq.trans (World.cell?_alloc_at _ _ _ _ ?hh) ?_; (case hh => (simp; done)); rfl) | refine cell_alloc_keep _ ?_))
                have e2 : (wr.alloc (.cells #[.int .i64 9, .int .i64 (a : Int), .int .i64 (b : Int)] 104)).cell? ⟨wr.heap.size, 2, none⟩ = some (.int .i64 (b : Int)) := (by repeat (first | (refine Eq.trans (World.cell?_alloc_at _ _ _ _ ?hh) ?_; (case hh => (simp; done)); rfl) | refine cell_alloc_keep _ ?_))
                have LT := Lib.hid hS.out.lt
                have VO := Lib.hid (fun g (hg : vO.ownBlock = some g) => show g < wr.heap.size from (World.ownsRow.lt hS.out.out g hg).2)
                have hnb : w.heap.size + 1 + 1 < wr.heap.size := LT.out.1
                have hn7 : w1.heap.size < wr.heap.size := LT.out.2.1
                obtain ⟨aO, cO, rfl⟩ := own_form hS.out.out
                have hsX : Hid (wr.heap.size < (wr.alloc (.cells #[.int .i64 9, .int .i64 (a : Int), .int .i64 (b : Int)] 104)).heap.size) := (show _ < _ by simp)
                clear hS
                have kO := SG.out.cO
                have SX := Lib.hid (SG.out.call (show Below (wr.alloc (.cells #[.int .i64 9, .int .i64 (a : Int), .int .i64 (b : Int)] 104)).heap.size _ ((wr.alloc (.cells #[.int .i64 9, .int .i64 (a : Int), .int .i64 (b : Int)] 104)).alloc (.cells #[.int .i64 9, .int .i64 (a : Int), .int .i64 (b : Int)] 104)) from Below.alloc (Below.refl _ _) (Nat.le_refl _) _))
                have y1 := cell_alloc_keep (.cells #[.int .i64 9, .int .i64 (a : Int), .int .i64 (b : Int)] 104) e1
                have y2 := cell_alloc_keep (.cells #[.int .i64 9, .int .i64 (a : Int), .int .i64 (b : Int)] 104) e2
                go_wp2_with (at_builtin; go_must (refine wpList_append_any _ rfl _ _ 28 rfl (w.heap.size + 1 + 1) 104 i0 (.agg #[.int .i64 0, .int .i64 0, .int .i64 0]) 3 24 Try.underlying28 hi hz0 hz1 hz2 rfl (by decide) _ O2.length _ rfl SX.out.out ((wr.alloc (.cells #[.int .i64 9, .int .i64 (a : Int), .int .i64 (b : Int)] 104)).heap.size + 1) _ 1 1 (E3.cs ⟨9, (a : Int), (b : Int)⟩) rfl (by have := reads_news (wr.alloc (.cells #[.int .i64 9, .int .i64 (a : Int), .int .i64 (b : Int)] 104)) (E3.cs ⟨9, (a : Int), (b : Int)⟩) 104 3 1 rfl; simpa [E3.cs] using this) (E3.one _) (by unfold maxLen; omega) (by omega) SX.out.lt.2.2 ?_; intro v3 w4 hown3 hg3 hat3; obtain ⟨a3, c3', rfl⟩ := own_form hown3; obtain ⟨d4, f4, hST⟩ := SSt.appO (rot := [⟨9, (a : Int), (b : Int)⟩]) SX.out rfl (by simpa using hown3) hg3 hat3; have S4 := Lib.hid hST; have y3 := cell_set_far (b := wr.heap.size) (nb := w.heap.size + 1 + 1) (o2 := 1) (v := .slice a3 (O2.length + 1) c3') (by omega) (cell_grown hg3 y1 (fun e => by have := VO.out _ e; omega)); have y4 := cell_set_far (b := wr.heap.size) (nb := w.heap.size + 1 + 1) (o2 := 1) (v := .slice a3 (O2.length + 1) c3') (by omega) (cell_grown hg3 y2 (fun e => by have := VO.out _ e; omega)); have k7 := S4.out.cR; clear hST hown3 hg3 hat3 e0 e1 e2 y1 y2 kO SX SG))
                generalize (w4.setCell ⟨w.heap.size + 1 + 1, 1, none⟩ (.slice a3 (O2.length + 1) c3')) = X at *
                refine (spec_l12CX_any _ R a b _ S4.out.rows.rd HSM.out (by omega) (by omega) (by omega)).mono ?_; rintro e w5 ⟨v5, rfl, ho5, hb5⟩
                obtain ⟨g5, c5, hv5, _, _⟩ := own_ints ho5 (by rw [cxN_len]; omega)
                rw [cxN_len, hlen] at hv5
                subst hv5
                have S5 := Lib.hid (S4.out.setR hb5 ho5)
                have k8 := (S4.out.call hb5).cR
                have f8 := (S4.out.call hb5).fR
                replace y4 := cell_set_far (b := wr.heap.size) (nb := w1.heap.size) (o2 := 0) (v := .slice (some ⟨g5, 0, none⟩) n c5) (by omega) (below_cell hb5 rfl y4)
                have S6 := Lib.hid (S5.out.newA (b := b))
                have hz5 : (w5.setCell ⟨w1.heap.size, 0, none⟩ (.slice (some ⟨g5, 0, none⟩) n c5)).heap.size = w5.heap.size := by simp
                rw [hz5] at S6
                clear hz5
                clear hb5 ho5 S4 k7 y3 d4 f4
                go_wp2_with fail
                go_roundw
                case rel => exact ⟨k + 1, _, _, _, _, _, _, _, _, rfl, rfl, by go_num, by omega, S6.out, (show _ ∨ _ from .inl ⟨by omega, HST.out⟩)⟩
                case measure => simp [intOf]; omega
              · have HE2 := Lib.hid (show plEnd n d.gs ts = (D2, O2) from by unfold plEnd; rw [show d.gs.length = k from by omega]; exact HE.out.symm)
                have i4 : ¬ (k : Int) < (d.gs.length : Int) := by omega
                go_wp2_with fail
                go_roundw
                case rel => exact ⟨k + 1, _, _, _, _, _, _, _, _, rfl, rfl, by go_num, by omega, hS, (show _ ∨ _ from .inr ⟨by omega, HE2.out⟩)⟩
                case measure => simp [intOf]; omega
        · have hpl := hP.out.resolve_left (fun h => by omega)
          have HE := Lib.hid hpl.2
          clear hpl hP
          have c0 := hS.out.c0
          have cO := hS.out.cO
          obtain ⟨aO, cO', rfl⟩ := own_form hS.out.out
          have r0 := R0.out _ hS.out.bel
          have r1 := R1.out _ hS.out.bel
          obtain ⟨f0, f1⟩ := F0.out _ hS.out.bel
          obtain ⟨aD, cD, rfl⟩ := own_form hS.out.dn
          have i1 : ¬ (k : Int) ≤ (d.gs.length : Int) := by omega
          go_wp2_with fail
          have hZ := box_set2 (nb := w.heap.size + 1) (.int .i64 (n : Int)) (.slice aO O.length cO') r0 r1
          exact bodyPost_ret (v := .tuple #[.agg #[.int .i64 (n : Int), .slice aO O.length cO'], .int .i64 (D.length : Int)]) (by simp [results, Try.results50, go_sem, hZ]) rfl ⟨_, by rw [HE.out], by rw [HE.out]; exact (show OwnE _ _ _ _ _ _ _ from own_le (own_set_ne (own_set_ne hS.out.out (fun g e => by have := (World.ownsRow.lt hS.out.out g e).1; dsimp only; omega) _) (fun g e => by have := (World.ownsRow.lt hS.out.out g e).1; dsimp only; omega) _) (by omega)), Below.setCell (Below.setCell (BW.out _ hS.out.bel) (by dsimp only; omega) _) (by dsimp only; omega) _⟩
end Go.Proofs.Ytdkfoleippncnaa
namespace Go.Proofs.Ytdkfoleippncnaa
set_option linter.unusedSimpArgs false
set_option linter.unusedVariables false
set_option linter.unnecessarySimpa false
set_option maxRecDepth 200000
open Go.ChangeShapes Go.WideShapes Go.ChangeAt Go.RowKit

/-- The rank, counted. -/
def rkC : Nat → Nat → List Nat → Nat
  | 0, _, _ => 0
  | f + 1, b, L => match L.find? (fun p => p.testBit b) with
    | some p => rkC f (b + 1) (L.map (piv b p)) + 1
    | none => rkC f (b + 1) L
theorem rkC_rank : ∀ (f b : Nat) (L : List Nat), Rank f b L (rkC f b L)
  | 0, b, L => .nil
  | f + 1, b, L => by
    unfold rkC
    split
    · next p h =>
      have hp := List.find?_some h
      have hm := List.mem_of_find?_eq_some h
      exact .take hp (fun r => ⟨.inr, fun h => h.elim (fun e => e ▸ hm) id⟩) (rkC_rank f (b + 1) _)
    · next h =>
      exact .skip (fun r hr => by have := List.find?_eq_none.1 h r hr; simpa using this) (rkC_rank f (b + 1) L)
theorem rk_rkC (L : List Nat) : rk L = rkC 10 0 L := (rk_eq ⟨rkC 10 0 L, rkC_rank 10 0 L, (Nat.zero_add _).symm⟩).symm
theorem id_ok {n : Nat} (h1 : 1 ≤ n) (h5 : n ≤ 5) : LinOk (idRows n) := by
  refine ⟨by rw [idRows_len]; exact ⟨h1, h5⟩, ?_, ?_⟩
  · rw [idRows_len]
    have : n = 1 ∨ n = 2 ∨ n = 3 ∨ n = 4 ∨ n = 5 := by omega
    rcases this with rfl | rfl | rfl | rfl | rfl <;> decide +kernel
  · rw [idRows_len]
    unfold rkI
    rw [rk_rkC]
    have : n = 1 ∨ n = 2 ∨ n = 3 ∨ n = 4 ∨ n = 5 := by omega
    rcases this with rfl | rfl | rfl | rfl | rfl <;> decide +kernel
set_option maxHeartbeats 16000000 in
theorem spec_PlaceRotations_any (v u : Value) (d : Circ) (ts : List E2) (w : World) (h : RdE w v E3.cs 3 d.gs) (k : RdE w u E2.cs 2 ts) (hl : d.gs.length ≤ 1048576) (hm : ts.length ≤ 1048576) :
    Calls Try.prog 14 #[.agg #[.int .i64 d.n, v], u] w (CircPost w (plG d ts)) := by
  have H := Lib.hid h; have KT := Lib.hid k
  obtain ⟨A, c, rfl, _⟩ := h.form
  obtain ⟨A2, cT, rfl, _⟩ := k.form
  clear h k
  obtain ⟨m, hm'⟩ : ∃ m : Nat, d.n = (m : Int) ∨ netB d = false := by
    cases hb : netB d with
    | false => exact ⟨0, .inr rfl⟩
    | true => exact ⟨d.n.toNat, .inl (by have := net_n hb; omega)⟩
  cases hb : netB d with
  | false =>
    have HG := Lib.hid (show plG d ts = none from by unfold plG; rw [if_neg (fun h => by rw [hb] at h; cases h.1)])
    have HB := Lib.hid hb; clear hb hm'
    go_enter Try.func14, Try.ntmps14
    go_wp2_with fail
    have t0 : ((w.alloc (.cells #[.int .i64 d.n, .slice A d.gs.length c] 30)).alloc (.cells #[.int .i64 0, .slice none 0 0] 30)).drew.cell? ⟨w.heap.size, 0, none⟩ = some (.int .i64 d.n) := cell_drew (by repeat (first | (refine Eq.trans (World.cell?_alloc_at _ _ _ _ ?hh) ?_; (case hh => (simp; done)); rfl) | refine cell_alloc_keep _ ?_))
    have t1 : ((w.alloc (.cells #[.int .i64 d.n, .slice A d.gs.length c] 30)).alloc (.cells #[.int .i64 0, .slice none 0 0] 30)).drew.cell? ⟨w.heap.size, 1, none⟩ = some (.slice A d.gs.length c) := cell_drew (by repeat (first | (refine Eq.trans (World.cell?_alloc_at _ _ _ _ ?hh) ?_; (case hh => (simp; done)); rfl) | refine cell_alloc_keep _ ?_))
    have r0 : ((w.alloc (.cells #[.int .i64 d.n, .slice A d.gs.length c] 30)).alloc (.cells #[.int .i64 0, .slice none 0 0] 30)).drew.cell? ⟨w.heap.size + 1, 0, none⟩ = some (.int .i64 0) := cell_drew (by repeat (first | (refine Eq.trans (World.cell?_alloc_at _ _ _ _ ?hh) ?_; (case hh => (simp; done)); rfl) | refine cell_alloc_keep _ ?_))
    have r1 : ((w.alloc (.cells #[.int .i64 d.n, .slice A d.gs.length c] 30)).alloc (.cells #[.int .i64 0, .slice none 0 0] 30)).drew.cell? ⟨w.heap.size + 1, 1, none⟩ = some (.slice none 0 0) := cell_drew (by repeat (first | (refine Eq.trans (World.cell?_alloc_at _ _ _ _ ?hh) ?_; (case hh => (simp; done)); rfl) | refine cell_alloc_keep _ ?_))
    have f0 : ((w.alloc (.cells #[.int .i64 d.n, .slice A d.gs.length c] 30)).alloc (.cells #[.int .i64 0, .slice none 0 0] 30)).drew.frozen? ⟨w.heap.size + 1, 0, none⟩ = false := frz_drew (by repeat (first | (refine World.frozen?_alloc_at _ _ _ _ ?hh; case hh => (simp; done)) | (refine frozen_alloc_lt _ ?hh ?_; case hh => first | omega | (simp <;> omega))))
    have f1 : ((w.alloc (.cells #[.int .i64 d.n, .slice A d.gs.length c] 30)).alloc (.cells #[.int .i64 0, .slice none 0 0] 30)).drew.frozen? ⟨w.heap.size + 1, 1, none⟩ = false := frz_drew (by repeat (first | (refine World.frozen?_alloc_at _ _ _ _ ?hh; case hh => (simp; done)) | (refine frozen_alloc_lt _ ?hh ?_; case hh => first | omega | (simp <;> omega))))
    have bw := Lib.hid (show Below w.heap.size w ((w.alloc (.cells #[.int .i64 d.n, .slice A d.gs.length c] 30)).alloc (.cells #[.int .i64 0, .slice none 0 0] 30)).drew from (by repeat (first | exact Below.refl _ _ | assumption | refine Below.drew ?_ | refine below_drewN ?_ _ | refine Below.alloc ?_ (by first | omega | (simp <;> omega)) _ | refine Below.setCell ?_ (by first | omega | (simp <;> omega)) _ | refine Below.trans ?_ (Below.mono (by assumption) (by first | omega | (simp <;> omega))))))
    have z0 : w.heap.size + 1 < ((w.alloc (.cells #[.int .i64 d.n, .slice A d.gs.length c] 30)).alloc (.cells #[.int .i64 0, .slice none 0 0] 30)).drew.heap.size := by simp
    first | (go_region_with ((go_at_call 47; refine (spec_l14Network_any _ d _ (Rd.below H.out bw.out rfl) hl).mono ?_; rintro e w1 ⟨rfl, hb1⟩; rw [HB.out]; replace t0 := below_cell hb1 rfl t0; replace t1 := below_cell hb1 rfl t1; replace r0 := below_cell hb1 rfl r0; replace r1 := below_cell hb1 rfl r1; replace f0 := below_frz hb1 rfl (by omega) f0; replace f1 := below_frz hb1 rfl (by omega) f1; have y1 := hb1.size; (try simp at y1); replace bw := Lib.hid (show Below w.heap.size w _ from Below.trans bw.out (hb1.mono (by omega))); clear hb1))) | fail
    all_goals
      go_wp2_with fail
      have hZ := box_set2 (nb := w.heap.size + 1) (.int .i64 0) (.slice none 0 0) r0 r1
      have bq := bw.out
      exact bodyPost_ret (v := .tuple #[.agg #[.int .i64 0, .slice none 0 0], .bool false]) (by simp [results, Try.results14, go_sem, hZ]) rfl (CircPost.none HG.out (by repeat (first | exact Below.refl _ _ | assumption | refine Below.drew ?_ | refine below_drewN ?_ _ | refine Below.alloc ?_ (by first | omega | (simp <;> omega)) _ | refine Below.setCell ?_ (by first | omega | (simp <;> omega)) _ | refine Below.trans ?_ (Below.mono (by assumption) (by first | omega | (simp <;> omega))))))
  | true =>
    have hnn := net_n hb
    have hm' := hm'.resolve_right (by rw [hb]; simp)
    have HM := Lib.hid hm'
    have m1 : 1 ≤ m := by omega
    have m5 : m ≤ 5 := by omega
    have HB := Lib.hid hb
    have HNW := Lib.hid (fun W (h : RdE W (.slice A d.gs.length c) E3.cs 3 d.gs) => by have h9 := spec_l14Network_any _ d W h hl; rw [hm'] at h9; exact h9)
    have hpp : ppB ⟨(m : Int), 0, ts, idRows m⟩ = termsB (m : Int) ts := ppB_terms (p := ⟨(m : Int), 0, ts, idRows m⟩) ⟨by dsimp only; omega, by dsimp only; omega⟩ ⟨by dsimp only; omega, by dsimp only; omega⟩ (by dsimp only; rw [idRows_len]) (id_ok m1 m5)
    by_cases ht : TermsOk d.n ts
    · have HPP := Lib.hid (show ppB ⟨(m : Int), 0, ts, idRows m⟩ = true from by rw [hpp, ← hm']; exact termsB_true ht)
      have HD := Lib.hid (plEnd_ok ht hb hm')
      have few := HD.out.len
      have fewd := HD.out.done
      have fewt := terms_few (show 1 ≤ d.n ∧ d.n ≤ 5 from ⟨hnn.1, hnn.2.1⟩) ht
      have HPL := Lib.hid (fun W vv uu h k => by have h9 := spec_l14Place_any m vv uu d ts W h k hb hm' ht; rw [hm'] at h9; exact h9)
      have hlO : (plEnd m d.gs ts).2.length ≤ 1000 := by omega
      by_cases hok : (plEnd m d.gs ts).1.length = ts.length ∧ (plEnd m d.gs ts).2.length ≤ 400
      · have HG := Lib.hid (show plG d ts = some ⟨(m : Int), (plEnd m d.gs ts).2⟩ from by
          unfold plG
          rw [hm', Int.toNat_natCast, if_pos ⟨hb, hm' ▸ ht, hok.1, hok.2⟩])
        obtain ⟨ok1, ok2⟩ := hok
        clear HD ht hb hm' few fewd hnn hpp
        go_enter Try.func14, Try.ntmps14
        go_wp2_with fail
        have t0 : ((w.alloc (.cells #[.int .i64 d.n, .slice A d.gs.length c] 30)).alloc (.cells #[.int .i64 0, .slice none 0 0] 30)).drew.cell? ⟨w.heap.size, 0, none⟩ = some (.int .i64 (m : Int)) := by rw [← HM.out]; exact cell_drew (by repeat (first | (refine Eq.trans (World.cell?_alloc_at _ _ _ _ ?hh) ?_; (case hh => (simp; done)); rfl) | refine cell_alloc_keep _ ?_))
        have t1 : ((w.alloc (.cells #[.int .i64 d.n, .slice A d.gs.length c] 30)).alloc (.cells #[.int .i64 0, .slice none 0 0] 30)).drew.cell? ⟨w.heap.size, 1, none⟩ = some (.slice A d.gs.length c) := cell_drew (by repeat (first | (refine Eq.trans (World.cell?_alloc_at _ _ _ _ ?hh) ?_; (case hh => (simp; done)); rfl) | refine cell_alloc_keep _ ?_))
        have r0 : ((w.alloc (.cells #[.int .i64 d.n, .slice A d.gs.length c] 30)).alloc (.cells #[.int .i64 0, .slice none 0 0] 30)).drew.cell? ⟨w.heap.size + 1, 0, none⟩ = some (.int .i64 0) := cell_drew (by repeat (first | (refine Eq.trans (World.cell?_alloc_at _ _ _ _ ?hh) ?_; (case hh => (simp; done)); rfl) | refine cell_alloc_keep _ ?_))
        have r1 : ((w.alloc (.cells #[.int .i64 d.n, .slice A d.gs.length c] 30)).alloc (.cells #[.int .i64 0, .slice none 0 0] 30)).drew.cell? ⟨w.heap.size + 1, 1, none⟩ = some (.slice none 0 0) := cell_drew (by repeat (first | (refine Eq.trans (World.cell?_alloc_at _ _ _ _ ?hh) ?_; (case hh => (simp; done)); rfl) | refine cell_alloc_keep _ ?_))
        have f0 : ((w.alloc (.cells #[.int .i64 d.n, .slice A d.gs.length c] 30)).alloc (.cells #[.int .i64 0, .slice none 0 0] 30)).drew.frozen? ⟨w.heap.size + 1, 0, none⟩ = false := frz_drew (by repeat (first | (refine World.frozen?_alloc_at _ _ _ _ ?hh; case hh => (simp; done)) | (refine frozen_alloc_lt _ ?hh ?_; case hh => first | omega | (simp <;> omega))))
        have f1 : ((w.alloc (.cells #[.int .i64 d.n, .slice A d.gs.length c] 30)).alloc (.cells #[.int .i64 0, .slice none 0 0] 30)).drew.frozen? ⟨w.heap.size + 1, 1, none⟩ = false := frz_drew (by repeat (first | (refine World.frozen?_alloc_at _ _ _ _ ?hh; case hh => (simp; done)) | (refine frozen_alloc_lt _ ?hh ?_; case hh => first | omega | (simp <;> omega))))
        have bw := Lib.hid (show Below w.heap.size w ((w.alloc (.cells #[.int .i64 d.n, .slice A d.gs.length c] 30)).alloc (.cells #[.int .i64 0, .slice none 0 0] 30)).drew from (by repeat (first | exact Below.refl _ _ | assumption | refine Below.drew ?_ | refine below_drewN ?_ _ | refine Below.alloc ?_ (by first | omega | (simp <;> omega)) _ | refine Below.setCell ?_ (by first | omega | (simp <;> omega)) _ | refine Below.trans ?_ (Below.mono (by assumption) (by first | omega | (simp <;> omega))))))
        have z0 : w.heap.size + 1 < ((w.alloc (.cells #[.int .i64 d.n, .slice A d.gs.length c] 30)).alloc (.cells #[.int .i64 0, .slice none 0 0] 30)).drew.heap.size := by simp
        refine AnyB.begin (S := (fun w' => w'.cell? ⟨w.heap.size, 0, none⟩ = some (.int .i64 (m : Int)) ∧ w'.cell? ⟨w.heap.size, 1, none⟩ = some (.slice A d.gs.length c))) [] (by kernel_rfl) ?_ (fun hHeld0 => ?_)
        · ((try dsimp only); (first | exact ⟨t0, t1⟩))
        refine AnyB.take (i := 0) (oi := _) (v := ?_) (by simp only [List.getElem?_toArray, List.getElem?_cons_zero, List.getElem?_cons_succ]; rfl) (by kernel_rfl) (by kernel_rfl) (by kernel_rfl) (by kernel_rfl) (by kernel_rfl) (by intro _ _ _ h; exact h) (Or.inl ⟨by rfl, ?_⟩) (by assumption) ?_
        rotate_left
        · (intro w hSw; (try dsimp only at hSw); go_simp; (try (with_reducible rfl)))
        try simp only [Act.put, List.setIfInBounds_toArray, List.set_cons_zero, List.set_cons_succ]
        refine AnyB.each (rs := [1]) (by kernel_rfl) (by simp) ?_
        refine EachB.cons rfl (fun K hK hB => ?_) ?_
        · skip
          (go_simp; go_at_call 47; refine (HNW.out _ (Rd.below H.out bw.out rfl)).mono ?_; rintro e w1 ⟨rfl, hb1⟩; rw [HB.out]; replace t0 := below_cell hb1 rfl t0; replace t1 := below_cell hb1 rfl t1; replace r0 := below_cell hb1 rfl r0; replace r1 := below_cell hb1 rfl r1; replace f0 := below_frz hb1 rfl (by omega) f0; replace f1 := below_frz hb1 rfl (by omega) f1; have y1 := hb1.size; (try simp at y1); replace bw := Lib.hid (show Below w.heap.size w _ from Below.trans bw.out (hb1.mono (by omega))); clear hb1; dsimp only)
          refine hK.out _ _ ?_ (fun hHeld1 => ?_)
          · ((try dsimp only); (first | exact ⟨t0, t1⟩))
          clear hB hK K hHeld0
          refine AnyB.takeQ (i := 2) (oi := _) (v := ?_) (by simp only [List.getElem?_toArray, List.getElem?_cons_zero, List.getElem?_cons_succ]; rfl) (by kernel_rfl) (by kernel_rfl) (by kernel_rfl) (by intro _ _ _ h; exact h) (Or.inl ⟨by rfl, ?_⟩) ?_
          rotate_left
          · (intro w hSw; (try dsimp only at hSw); go_simp; (try (with_reducible rfl)))
          try simp only [Act.put, List.setIfInBounds_toArray, List.set_cons_zero, List.set_cons_succ]
          refine AnyB.takeQ (i := 3) (oi := _) (v := ?_) (by simp only [List.getElem?_toArray, List.getElem?_cons_zero, List.getElem?_cons_succ]; rfl) (by kernel_rfl) (by kernel_rfl) (by kernel_rfl) (by intro _ _ _ h; exact h) (Or.inl ⟨by rfl, ?_⟩) ?_
          rotate_left
          · (intro w hSw; (try dsimp only at hSw); go_simp; (try (with_reducible rfl)))
          try simp only [Act.put, List.setIfInBounds_toArray, List.set_cons_zero, List.set_cons_succ]
          refine AnyB.takeQ (i := 4) (oi := _) (v := ?_) (by simp only [List.getElem?_toArray, List.getElem?_cons_zero, List.getElem?_cons_succ]; rfl) (by kernel_rfl) (by kernel_rfl) (by kernel_rfl) (by intro _ _ _ h; exact h) (Or.inl ⟨by rfl, ?_⟩) ?_
          rotate_left
          · (intro w hSw; (try dsimp only at hSw); go_simp; (try (with_reducible rfl)))
          try simp only [Act.put, List.setIfInBounds_toArray, List.set_cons_zero, List.set_cons_succ]
          refine AnyB.take (i := 5) (oi := _) (v := ?_) (by simp only [List.getElem?_toArray, List.getElem?_cons_zero, List.getElem?_cons_succ]; rfl) (by kernel_rfl) (by kernel_rfl) (by kernel_rfl) (by kernel_rfl) (by kernel_rfl) (by intro _ _ _ h; exact h) (Or.inl ⟨by rfl, ?_⟩) (by assumption) ?_
          rotate_left
          · (intro w hSw; (try dsimp only at hSw); go_simp; (try (with_reducible rfl)))
          try simp only [Act.put, List.setIfInBounds_toArray, List.set_cons_zero, List.set_cons_succ]
          refine AnyB.takeQ (i := 6) (oi := _) (v := ?_) (by simp only [List.getElem?_toArray, List.getElem?_cons_zero, List.getElem?_cons_succ]; rfl) (by kernel_rfl) (by kernel_rfl) (by kernel_rfl) (by intro _ _ _ h; exact h) (Or.inl ⟨by rfl, ?_⟩) ?_
          rotate_left
          · (intro w hSw; (try dsimp only at hSw); go_simp; (try (with_reducible rfl)))
          try simp only [Act.put, List.setIfInBounds_toArray, List.set_cons_zero, List.set_cons_succ]
          refine AnyB.takeQ (i := 7) (oi := _) (v := ?_) (by simp only [List.getElem?_toArray, List.getElem?_cons_zero, List.getElem?_cons_succ]; rfl) (by kernel_rfl) (by kernel_rfl) (by kernel_rfl) (by intro _ _ _ h; exact h) (Or.inl ⟨by rfl, ?_⟩) ?_
          rotate_left
          · (intro w hSw; (try dsimp only at hSw); go_simp; (try (with_reducible rfl)))
          try simp only [Act.put, List.setIfInBounds_toArray, List.set_cons_zero, List.set_cons_succ]
          refine AnyB.take (i := 8) (oi := _) (v := ?_) (by simp only [List.getElem?_toArray, List.getElem?_cons_zero, List.getElem?_cons_succ]; rfl) (by kernel_rfl) (by kernel_rfl) (by kernel_rfl) (by kernel_rfl) (by kernel_rfl) (by intro _ _ _ h; exact h) (Or.inl ⟨by rfl, ?_⟩) (by assumption) ?_
          rotate_left
          · (intro w hSw; (try dsimp only at hSw); go_simp; (try (with_reducible rfl)))
          try simp only [Act.put, List.setIfInBounds_toArray, List.set_cons_zero, List.set_cons_succ]
          refine AnyB.each (rs := [9]) (by kernel_rfl) (by simp) ?_
          refine EachB.cons rfl (fun K hK hB => ?_) ?_
          · skip
            (go_simp; go_at_call 49; refine (spec_l12Identity_any (m : Int) _ (by omega) (by omega)).mono ?_; rintro e w2 ⟨v2, rfl, ho2, hb2⟩; have O2 := Lib.hid (OwnI.rd ho2); clear ho2; rw [Int.toNat_natCast] at O2; obtain ⟨a2, c2, rfl, _⟩ := O2.out.form; replace t0 := below_cell hb2 rfl t0; replace t1 := below_cell hb2 rfl t1; replace r0 := below_cell hb2 rfl r0; replace r1 := below_cell hb2 rfl r1; replace f0 := below_frz hb2 rfl (by omega) f0; replace f1 := below_frz hb2 rfl (by omega) f1; have y2 := hb2.size; replace bw := Lib.hid (show Below w.heap.size w _ from Below.trans bw.out (hb2.mono (by omega))); clear hb2; dsimp only)
            refine hK.out _ _ ?_ (fun hHeld2 => ?_)
            · ((try dsimp only); (first | exact ⟨t0, t1⟩))
            clear hB hK K hHeld1
            refine AnyB.takeQ (i := 10) (oi := _) (v := ?_) (by simp only [List.getElem?_toArray, List.getElem?_cons_zero, List.getElem?_cons_succ]; rfl) (by kernel_rfl) (by kernel_rfl) (by kernel_rfl) (by intro _ _ _ h; exact h) (Or.inl ⟨by rfl, ?_⟩) ?_
            rotate_left
            · (intro w hSw; (try dsimp only at hSw); go_simp; (try (with_reducible rfl)))
            try simp only [Act.put, List.setIfInBounds_toArray, List.set_cons_zero, List.set_cons_succ]
            refine AnyB.each (rs := [11]) (by kernel_rfl) (by simp) ?_
            refine EachB.cons rfl (fun K hK hB => ?_) ?_
            · skip
              (go_simp; go_at_call 48; refine (spec_l13Valid_any _ _ ⟨(m : Int), 0, ts, idRows m⟩ _ (Rd.below KT.out bw.out rfl) O2.out hm (by rw [idRows_len]; omega)).mono ?_; rintro e w3 ⟨rfl, hb3⟩; rw [HPP.out]; replace t0 := below_cell hb3 rfl t0; replace t1 := below_cell hb3 rfl t1; replace r0 := below_cell hb3 rfl r0; replace r1 := below_cell hb3 rfl r1; replace f0 := below_frz hb3 rfl (by omega) f0; replace f1 := below_frz hb3 rfl (by omega) f1; have y3 := hb3.size; replace bw := Lib.hid (show Below w.heap.size w _ from Below.trans bw.out (hb3.mono (by omega))); clear hb3; dsimp only)
              refine hK.out _ _ ?_ (fun hHeld3 => ?_)
              · ((try dsimp only); (first | exact ⟨t0, t1⟩))
              clear hB hK K hHeld2
              refine AnyB.takeQ (i := 12) (oi := _) (v := ?_) (by simp only [List.getElem?_toArray, List.getElem?_cons_zero, List.getElem?_cons_succ]; rfl) (by kernel_rfl) (by kernel_rfl) (by kernel_rfl) (by intro _ _ _ h; exact h) (Or.inl ⟨by rfl, ?_⟩) ?_
              rotate_left
              · (intro w hSw; (try dsimp only at hSw); go_simp; (try (with_reducible rfl)))
              try simp only [Act.put, List.setIfInBounds_toArray, List.set_cons_zero, List.set_cons_succ]
              refine AnyB.takeQ (i := 13) (oi := _) (v := ?_) (by simp only [List.getElem?_toArray, List.getElem?_cons_zero, List.getElem?_cons_succ]; rfl) (by kernel_rfl) (by kernel_rfl) (by kernel_rfl) (by intro _ _ _ h; exact h) (Or.inl ⟨by rfl, ?_⟩) ?_
              rotate_left
              · (intro w hSw; (try dsimp only at hSw); go_simp; (try (with_reducible rfl)))
              try simp only [Act.put, List.setIfInBounds_toArray, List.set_cons_zero, List.set_cons_succ]
              refine AnyB.none (by kernel_rfl) ?_ _
              go_wp2_with fail
              refine (HPL.out _ _ _ (Rd.below H.out bw.out rfl) (Rd.below KT.out bw.out rfl)).mono ?_; rintro e w4 ⟨vO, rfl, ho4, hb4⟩
              obtain ⟨aO, cO, rfl⟩ := ho4.forms
              replace t0 := below_cell hb4 rfl t0; replace t1 := below_cell hb4 rfl t1; replace r0 := below_cell hb4 rfl r0; replace r1 := below_cell hb4 rfl r1; replace f0 := below_frz hb4 rfl (by omega) f0; replace f1 := below_frz hb4 rfl (by omega) f1
              have y4 := hb4.size; replace bw := Lib.hid (show Below w.heap.size w _ from Below.trans bw.out (hb4.mono (by omega)))
              have HO4 := Lib.hid (OwnE.le ho4 (base' := w.heap.size + 2) (by omega)); clear ho4 hb4
              obtain ⟨N, hN⟩ : ∃ N, N = (plEnd m d.gs ts).1.length := ⟨_, rfl⟩
              obtain ⟨M, hM⟩ : ∃ M, M = (plEnd m d.gs ts).2.length := ⟨_, rfl⟩
              have i1 : ¬ (N : Int) < (ts.length : Int) := by omega
              have i2 : ¬ (400 : Int) < (M : Int) := by omega
              rw [← hN]; rw [← hM] at HO4 ⊢
              have HMM := Lib.hid hM
              clear hN hM ok1 ok2 hlO
              have f0' := frozen_alloc_lt (.cells #[.int .i64 (m : Int), .slice aO M cO] 30) (show w.heap.size + 1 < w4.heap.size by omega) f0
              have f1' := frozen_alloc_lt (.cells #[.int .i64 (m : Int), .slice aO M cO] 30) (show w.heap.size + 1 < w4.heap.size by omega) f1
              have r0' := cell_alloc_keep (.cells #[.int .i64 (m : Int), .slice aO M cO] 30) r0
              have r1' := cell_alloc_keep (.cells #[.int .i64 (m : Int), .slice aO M cO] 30) r1
              have hZ := box_set2 (nb := w.heap.size + 1) (.int .i64 (m : Int)) (.slice aO M cO) (cell_alloc_keep (.cells #[.int .i64 (m : Int), .slice aO M cO] 30) r0) (cell_alloc_keep (.cells #[.int .i64 (m : Int), .slice aO M cO] 30) r1)
              have bq := bw.out
              go_wp2_with fail
              exact bodyPost_ret (v := .tuple #[.agg #[.int .i64 (m : Int), .slice aO M cO], .bool true]) (by simp [results, Try.results14, go_sem, hZ]) rfl (CircPost.some HG.out (OwnE.le (OwnE.set (OwnE.set (OwnE.below HO4.out (show Below w4.heap.size w4 _ from Below.alloc (Below.refl _ _) (Nat.le_refl _) _) rfl) (by simp) _) (by simp) _) (by omega)) (by repeat (first | exact Below.refl _ _ | assumption | refine Below.drew ?_ | refine below_drewN ?_ _ | refine Below.alloc ?_ (by first | omega | (simp <;> omega)) _ | refine Below.setCell ?_ (by first | omega | (simp <;> omega)) _ | refine Below.trans ?_ (Below.mono (by assumption) (by first | omega | (simp <;> omega))))))
            exact EachB.nil
          exact EachB.nil
        exact EachB.nil
      · have HG := Lib.hid (show plG d ts = none from by unfold plG; rw [hm', Int.toNat_natCast, if_neg (fun h => hok ⟨h.2.2.1, h.2.2.2⟩)])
        clear HD ht hb hm' few hnn hpp
        go_enter Try.func14, Try.ntmps14
        go_wp2_with fail
        have t0 : ((w.alloc (.cells #[.int .i64 d.n, .slice A d.gs.length c] 30)).alloc (.cells #[.int .i64 0, .slice none 0 0] 30)).drew.cell? ⟨w.heap.size, 0, none⟩ = some (.int .i64 (m : Int)) := by rw [← HM.out]; exact cell_drew (by repeat (first | (refine Eq.trans (World.cell?_alloc_at _ _ _ _ ?hh) ?_; (case hh => (simp; done)); rfl) | refine cell_alloc_keep _ ?_))
        have t1 : ((w.alloc (.cells #[.int .i64 d.n, .slice A d.gs.length c] 30)).alloc (.cells #[.int .i64 0, .slice none 0 0] 30)).drew.cell? ⟨w.heap.size, 1, none⟩ = some (.slice A d.gs.length c) := cell_drew (by repeat (first | (refine Eq.trans (World.cell?_alloc_at _ _ _ _ ?hh) ?_; (case hh => (simp; done)); rfl) | refine cell_alloc_keep _ ?_))
        have r0 : ((w.alloc (.cells #[.int .i64 d.n, .slice A d.gs.length c] 30)).alloc (.cells #[.int .i64 0, .slice none 0 0] 30)).drew.cell? ⟨w.heap.size + 1, 0, none⟩ = some (.int .i64 0) := cell_drew (by repeat (first | (refine Eq.trans (World.cell?_alloc_at _ _ _ _ ?hh) ?_; (case hh => (simp; done)); rfl) | refine cell_alloc_keep _ ?_))
        have r1 : ((w.alloc (.cells #[.int .i64 d.n, .slice A d.gs.length c] 30)).alloc (.cells #[.int .i64 0, .slice none 0 0] 30)).drew.cell? ⟨w.heap.size + 1, 1, none⟩ = some (.slice none 0 0) := cell_drew (by repeat (first | (refine Eq.trans (World.cell?_alloc_at _ _ _ _ ?hh) ?_; (case hh => (simp; done)); rfl) | refine cell_alloc_keep _ ?_))
        have f0 : ((w.alloc (.cells #[.int .i64 d.n, .slice A d.gs.length c] 30)).alloc (.cells #[.int .i64 0, .slice none 0 0] 30)).drew.frozen? ⟨w.heap.size + 1, 0, none⟩ = false := frz_drew (by repeat (first | (refine World.frozen?_alloc_at _ _ _ _ ?hh; case hh => (simp; done)) | (refine frozen_alloc_lt _ ?hh ?_; case hh => first | omega | (simp <;> omega))))
        have f1 : ((w.alloc (.cells #[.int .i64 d.n, .slice A d.gs.length c] 30)).alloc (.cells #[.int .i64 0, .slice none 0 0] 30)).drew.frozen? ⟨w.heap.size + 1, 1, none⟩ = false := frz_drew (by repeat (first | (refine World.frozen?_alloc_at _ _ _ _ ?hh; case hh => (simp; done)) | (refine frozen_alloc_lt _ ?hh ?_; case hh => first | omega | (simp <;> omega))))
        have bw := Lib.hid (show Below w.heap.size w ((w.alloc (.cells #[.int .i64 d.n, .slice A d.gs.length c] 30)).alloc (.cells #[.int .i64 0, .slice none 0 0] 30)).drew from (by repeat (first | exact Below.refl _ _ | assumption | refine Below.drew ?_ | refine below_drewN ?_ _ | refine Below.alloc ?_ (by first | omega | (simp <;> omega)) _ | refine Below.setCell ?_ (by first | omega | (simp <;> omega)) _ | refine Below.trans ?_ (Below.mono (by assumption) (by first | omega | (simp <;> omega))))))
        have z0 : w.heap.size + 1 < ((w.alloc (.cells #[.int .i64 d.n, .slice A d.gs.length c] 30)).alloc (.cells #[.int .i64 0, .slice none 0 0] 30)).drew.heap.size := by simp
        refine AnyB.begin (S := (fun w' => w'.cell? ⟨w.heap.size, 0, none⟩ = some (.int .i64 (m : Int)) ∧ w'.cell? ⟨w.heap.size, 1, none⟩ = some (.slice A d.gs.length c))) [] (by kernel_rfl) ?_ (fun hHeld0 => ?_)
        · ((try dsimp only); (first | exact ⟨t0, t1⟩))
        refine AnyB.take (i := 0) (oi := _) (v := ?_) (by simp only [List.getElem?_toArray, List.getElem?_cons_zero, List.getElem?_cons_succ]; rfl) (by kernel_rfl) (by kernel_rfl) (by kernel_rfl) (by kernel_rfl) (by kernel_rfl) (by intro _ _ _ h; exact h) (Or.inl ⟨by rfl, ?_⟩) (by assumption) ?_
        rotate_left
        · (intro w hSw; (try dsimp only at hSw); go_simp; (try (with_reducible rfl)))
        try simp only [Act.put, List.setIfInBounds_toArray, List.set_cons_zero, List.set_cons_succ]
        refine AnyB.each (rs := [1]) (by kernel_rfl) (by simp) ?_
        refine EachB.cons rfl (fun K hK hB => ?_) ?_
        · skip
          (go_simp; go_at_call 47; refine (HNW.out _ (Rd.below H.out bw.out rfl)).mono ?_; rintro e w1 ⟨rfl, hb1⟩; rw [HB.out]; replace t0 := below_cell hb1 rfl t0; replace t1 := below_cell hb1 rfl t1; replace r0 := below_cell hb1 rfl r0; replace r1 := below_cell hb1 rfl r1; replace f0 := below_frz hb1 rfl (by omega) f0; replace f1 := below_frz hb1 rfl (by omega) f1; have y1 := hb1.size; (try simp at y1); replace bw := Lib.hid (show Below w.heap.size w _ from Below.trans bw.out (hb1.mono (by omega))); clear hb1; dsimp only)
          refine hK.out _ _ ?_ (fun hHeld1 => ?_)
          · ((try dsimp only); (first | exact ⟨t0, t1⟩))
          clear hB hK K hHeld0
          refine AnyB.takeQ (i := 2) (oi := _) (v := ?_) (by simp only [List.getElem?_toArray, List.getElem?_cons_zero, List.getElem?_cons_succ]; rfl) (by kernel_rfl) (by kernel_rfl) (by kernel_rfl) (by intro _ _ _ h; exact h) (Or.inl ⟨by rfl, ?_⟩) ?_
          rotate_left
          · (intro w hSw; (try dsimp only at hSw); go_simp; (try (with_reducible rfl)))
          try simp only [Act.put, List.setIfInBounds_toArray, List.set_cons_zero, List.set_cons_succ]
          refine AnyB.takeQ (i := 3) (oi := _) (v := ?_) (by simp only [List.getElem?_toArray, List.getElem?_cons_zero, List.getElem?_cons_succ]; rfl) (by kernel_rfl) (by kernel_rfl) (by kernel_rfl) (by intro _ _ _ h; exact h) (Or.inl ⟨by rfl, ?_⟩) ?_
          rotate_left
          · (intro w hSw; (try dsimp only at hSw); go_simp; (try (with_reducible rfl)))
          try simp only [Act.put, List.setIfInBounds_toArray, List.set_cons_zero, List.set_cons_succ]
          refine AnyB.takeQ (i := 4) (oi := _) (v := ?_) (by simp only [List.getElem?_toArray, List.getElem?_cons_zero, List.getElem?_cons_succ]; rfl) (by kernel_rfl) (by kernel_rfl) (by kernel_rfl) (by intro _ _ _ h; exact h) (Or.inl ⟨by rfl, ?_⟩) ?_
          rotate_left
          · (intro w hSw; (try dsimp only at hSw); go_simp; (try (with_reducible rfl)))
          try simp only [Act.put, List.setIfInBounds_toArray, List.set_cons_zero, List.set_cons_succ]
          refine AnyB.take (i := 5) (oi := _) (v := ?_) (by simp only [List.getElem?_toArray, List.getElem?_cons_zero, List.getElem?_cons_succ]; rfl) (by kernel_rfl) (by kernel_rfl) (by kernel_rfl) (by kernel_rfl) (by kernel_rfl) (by intro _ _ _ h; exact h) (Or.inl ⟨by rfl, ?_⟩) (by assumption) ?_
          rotate_left
          · (intro w hSw; (try dsimp only at hSw); go_simp; (try (with_reducible rfl)))
          try simp only [Act.put, List.setIfInBounds_toArray, List.set_cons_zero, List.set_cons_succ]
          refine AnyB.takeQ (i := 6) (oi := _) (v := ?_) (by simp only [List.getElem?_toArray, List.getElem?_cons_zero, List.getElem?_cons_succ]; rfl) (by kernel_rfl) (by kernel_rfl) (by kernel_rfl) (by intro _ _ _ h; exact h) (Or.inl ⟨by rfl, ?_⟩) ?_
          rotate_left
          · (intro w hSw; (try dsimp only at hSw); go_simp; (try (with_reducible rfl)))
          try simp only [Act.put, List.setIfInBounds_toArray, List.set_cons_zero, List.set_cons_succ]
          refine AnyB.takeQ (i := 7) (oi := _) (v := ?_) (by simp only [List.getElem?_toArray, List.getElem?_cons_zero, List.getElem?_cons_succ]; rfl) (by kernel_rfl) (by kernel_rfl) (by kernel_rfl) (by intro _ _ _ h; exact h) (Or.inl ⟨by rfl, ?_⟩) ?_
          rotate_left
          · (intro w hSw; (try dsimp only at hSw); go_simp; (try (with_reducible rfl)))
          try simp only [Act.put, List.setIfInBounds_toArray, List.set_cons_zero, List.set_cons_succ]
          refine AnyB.take (i := 8) (oi := _) (v := ?_) (by simp only [List.getElem?_toArray, List.getElem?_cons_zero, List.getElem?_cons_succ]; rfl) (by kernel_rfl) (by kernel_rfl) (by kernel_rfl) (by kernel_rfl) (by kernel_rfl) (by intro _ _ _ h; exact h) (Or.inl ⟨by rfl, ?_⟩) (by assumption) ?_
          rotate_left
          · (intro w hSw; (try dsimp only at hSw); go_simp; (try (with_reducible rfl)))
          try simp only [Act.put, List.setIfInBounds_toArray, List.set_cons_zero, List.set_cons_succ]
          refine AnyB.each (rs := [9]) (by kernel_rfl) (by simp) ?_
          refine EachB.cons rfl (fun K hK hB => ?_) ?_
          · skip
            (go_simp; go_at_call 49; refine (spec_l12Identity_any (m : Int) _ (by omega) (by omega)).mono ?_; rintro e w2 ⟨v2, rfl, ho2, hb2⟩; have O2 := Lib.hid (OwnI.rd ho2); clear ho2; rw [Int.toNat_natCast] at O2; obtain ⟨a2, c2, rfl, _⟩ := O2.out.form; replace t0 := below_cell hb2 rfl t0; replace t1 := below_cell hb2 rfl t1; replace r0 := below_cell hb2 rfl r0; replace r1 := below_cell hb2 rfl r1; replace f0 := below_frz hb2 rfl (by omega) f0; replace f1 := below_frz hb2 rfl (by omega) f1; have y2 := hb2.size; replace bw := Lib.hid (show Below w.heap.size w _ from Below.trans bw.out (hb2.mono (by omega))); clear hb2; dsimp only)
            refine hK.out _ _ ?_ (fun hHeld2 => ?_)
            · ((try dsimp only); (first | exact ⟨t0, t1⟩))
            clear hB hK K hHeld1
            refine AnyB.takeQ (i := 10) (oi := _) (v := ?_) (by simp only [List.getElem?_toArray, List.getElem?_cons_zero, List.getElem?_cons_succ]; rfl) (by kernel_rfl) (by kernel_rfl) (by kernel_rfl) (by intro _ _ _ h; exact h) (Or.inl ⟨by rfl, ?_⟩) ?_
            rotate_left
            · (intro w hSw; (try dsimp only at hSw); go_simp; (try (with_reducible rfl)))
            try simp only [Act.put, List.setIfInBounds_toArray, List.set_cons_zero, List.set_cons_succ]
            refine AnyB.each (rs := [11]) (by kernel_rfl) (by simp) ?_
            refine EachB.cons rfl (fun K hK hB => ?_) ?_
            · skip
              (go_simp; go_at_call 48; refine (spec_l13Valid_any _ _ ⟨(m : Int), 0, ts, idRows m⟩ _ (Rd.below KT.out bw.out rfl) O2.out hm (by rw [idRows_len]; omega)).mono ?_; rintro e w3 ⟨rfl, hb3⟩; rw [HPP.out]; replace t0 := below_cell hb3 rfl t0; replace t1 := below_cell hb3 rfl t1; replace r0 := below_cell hb3 rfl r0; replace r1 := below_cell hb3 rfl r1; replace f0 := below_frz hb3 rfl (by omega) f0; replace f1 := below_frz hb3 rfl (by omega) f1; have y3 := hb3.size; replace bw := Lib.hid (show Below w.heap.size w _ from Below.trans bw.out (hb3.mono (by omega))); clear hb3; dsimp only)
              refine hK.out _ _ ?_ (fun hHeld3 => ?_)
              · ((try dsimp only); (first | exact ⟨t0, t1⟩))
              clear hB hK K hHeld2
              refine AnyB.takeQ (i := 12) (oi := _) (v := ?_) (by simp only [List.getElem?_toArray, List.getElem?_cons_zero, List.getElem?_cons_succ]; rfl) (by kernel_rfl) (by kernel_rfl) (by kernel_rfl) (by intro _ _ _ h; exact h) (Or.inl ⟨by rfl, ?_⟩) ?_
              rotate_left
              · (intro w hSw; (try dsimp only at hSw); go_simp; (try (with_reducible rfl)))
              try simp only [Act.put, List.setIfInBounds_toArray, List.set_cons_zero, List.set_cons_succ]
              refine AnyB.takeQ (i := 13) (oi := _) (v := ?_) (by simp only [List.getElem?_toArray, List.getElem?_cons_zero, List.getElem?_cons_succ]; rfl) (by kernel_rfl) (by kernel_rfl) (by kernel_rfl) (by intro _ _ _ h; exact h) (Or.inl ⟨by rfl, ?_⟩) ?_
              rotate_left
              · (intro w hSw; (try dsimp only at hSw); go_simp; (try (with_reducible rfl)))
              try simp only [Act.put, List.setIfInBounds_toArray, List.set_cons_zero, List.set_cons_succ]
              refine AnyB.none (by kernel_rfl) ?_ _
              go_wp2_with fail
              refine (HPL.out _ _ _ (Rd.below H.out bw.out rfl) (Rd.below KT.out bw.out rfl)).mono ?_; rintro e w4 ⟨vO, rfl, ho4, hb4⟩
              obtain ⟨aO, cO, rfl⟩ := ho4.forms
              replace t0 := below_cell hb4 rfl t0; replace t1 := below_cell hb4 rfl t1; replace r0 := below_cell hb4 rfl r0; replace r1 := below_cell hb4 rfl r1; replace f0 := below_frz hb4 rfl (by omega) f0; replace f1 := below_frz hb4 rfl (by omega) f1
              have y4 := hb4.size; replace bw := Lib.hid (show Below w.heap.size w _ from Below.trans bw.out (hb4.mono (by omega)))
              have HO4 := Lib.hid (OwnE.le ho4 (base' := w.heap.size + 2) (by omega)); clear ho4 hb4
              obtain ⟨N, hN⟩ : ∃ N, N = (plEnd m d.gs ts).1.length := ⟨_, rfl⟩
              obtain ⟨M, hM⟩ : ∃ M, M = (plEnd m d.gs ts).2.length := ⟨_, rfl⟩
              rw [← hN] at fewd hok ⊢; rw [← hM] at HO4 hok ⊢
              clear hN hM
              by_cases hlt : (N : Int) < (ts.length : Int)
              · have r0' := cell_alloc_keep (.cells #[.int .i64 (m : Int), .slice aO M cO] 30) r0
                have r1' := cell_alloc_keep (.cells #[.int .i64 (m : Int), .slice aO M cO] 30) r1
                have f0' := frozen_alloc_lt (.cells #[.int .i64 (m : Int), .slice aO M cO] 30) (show w.heap.size + 1 < w4.heap.size by omega) f0
                have f1' := frozen_alloc_lt (.cells #[.int .i64 (m : Int), .slice aO M cO] 30) (show w.heap.size + 1 < w4.heap.size by omega) f1
                go_wp2_with fail
                have hZ := box_set2 (nb := w.heap.size + 1) (.int .i64 0) (.slice none 0 0) r0' r1'
                have bq := bw.out
                exact bodyPost_ret (v := .tuple #[.agg #[.int .i64 0, .slice none 0 0], .bool false]) (by simp [results, Try.results14, go_sem, hZ]) rfl (CircPost.none HG.out (by repeat (first | exact Below.refl _ _ | assumption | refine Below.drew ?_ | refine below_drewN ?_ _ | refine Below.alloc ?_ (by first | omega | (simp <;> omega)) _ | refine Below.setCell ?_ (by first | omega | (simp <;> omega)) _ | refine Below.trans ?_ (Below.mono (by assumption) (by first | omega | (simp <;> omega))))))
              · have i2 : (400 : Int) < (M : Int) := by omega
                have r0' := cell_alloc_keep (.cells #[.int .i64 (m : Int), .slice aO M cO] 30) r0
                have r1' := cell_alloc_keep (.cells #[.int .i64 (m : Int), .slice aO M cO] 30) r1
                have f0' := frozen_alloc_lt (.cells #[.int .i64 (m : Int), .slice aO M cO] 30) (show w.heap.size + 1 < w4.heap.size by omega) f0
                have f1' := frozen_alloc_lt (.cells #[.int .i64 (m : Int), .slice aO M cO] 30) (show w.heap.size + 1 < w4.heap.size by omega) f1
                go_wp2_with fail
                have hZ := box_set2 (nb := w.heap.size + 1) (.int .i64 0) (.slice none 0 0) r0' r1'
                have bq := bw.out
                exact bodyPost_ret (v := .tuple #[.agg #[.int .i64 0, .slice none 0 0], .bool false]) (by simp [results, Try.results14, go_sem, hZ]) rfl (CircPost.none HG.out (by repeat (first | exact Below.refl _ _ | assumption | refine Below.drew ?_ | refine below_drewN ?_ _ | refine Below.alloc ?_ (by first | omega | (simp <;> omega)) _ | refine Below.setCell ?_ (by first | omega | (simp <;> omega)) _ | refine Below.trans ?_ (Below.mono (by assumption) (by first | omega | (simp <;> omega))))))
            exact EachB.nil
          exact EachB.nil
        exact EachB.nil
    · have HG := Lib.hid (show plG d ts = none from by unfold plG; rw [if_neg (fun h => ht h.2.1)])
      have HPP := Lib.hid (show ppB ⟨(m : Int), 0, ts, idRows m⟩ = false from by rw [hpp, ← hm']; exact termsB_false ht)
      clear ht hb hm' hnn hpp
      go_enter Try.func14, Try.ntmps14
      go_wp2_with fail
      have t0 : ((w.alloc (.cells #[.int .i64 d.n, .slice A d.gs.length c] 30)).alloc (.cells #[.int .i64 0, .slice none 0 0] 30)).drew.cell? ⟨w.heap.size, 0, none⟩ = some (.int .i64 (m : Int)) := by rw [← HM.out]; exact cell_drew (by repeat (first | (refine Eq.trans (World.cell?_alloc_at _ _ _ _ ?hh) ?_; (case hh => (simp; done)); rfl) | refine cell_alloc_keep _ ?_))
      have t1 : ((w.alloc (.cells #[.int .i64 d.n, .slice A d.gs.length c] 30)).alloc (.cells #[.int .i64 0, .slice none 0 0] 30)).drew.cell? ⟨w.heap.size, 1, none⟩ = some (.slice A d.gs.length c) := cell_drew (by repeat (first | (refine Eq.trans (World.cell?_alloc_at _ _ _ _ ?hh) ?_; (case hh => (simp; done)); rfl) | refine cell_alloc_keep _ ?_))
      have r0 : ((w.alloc (.cells #[.int .i64 d.n, .slice A d.gs.length c] 30)).alloc (.cells #[.int .i64 0, .slice none 0 0] 30)).drew.cell? ⟨w.heap.size + 1, 0, none⟩ = some (.int .i64 0) := cell_drew (by repeat (first | (refine Eq.trans (World.cell?_alloc_at _ _ _ _ ?hh) ?_; (case hh => (simp; done)); rfl) | refine cell_alloc_keep _ ?_))
      have r1 : ((w.alloc (.cells #[.int .i64 d.n, .slice A d.gs.length c] 30)).alloc (.cells #[.int .i64 0, .slice none 0 0] 30)).drew.cell? ⟨w.heap.size + 1, 1, none⟩ = some (.slice none 0 0) := cell_drew (by repeat (first | (refine Eq.trans (World.cell?_alloc_at _ _ _ _ ?hh) ?_; (case hh => (simp; done)); rfl) | refine cell_alloc_keep _ ?_))
      have f0 : ((w.alloc (.cells #[.int .i64 d.n, .slice A d.gs.length c] 30)).alloc (.cells #[.int .i64 0, .slice none 0 0] 30)).drew.frozen? ⟨w.heap.size + 1, 0, none⟩ = false := frz_drew (by repeat (first | (refine World.frozen?_alloc_at _ _ _ _ ?hh; case hh => (simp; done)) | (refine frozen_alloc_lt _ ?hh ?_; case hh => first | omega | (simp <;> omega))))
      have f1 : ((w.alloc (.cells #[.int .i64 d.n, .slice A d.gs.length c] 30)).alloc (.cells #[.int .i64 0, .slice none 0 0] 30)).drew.frozen? ⟨w.heap.size + 1, 1, none⟩ = false := frz_drew (by repeat (first | (refine World.frozen?_alloc_at _ _ _ _ ?hh; case hh => (simp; done)) | (refine frozen_alloc_lt _ ?hh ?_; case hh => first | omega | (simp <;> omega))))
      have bw := Lib.hid (show Below w.heap.size w ((w.alloc (.cells #[.int .i64 d.n, .slice A d.gs.length c] 30)).alloc (.cells #[.int .i64 0, .slice none 0 0] 30)).drew from (by repeat (first | exact Below.refl _ _ | assumption | refine Below.drew ?_ | refine below_drewN ?_ _ | refine Below.alloc ?_ (by first | omega | (simp <;> omega)) _ | refine Below.setCell ?_ (by first | omega | (simp <;> omega)) _ | refine Below.trans ?_ (Below.mono (by assumption) (by first | omega | (simp <;> omega))))))
      have z0 : w.heap.size + 1 < ((w.alloc (.cells #[.int .i64 d.n, .slice A d.gs.length c] 30)).alloc (.cells #[.int .i64 0, .slice none 0 0] 30)).drew.heap.size := by simp
      refine AnyB.begin (S := (fun w' => w'.cell? ⟨w.heap.size, 0, none⟩ = some (.int .i64 (m : Int)) ∧ w'.cell? ⟨w.heap.size, 1, none⟩ = some (.slice A d.gs.length c))) [] (by kernel_rfl) ?_ (fun hHeld0 => ?_)
      · ((try dsimp only); (first | exact ⟨t0, t1⟩))
      refine AnyB.take (i := 0) (oi := _) (v := ?_) (by simp only [List.getElem?_toArray, List.getElem?_cons_zero, List.getElem?_cons_succ]; rfl) (by kernel_rfl) (by kernel_rfl) (by kernel_rfl) (by kernel_rfl) (by kernel_rfl) (by intro _ _ _ h; exact h) (Or.inl ⟨by rfl, ?_⟩) (by assumption) ?_
      rotate_left
      · (intro w hSw; (try dsimp only at hSw); go_simp; (try (with_reducible rfl)))
      try simp only [Act.put, List.setIfInBounds_toArray, List.set_cons_zero, List.set_cons_succ]
      refine AnyB.each (rs := [1]) (by kernel_rfl) (by simp) ?_
      refine EachB.cons rfl (fun K hK hB => ?_) ?_
      · skip
        (go_simp; go_at_call 47; refine (HNW.out _ (Rd.below H.out bw.out rfl)).mono ?_; rintro e w1 ⟨rfl, hb1⟩; rw [HB.out]; replace t0 := below_cell hb1 rfl t0; replace t1 := below_cell hb1 rfl t1; replace r0 := below_cell hb1 rfl r0; replace r1 := below_cell hb1 rfl r1; replace f0 := below_frz hb1 rfl (by omega) f0; replace f1 := below_frz hb1 rfl (by omega) f1; have y1 := hb1.size; (try simp at y1); replace bw := Lib.hid (show Below w.heap.size w _ from Below.trans bw.out (hb1.mono (by omega))); clear hb1; dsimp only)
        refine hK.out _ _ ?_ (fun hHeld1 => ?_)
        · ((try dsimp only); (first | exact ⟨t0, t1⟩))
        clear hB hK K hHeld0
        refine AnyB.takeQ (i := 2) (oi := _) (v := ?_) (by simp only [List.getElem?_toArray, List.getElem?_cons_zero, List.getElem?_cons_succ]; rfl) (by kernel_rfl) (by kernel_rfl) (by kernel_rfl) (by intro _ _ _ h; exact h) (Or.inl ⟨by rfl, ?_⟩) ?_
        rotate_left
        · (intro w hSw; (try dsimp only at hSw); go_simp; (try (with_reducible rfl)))
        try simp only [Act.put, List.setIfInBounds_toArray, List.set_cons_zero, List.set_cons_succ]
        refine AnyB.takeQ (i := 3) (oi := _) (v := ?_) (by simp only [List.getElem?_toArray, List.getElem?_cons_zero, List.getElem?_cons_succ]; rfl) (by kernel_rfl) (by kernel_rfl) (by kernel_rfl) (by intro _ _ _ h; exact h) (Or.inl ⟨by rfl, ?_⟩) ?_
        rotate_left
        · (intro w hSw; (try dsimp only at hSw); go_simp; (try (with_reducible rfl)))
        try simp only [Act.put, List.setIfInBounds_toArray, List.set_cons_zero, List.set_cons_succ]
        refine AnyB.takeQ (i := 4) (oi := _) (v := ?_) (by simp only [List.getElem?_toArray, List.getElem?_cons_zero, List.getElem?_cons_succ]; rfl) (by kernel_rfl) (by kernel_rfl) (by kernel_rfl) (by intro _ _ _ h; exact h) (Or.inl ⟨by rfl, ?_⟩) ?_
        rotate_left
        · (intro w hSw; (try dsimp only at hSw); go_simp; (try (with_reducible rfl)))
        try simp only [Act.put, List.setIfInBounds_toArray, List.set_cons_zero, List.set_cons_succ]
        refine AnyB.take (i := 5) (oi := _) (v := ?_) (by simp only [List.getElem?_toArray, List.getElem?_cons_zero, List.getElem?_cons_succ]; rfl) (by kernel_rfl) (by kernel_rfl) (by kernel_rfl) (by kernel_rfl) (by kernel_rfl) (by intro _ _ _ h; exact h) (Or.inl ⟨by rfl, ?_⟩) (by assumption) ?_
        rotate_left
        · (intro w hSw; (try dsimp only at hSw); go_simp; (try (with_reducible rfl)))
        try simp only [Act.put, List.setIfInBounds_toArray, List.set_cons_zero, List.set_cons_succ]
        refine AnyB.takeQ (i := 6) (oi := _) (v := ?_) (by simp only [List.getElem?_toArray, List.getElem?_cons_zero, List.getElem?_cons_succ]; rfl) (by kernel_rfl) (by kernel_rfl) (by kernel_rfl) (by intro _ _ _ h; exact h) (Or.inl ⟨by rfl, ?_⟩) ?_
        rotate_left
        · (intro w hSw; (try dsimp only at hSw); go_simp; (try (with_reducible rfl)))
        try simp only [Act.put, List.setIfInBounds_toArray, List.set_cons_zero, List.set_cons_succ]
        refine AnyB.takeQ (i := 7) (oi := _) (v := ?_) (by simp only [List.getElem?_toArray, List.getElem?_cons_zero, List.getElem?_cons_succ]; rfl) (by kernel_rfl) (by kernel_rfl) (by kernel_rfl) (by intro _ _ _ h; exact h) (Or.inl ⟨by rfl, ?_⟩) ?_
        rotate_left
        · (intro w hSw; (try dsimp only at hSw); go_simp; (try (with_reducible rfl)))
        try simp only [Act.put, List.setIfInBounds_toArray, List.set_cons_zero, List.set_cons_succ]
        refine AnyB.take (i := 8) (oi := _) (v := ?_) (by simp only [List.getElem?_toArray, List.getElem?_cons_zero, List.getElem?_cons_succ]; rfl) (by kernel_rfl) (by kernel_rfl) (by kernel_rfl) (by kernel_rfl) (by kernel_rfl) (by intro _ _ _ h; exact h) (Or.inl ⟨by rfl, ?_⟩) (by assumption) ?_
        rotate_left
        · (intro w hSw; (try dsimp only at hSw); go_simp; (try (with_reducible rfl)))
        try simp only [Act.put, List.setIfInBounds_toArray, List.set_cons_zero, List.set_cons_succ]
        refine AnyB.each (rs := [9]) (by kernel_rfl) (by simp) ?_
        refine EachB.cons rfl (fun K hK hB => ?_) ?_
        · skip
          (go_simp; go_at_call 49; refine (spec_l12Identity_any (m : Int) _ (by omega) (by omega)).mono ?_; rintro e w2 ⟨v2, rfl, ho2, hb2⟩; have O2 := Lib.hid (OwnI.rd ho2); clear ho2; rw [Int.toNat_natCast] at O2; obtain ⟨a2, c2, rfl, _⟩ := O2.out.form; replace t0 := below_cell hb2 rfl t0; replace t1 := below_cell hb2 rfl t1; replace r0 := below_cell hb2 rfl r0; replace r1 := below_cell hb2 rfl r1; replace f0 := below_frz hb2 rfl (by omega) f0; replace f1 := below_frz hb2 rfl (by omega) f1; have y2 := hb2.size; replace bw := Lib.hid (show Below w.heap.size w _ from Below.trans bw.out (hb2.mono (by omega))); clear hb2; dsimp only)
          refine hK.out _ _ ?_ (fun hHeld2 => ?_)
          · ((try dsimp only); (first | exact ⟨t0, t1⟩))
          clear hB hK K hHeld1
          refine AnyB.takeQ (i := 10) (oi := _) (v := ?_) (by simp only [List.getElem?_toArray, List.getElem?_cons_zero, List.getElem?_cons_succ]; rfl) (by kernel_rfl) (by kernel_rfl) (by kernel_rfl) (by intro _ _ _ h; exact h) (Or.inl ⟨by rfl, ?_⟩) ?_
          rotate_left
          · (intro w hSw; (try dsimp only at hSw); go_simp; (try (with_reducible rfl)))
          try simp only [Act.put, List.setIfInBounds_toArray, List.set_cons_zero, List.set_cons_succ]
          refine AnyB.each (rs := [11]) (by kernel_rfl) (by simp) ?_
          refine EachB.cons rfl (fun K hK hB => ?_) ?_
          · skip
            (go_simp; go_at_call 48; refine (spec_l13Valid_any _ _ ⟨(m : Int), 0, ts, idRows m⟩ _ (Rd.below KT.out bw.out rfl) O2.out hm (by rw [idRows_len]; omega)).mono ?_; rintro e w3 ⟨rfl, hb3⟩; rw [HPP.out]; replace t0 := below_cell hb3 rfl t0; replace t1 := below_cell hb3 rfl t1; replace r0 := below_cell hb3 rfl r0; replace r1 := below_cell hb3 rfl r1; replace f0 := below_frz hb3 rfl (by omega) f0; replace f1 := below_frz hb3 rfl (by omega) f1; have y3 := hb3.size; replace bw := Lib.hid (show Below w.heap.size w _ from Below.trans bw.out (hb3.mono (by omega))); clear hb3; dsimp only)
            refine hK.out _ _ ?_ (fun hHeld3 => ?_)
            · ((try dsimp only); (first | exact ⟨t0, t1⟩))
            clear hB hK K hHeld2
            refine AnyB.takeQ (i := 12) (oi := _) (v := ?_) (by simp only [List.getElem?_toArray, List.getElem?_cons_zero, List.getElem?_cons_succ]; rfl) (by kernel_rfl) (by kernel_rfl) (by kernel_rfl) (by intro _ _ _ h; exact h) (Or.inl ⟨by rfl, ?_⟩) ?_
            rotate_left
            · (intro w hSw; (try dsimp only at hSw); go_simp; (try (with_reducible rfl)))
            try simp only [Act.put, List.setIfInBounds_toArray, List.set_cons_zero, List.set_cons_succ]
            refine AnyB.takeQ (i := 13) (oi := _) (v := ?_) (by simp only [List.getElem?_toArray, List.getElem?_cons_zero, List.getElem?_cons_succ]; rfl) (by kernel_rfl) (by kernel_rfl) (by kernel_rfl) (by intro _ _ _ h; exact h) (Or.inl ⟨by rfl, ?_⟩) ?_
            rotate_left
            · (intro w hSw; (try dsimp only at hSw); go_simp; (try (with_reducible rfl)))
            try simp only [Act.put, List.setIfInBounds_toArray, List.set_cons_zero, List.set_cons_succ]
            refine AnyB.none (by kernel_rfl) ?_ _
            go_wp2_with fail
            have hZ := box_set2 (nb := w.heap.size + 1) (.int .i64 0) (.slice none 0 0) r0 r1
            have bq := bw.out
            exact bodyPost_ret (v := .tuple #[.agg #[.int .i64 0, .slice none 0 0], .bool false]) (by simp [results, Try.results14, go_sem, hZ]) rfl (CircPost.none HG.out (by repeat (first | exact Below.refl _ _ | assumption | refine Below.drew ?_ | refine below_drewN ?_ _ | refine Below.alloc ?_ (by first | omega | (simp <;> omega)) _ | refine Below.setCell ?_ (by first | omega | (simp <;> omega)) _ | refine Below.trans ?_ (Below.mono (by assumption) (by first | omega | (simp <;> omega))))))
          exact EachB.nil
        exact EachB.nil
      exact EachB.nil
end Go.Proofs.Ytdkfoleippncnaa
