/- LinearOf, plain: the rows behind a circuit of controlled NOTs and swaps. -/
import Derived.Test.YtbcjligkjoimmaaZ22Par1
import Derived.Test.YtbcjligkjoimmaaZ20M
import Derived.Test.YtbcjligkjoimmaaZ08Gate1
import Derived.Test.YtbcjligkjoimmaaZ07Dat
import Derived.Test.YtbcjligkjoimmaaZ02ElGate
import Derived.Deep.DeepMust
namespace Go.Proofs.Ytbcjligkjoimmaa
set_option linter.unusedSimpArgs false
set_option linter.unusedVariables false
set_option linter.unnecessarySimpa false
set_option maxRecDepth 200000
open Go.ChangeShapes Go.WideShapes Go.ChangeAt Go.RowKit

def swapN (L : List Nat) (a b : Nat) : List Nat := (L.set a (L.getD b 0)).set b (L.getD a 0)
theorem xor_back (a b : Nat) : a ^^^ (a ^^^ b) = b := by rw [← Nat.xor_assoc, Nat.xor_self, Nat.zero_xor]
theorem xor_mid (a b : Nat) : a ^^^ (b ^^^ a) = b := by rw [Nat.xor_comm b a, xor_back]
theorem swap_cx {L : List Nat} {a b : Nat} (ha : a < L.length) (hb : b < L.length) (hab : a ≠ b) : cxN (cxN (cxN L a b) b a) a b = swapN L a b := by
  unfold cxN swapN
  apply List.ext_getElem
  · simp
  · intro i h1 h2
    simp only [List.getElem_set, List.getD_eq_getElem?_getD, List.getElem?_set, List.length_set, ha, hb, if_true, Ne.symm hab, hab, if_false, Option.getD_some]
    by_cases e1 : b = i
    · subst e1
      simp [hab, ha, hb, Nat.xor_assoc, Nat.xor_comm, xor_back, xor_mid]
    · by_cases e2 : a = i
      · subst e2
        simp [e1, ha, hb, Nat.xor_assoc, Nat.xor_comm, xor_back, xor_mid]
      · simp [e1, e2]
theorem swapN_len (L : List Nat) (a b : Nat) : (swapN L a b).length = L.length := by simp [swapN]
theorem Small.swap {L : List Nat} (h : Small L) (a b : Nat) : Small (swapN L a b) := by
  intro x hx
  rcases List.mem_or_eq_of_mem_set hx with hx | rfl
  · rcases List.mem_or_eq_of_mem_set hx with hx | rfl
    · exact h x hx
    · exact h.get _
  · exact h.get _
def loF (s : Option (List Nat)) (g : E3) : Option (List Nat) :=
  match s with
  | none => none
  | some L => if g.a = 9 then some (cxN L g.b.toNat g.c.toNat) else if g.a = 11 then some (swapN L g.b.toNat g.c.toNat) else none
def loTo (n : Nat) (gs : List E3) (k : Nat) : Option (List Nat) := (gs.take k).foldl loF (some (idN n))
theorem loF_none (gs : List E3) : gs.foldl loF none = none := by
  induction gs with
  | nil => rfl
  | cons g gs ih => exact ih
theorem loTo_succ {n : Nat} {gs : List E3} {k : Nat} (h : k < gs.length) : loTo n gs (k + 1) = loF (loTo n gs k) (gs.getD k ⟨0, 0, 0⟩) := by
  unfold loTo
  rw [List.take_succ_eq_append_getElem h, List.foldl_append]
  simp [List.getD, h]
theorem loTo_bad {n : Nat} {gs : List E3} {k : Nat} (h : loTo n gs k = none) (hk : k ≤ gs.length) : loTo n gs gs.length = none := by
  unfold loTo at h ⊢
  rw [List.take_length]
  conv => lhs; rw [← List.take_append_drop k gs, List.foldl_append, h]
  exact loF_none _
noncomputable def loG (d : Circ) : Option (List Int) := if circB d = true then (loTo d.n.toNat d.gs d.gs.length).map ints else none
theorem loTo_ok {n : Nat} (h1 : 1 ≤ n) (h2 : n ≤ 5) (gs : List E3) : ∀ k L, loTo n gs k = some L → L.length = n ∧ Small L
  | 0, L, h => by injection h with h; subst h; exact ⟨idN_len n, idN_small h2⟩
  | k + 1, L, h => by
    by_cases hk : k < gs.length
    · rw [loTo_succ hk] at h
      cases e : loTo n gs k with
      | none => rw [e] at h; cases h
      | some M =>
        have ih := loTo_ok h1 h2 gs k M e
        rw [e] at h
        unfold loF at h
        dsimp only at h
        split at h
        · injection h with h; subst h; exact ⟨by rw [cxN_len]; exact ih.1, ih.2.cx _ _⟩
        · split at h
          · injection h with h; subst h; exact ⟨by rw [swapN_len]; exact ih.1, ih.2.swap _ _⟩
          · cases h
    · have e : loTo n gs (k + 1) = loTo n gs k := by unfold loTo; rw [List.take_of_length_le (by omega), List.take_of_length_le (by omega)]
      rw [e] at h
      exact loTo_ok h1 h2 gs k L h
end Go.Proofs.Ytbcjligkjoimmaa
namespace Go.Proofs.Ytbcjligkjoimmaa
set_option linter.unusedSimpArgs false
set_option linter.unusedVariables false
set_option linter.unnecessarySimpa false
set_option maxRecDepth 200000
open Go.ChangeShapes Go.WideShapes Go.ChangeAt Go.RowKit

def AddOk (zs : List Int) (a b : Int) : Prop := (0 ≤ a ∧ a ≤ (zs.length : Int) - 1) ∧ (0 ≤ b ∧ b ≤ (zs.length : Int) - 1) ∧ a ≠ b
instance (zs : List Int) (a b : Int) : Decidable (AddOk zs a b) := by unfold AddOk; infer_instance
noncomputable def addG (zs : List Int) (a b : Int) : Option (List Int) := if LinOk zs ∧ AddOk zs a b then some (ints (cxN (zs.map Int.toNat) a.toNat b.toNat)) else none
theorem addG_none {zs : List Int} {a b : Int} (h : LinOk zs → ¬ AddOk zs a b) : addG zs a b = none := if_neg fun k => h k.1 k.2
theorem addG_some {zs : List Int} {a b : Int} (h : LinOk zs) (k : AddOk zs a b) : addG zs a b = some (ints (cxN (zs.map Int.toNat) a.toNat b.toNat)) := if_pos ⟨h, k⟩
theorem addG_len (zs : List Int) (a b : Int) : ((addG zs a b).getD []).length ≤ 1000000 := by
  unfold addG
  split
  · next h => simp [ints_len, cxN_len]; have := h.1.1; omega
  · simp
theorem LinPost.none {w w' : World} {r : Option (List Int)} (hr : r = none) (hb : Below w.heap.size w w') : LinPost w r (.returned (.tuple #[.agg #[.slice none 0 0], .bool false])) w' := by
  subst hr; exact ⟨_, rfl, own_nil _ _, hb⟩
theorem LinPost.some {w w' : World} {r : Option (List Int)} {v : Value} {zs : List Int} (hr : r = some zs) (ho : OwnI w' w.heap.size v zs) (hb : Below w.heap.size w w') : LinPost w r (.returned (.tuple #[.agg #[v], .bool true])) w' := by
  subst hr; exact ⟨_, rfl, ho, hb⟩
theorem LinOk.nat {zs : List Int} (h : LinOk zs) : zs = ints (zs.map Int.toNat) ∧ Small (zs.map Int.toNat) := by
  refine ⟨nat_of_ints fun z hz => (h.small.2 z hz).1, fun x hx => ?_⟩
  obtain ⟨z, hz, rfl⟩ := List.mem_map.1 hx
  have := h.small.2 z hz; omega
theorem linB_true {zs : List Int} (h : LinOk zs) : linB zs = true := decide_eq_true h
theorem linB_false {zs : List Int} (h : ¬ LinOk zs) : linB zs = false := decide_eq_false h
theorem gate_add {zs : List Int} {a b : Int} (h : 1 ≤ zs.length ∧ zs.length ≤ 5) : GateOk (zs.length : Int) ⟨9, a, b⟩ ↔ AddOk zs a b := by
  unfold GateOk AddOk
  dsimp only
  omega
end Go.Proofs.Ytbcjligkjoimmaa
namespace Go.Proofs.Ytbcjligkjoimmaa
set_option linter.unusedSimpArgs false
set_option linter.unusedVariables false
set_option linter.unnecessarySimpa false
set_option maxRecDepth 200000
open Go.ChangeShapes Go.WideShapes Go.ChangeAt Go.RowKit

/-- The test of the term at place k. -/
def termB (n : Int) (ts : List E2) (k : Nat) : Bool :=
  decide (1 ≤ (ts.getD k ⟨0, 0⟩).a ∧ (ts.getD k ⟨0, 0⟩).a ≤ 2 ^ n.toNat - 1) && decide (1 ≤ (ts.getD k ⟨0, 0⟩).b ∧ (ts.getD k ⟨0, 0⟩).b ≤ 7) && (decide (k = 0) || decide ((ts.getD (k - 1) ⟨0, 0⟩).a < (ts.getD k ⟨0, 0⟩).a))
def TermsOk (n : Int) (ts : List E2) : Prop := ∀ k, k < ts.length → termB n ts k = true
noncomputable instance (n : Int) (ts : List E2) : Decidable (TermsOk n ts) := Classical.propDecidable _
noncomputable def termsB (n : Int) (ts : List E2) : Bool := decide (TermsOk n ts)
theorem terms_yes {n : Int} {ts : List E2} {k : Nat} (hk : ts.length ≤ k) (h : Hid (∀ j, j < ts.length → j < k → termB n ts j = true)) : true = termsB n ts := by
  symm; exact decide_eq_true fun j hj => h.out j hj (by omega)
theorem terms_no {n : Int} {ts : List E2} {k : Nat} (hk : k < ts.length) (h : termB n ts k = false) : false = termsB n ts := by
  symm; exact decide_eq_false fun hh => by have := hh k hk; rw [h] at this; cases this
theorem terms_next {n : Int} {ts : List E2} {k : Nat} (h : Hid (∀ j, j < ts.length → j < k → termB n ts j = true)) (hk : termB n ts k = true) : Hid (∀ j, j < ts.length → j < k + 1 → termB n ts j = true) := by
  intro j hj hjk
  by_cases e : j = k
  · subst e; exact hk
  · exact h.out j hj (by omega)
theorem termsB_true {n : Int} {ts : List E2} (h : TermsOk n ts) : termsB n ts = true := decide_eq_true h
theorem termsB_false {n : Int} {ts : List E2} (h : ¬ TermsOk n ts) : termsB n ts = false := decide_eq_false h
def PPOk (p : PP) : Prop := (1 ≤ p.n ∧ p.n ≤ 5) ∧ (0 ≤ p.ph ∧ p.ph ≤ 7) ∧ (p.out.length : Int) = p.n ∧ LinOk p.out ∧ TermsOk p.n p.ts
noncomputable instance (p : PP) : Decidable (PPOk p) := Classical.propDecidable _
noncomputable def ppB (p : PP) : Bool := decide (PPOk p)
theorem ppB_true {p : PP} (h : PPOk p) : ppB p = true := decide_eq_true h
theorem ppB_false {p : PP} (h : ¬ PPOk p) : ppB p = false := decide_eq_false h
theorem ppB_terms {p : PP} (h1 : 1 ≤ p.n ∧ p.n ≤ 5) (h2 : 0 ≤ p.ph ∧ p.ph ≤ 7) (h3 : (p.out.length : Int) = p.n) (h4 : LinOk p.out) : ppB p = termsB p.n p.ts := by
  unfold ppB termsB
  by_cases h : TermsOk p.n p.ts
  · rw [decide_eq_true h]; exact decide_eq_true ⟨h1, h2, h3, h4, h⟩
  · rw [decide_eq_false h]; exact decide_eq_false fun k => h k.2.2.2.2
theorem term_ok {n : Int} {ts : List E2} (h : TermsOk n ts) {k : Nat} (hk : k < ts.length) : 1 ≤ (ts.getD k ⟨0, 0⟩).a ∧ (ts.getD k ⟨0, 0⟩).a ≤ 2 ^ n.toNat - 1 ∧ 1 ≤ (ts.getD k ⟨0, 0⟩).b ∧ (ts.getD k ⟨0, 0⟩).b ≤ 7 := by
  have := h k hk
  unfold termB at this
  simp only [Bool.and_eq_true, decide_eq_true_eq] at this
  exact ⟨this.1.1.1, this.1.1.2, this.1.2.1, this.1.2.2⟩
theorem pow_5 {n : Int} (h : 1 ≤ n ∧ n ≤ 5) : (2 : Int) ^ n.toNat ≤ 32 ∧ 2 ≤ (2 : Int) ^ n.toNat := by
  have : n = 1 ∨ n = 2 ∨ n = 3 ∨ n = 4 ∨ n = 5 := by omega
  rcases this with rfl | rfl | rfl | rfl | rfl <;> decide
/-- Terms rise by their masks, so they are fewer than the masks. -/
theorem terms_rise {n : Int} {ts : List E2} (h : TermsOk n ts) : ∀ k, k < ts.length → (k : Int) + 1 ≤ (ts.getD k ⟨0, 0⟩).a
  | 0, hk => by have := term_ok h hk; omega
  | k + 1, hk => by
    have h1 := terms_rise h k (by omega)
    have h2 := h (k + 1) hk
    unfold termB at h2
    simp only [Bool.and_eq_true, Bool.or_eq_true, decide_eq_true_eq, Nat.add_sub_cancel] at h2
    have h3 : (ts.getD k ⟨0, 0⟩).a < (ts.getD (k + 1) ⟨0, 0⟩).a := h2.2.resolve_left (by omega)
    omega
theorem terms_few {n : Int} {ts : List E2} (hn : 1 ≤ n ∧ n ≤ 5) (h : TermsOk n ts) : ts.length ≤ 31 := by
  rcases Nat.eq_zero_or_pos ts.length with h0 | h0
  · omega
  · have h1 := terms_rise h (ts.length - 1) (by omega)
    have h2 := term_ok h (show ts.length - 1 < ts.length by omega)
    have h3 := pow_5 hn
    omega
end Go.Proofs.Ytbcjligkjoimmaa
namespace Go.Proofs.Ytbcjligkjoimmaa
set_option linter.unusedSimpArgs false
set_option linter.unusedVariables false
set_option linter.unnecessarySimpa false
set_option maxRecDepth 200000
open Go.ChangeShapes Go.WideShapes Go.ChangeAt Go.RowKit

theorem info_gate : (Try.prog.info? 58).map (fun i => (i.zero, i.size, i.bytes)) = some (some (.agg #[.int .i64 0, .int .i64 0, .int .i64 0]), 3, 24) := by kernel_rfl
def rotKinds (c : Int) : List Int := if c = 1 then [7] else if c = 2 then [5] else if c = 3 then [5, 7] else if c = 4 then [4] else if c = 5 then [4, 7] else if c = 6 then [6] else if c = 7 then [8] else []
def rotF (q c : Int) : List E3 := (rotKinds c).map fun k => ⟨k, q, 0⟩

theorem spec_l13Rotation_0 (q : Int) (w : World) :
    Calls Try.prog 55 #[.int .i64 q, .int .i64 0] w fun e w' => ∃ v, e = .returned v ∧ OwnE w' w.heap.size 58 v E3.cs 3 ([] : List E3) ∧ Below w.heap.size w w' := by
  obtain ⟨i0, hi, hz0, hz1, hz2⟩ := info_parts info_gate
  go_enter Try.func55, Try.ntmps55
  go_wp2_with fail
  refine wp_loop_rounds 1 ?_
  rw [rounds_succ]
  go_wp2_with fail
  go_ret
  exact ⟨_, rfl, OwnE.nil _ _ _, (by repeat (first | exact Below.refl _ _ | assumption | refine Below.drew ?_ | refine below_drewN ?_ _ | refine Below.alloc ?_ (by first | omega | (simp <;> omega)) _ | refine Below.setCell ?_ (by first | omega | (simp <;> omega)) _ | refine Below.trans ?_ (Below.mono (by assumption) (by first | omega | (simp <;> omega)))))⟩

theorem spec_l13Rotation_1 (q : Int) (w : World) :
    Calls Try.prog 55 #[.int .i64 q, .int .i64 1] w fun e w' => ∃ v, e = .returned v ∧ OwnE w' w.heap.size 58 v E3.cs 3 [⟨7, q, 0⟩] ∧ Below w.heap.size w w' := by
  obtain ⟨i0, hi, hz0, hz1, hz2⟩ := info_parts info_gate
  go_enter Try.func55, Try.ntmps55
  go_wp2_with fail
  go_loopw [5, 20] (fun v i wr => ((i = .int .i64 0 ∧ Hid (OwnE wr (w.heap.size + 7) 58 v E3.cs 3 ([] : List E3))) ∨ (i = .int .i64 1 ∧ Hid (OwnE wr (w.heap.size + 7) 58 v E3.cs 3 [⟨7, q, 0⟩]))) ∧ wr.cell? ⟨w.heap.size, 0, none⟩ = some (.int .i64 7) ∧ wr.frozen? ⟨w.heap.size, 0, none⟩ = false ∧ Below w.heap.size w wr ∧ w.heap.size + 8 ≤ wr.heap.size) (fun _ i _ => 1 - (intOf i).toNat)
  case atStart => exact ⟨.inl ⟨rfl, World.ownsRow_nil _ _ _ _⟩, (by repeat (first | (refine Eq.trans (World.cell?_alloc_at _ _ _ _ ?hh) ?_; (case hh => (simp; done)); rfl) | refine cell_alloc_keep _ ?_)), (by repeat (first | (refine World.frozen?_alloc_at _ _ _ _ ?hh; case hh => (simp; done)) | (refine frozen_alloc_lt _ ?hh ?_; case hh => first | omega | (simp <;> omega)))), (by repeat (first | exact Below.refl _ _ | assumption | refine Below.drew ?_ | refine below_drewN ?_ _ | refine Below.alloc ?_ (by first | omega | (simp <;> omega)) _ | refine Below.setCell ?_ (by first | omega | (simp <;> omega)) _ | refine Below.trans ?_ (Below.mono (by assumption) (by first | omega | (simp <;> omega))))), by simp⟩
  case round =>
    obtain ⟨hown, c0, f0, hbel, hsz⟩ := hrel
    rcases hown with ⟨rfl, hown⟩ | ⟨rfl, hown⟩
    · go_wp2_with (at_builtin; go_must (refine wpList_append_some _ rfl _ _ 29 rfl (w.heap.size + 7) 58 i0 (.agg #[.int .i64 0, .int .i64 0, .int .i64 0]) 3 24 Try.underlying29 hi hz0 hz1 hz2 rfl (by decide) _ 0 _ rfl (hown.out.alloc _) ⟨wr.heap.size, 0, none⟩ 1 1 [.int .i64 7, .int .i64 q, .int .i64 0] rfl rfl (news_cells _ [_, _, _] _) (fun x hx => by simp at hx; rcases hx with rfl | rfl | rfl <;> rfl) (by unfold maxLen; omega) (by omega) (by simp; omega) (by omega) ?_; intro g cap w1 hown1 hg1 hgr1 hsz1))
      have hb1 := grown_below (hbel.alloc (by omega) _) (hown.out.alloc _) hgr1 (by omega) (by simp; omega)
      have hz : w.heap.size + 8 ≤ w1.heap.size := by simp at hsz1; omega
      have d0 := grown_keep _ hown.out hgr1 c0 f0 (by omega)
      go_roundw
      case rel => exact ⟨(.inr (⟨rfl, hown1⟩)), d0.1, d0.2, hb1, hz⟩
      case measure => simp [intOf]
    · go_wp2_with fail
      go_ret
      exact ⟨_, rfl, OwnE.le hown.out (by omega), (by repeat (first | exact Below.refl _ _ | assumption | refine Below.drew ?_ | refine below_drewN ?_ _ | refine Below.alloc ?_ (by first | omega | (simp <;> omega)) _ | refine Below.setCell ?_ (by first | omega | (simp <;> omega)) _ | refine Below.trans ?_ (Below.mono (by assumption) (by first | omega | (simp <;> omega)))))⟩

theorem spec_l13Rotation_2 (q : Int) (w : World) :
    Calls Try.prog 55 #[.int .i64 q, .int .i64 2] w fun e w' => ∃ v, e = .returned v ∧ OwnE w' w.heap.size 58 v E3.cs 3 [⟨5, q, 0⟩] ∧ Below w.heap.size w w' := by
  obtain ⟨i0, hi, hz0, hz1, hz2⟩ := info_parts info_gate
  go_enter Try.func55, Try.ntmps55
  go_wp2_with fail
  go_loopw [5, 20] (fun v i wr => ((i = .int .i64 0 ∧ Hid (OwnE wr (w.heap.size + 7) 58 v E3.cs 3 ([] : List E3))) ∨ (i = .int .i64 1 ∧ Hid (OwnE wr (w.heap.size + 7) 58 v E3.cs 3 [⟨5, q, 0⟩]))) ∧ wr.cell? ⟨w.heap.size + 1, 0, none⟩ = some (.int .i64 5) ∧ wr.frozen? ⟨w.heap.size + 1, 0, none⟩ = false ∧ Below w.heap.size w wr ∧ w.heap.size + 8 ≤ wr.heap.size) (fun _ i _ => 1 - (intOf i).toNat)
  case atStart => exact ⟨.inl ⟨rfl, World.ownsRow_nil _ _ _ _⟩, (by repeat (first | (refine Eq.trans (World.cell?_alloc_at _ _ _ _ ?hh) ?_; (case hh => (simp; done)); rfl) | refine cell_alloc_keep _ ?_)), (by repeat (first | (refine World.frozen?_alloc_at _ _ _ _ ?hh; case hh => (simp; done)) | (refine frozen_alloc_lt _ ?hh ?_; case hh => first | omega | (simp <;> omega)))), (by repeat (first | exact Below.refl _ _ | assumption | refine Below.drew ?_ | refine below_drewN ?_ _ | refine Below.alloc ?_ (by first | omega | (simp <;> omega)) _ | refine Below.setCell ?_ (by first | omega | (simp <;> omega)) _ | refine Below.trans ?_ (Below.mono (by assumption) (by first | omega | (simp <;> omega))))), by simp⟩
  case round =>
    obtain ⟨hown, c0, f0, hbel, hsz⟩ := hrel
    rcases hown with ⟨rfl, hown⟩ | ⟨rfl, hown⟩
    · go_wp2_with (at_builtin; go_must (refine wpList_append_some _ rfl _ _ 29 rfl (w.heap.size + 7) 58 i0 (.agg #[.int .i64 0, .int .i64 0, .int .i64 0]) 3 24 Try.underlying29 hi hz0 hz1 hz2 rfl (by decide) _ 0 _ rfl (hown.out.alloc _) ⟨wr.heap.size, 0, none⟩ 1 1 [.int .i64 5, .int .i64 q, .int .i64 0] rfl rfl (news_cells _ [_, _, _] _) (fun x hx => by simp at hx; rcases hx with rfl | rfl | rfl <;> rfl) (by unfold maxLen; omega) (by omega) (by simp; omega) (by omega) ?_; intro g cap w1 hown1 hg1 hgr1 hsz1))
      have hb1 := grown_below (hbel.alloc (by omega) _) (hown.out.alloc _) hgr1 (by omega) (by simp; omega)
      have hz : w.heap.size + 8 ≤ w1.heap.size := by simp at hsz1; omega
      have d0 := grown_keep _ hown.out hgr1 c0 f0 (by omega)
      go_roundw
      case rel => exact ⟨(.inr (⟨rfl, hown1⟩)), d0.1, d0.2, hb1, hz⟩
      case measure => simp [intOf]
    · go_wp2_with fail
      go_ret
      exact ⟨_, rfl, OwnE.le hown.out (by omega), (by repeat (first | exact Below.refl _ _ | assumption | refine Below.drew ?_ | refine below_drewN ?_ _ | refine Below.alloc ?_ (by first | omega | (simp <;> omega)) _ | refine Below.setCell ?_ (by first | omega | (simp <;> omega)) _ | refine Below.trans ?_ (Below.mono (by assumption) (by first | omega | (simp <;> omega)))))⟩

theorem spec_l13Rotation_3 (q : Int) (w : World) :
    Calls Try.prog 55 #[.int .i64 q, .int .i64 3] w fun e w' => ∃ v, e = .returned v ∧ OwnE w' w.heap.size 58 v E3.cs 3 [⟨5, q, 0⟩, ⟨7, q, 0⟩] ∧ Below w.heap.size w w' := by
  obtain ⟨i0, hi, hz0, hz1, hz2⟩ := info_parts info_gate
  go_enter Try.func55, Try.ntmps55
  go_wp2_with fail
  go_loopw [5, 20] (fun v i wr => ((i = .int .i64 0 ∧ Hid (OwnE wr (w.heap.size + 7) 58 v E3.cs 3 ([] : List E3))) ∨ (i = .int .i64 1 ∧ Hid (OwnE wr (w.heap.size + 7) 58 v E3.cs 3 [⟨5, q, 0⟩])) ∨ (i = .int .i64 2 ∧ Hid (OwnE wr (w.heap.size + 7) 58 v E3.cs 3 [⟨5, q, 0⟩, ⟨7, q, 0⟩]))) ∧ wr.cell? ⟨w.heap.size + 2, 0, none⟩ = some (.int .i64 5) ∧ wr.frozen? ⟨w.heap.size + 2, 0, none⟩ = false ∧ wr.cell? ⟨w.heap.size + 2, 1, none⟩ = some (.int .i64 7) ∧ wr.frozen? ⟨w.heap.size + 2, 1, none⟩ = false ∧ Below w.heap.size w wr ∧ w.heap.size + 8 ≤ wr.heap.size) (fun _ i _ => 2 - (intOf i).toNat)
  case atStart => exact ⟨.inl ⟨rfl, World.ownsRow_nil _ _ _ _⟩, (by repeat (first | (refine Eq.trans (World.cell?_alloc_at _ _ _ _ ?hh) ?_; (case hh => (simp; done)); rfl) | refine cell_alloc_keep _ ?_)), (by repeat (first | (refine World.frozen?_alloc_at _ _ _ _ ?hh; case hh => (simp; done)) | (refine frozen_alloc_lt _ ?hh ?_; case hh => first | omega | (simp <;> omega)))), (by repeat (first | (refine Eq.trans (World.cell?_alloc_at _ _ _ _ ?hh) ?_; (case hh => (simp; done)); rfl) | refine cell_alloc_keep _ ?_)), (by repeat (first | (refine World.frozen?_alloc_at _ _ _ _ ?hh; case hh => (simp; done)) | (refine frozen_alloc_lt _ ?hh ?_; case hh => first | omega | (simp <;> omega)))), (by repeat (first | exact Below.refl _ _ | assumption | refine Below.drew ?_ | refine below_drewN ?_ _ | refine Below.alloc ?_ (by first | omega | (simp <;> omega)) _ | refine Below.setCell ?_ (by first | omega | (simp <;> omega)) _ | refine Below.trans ?_ (Below.mono (by assumption) (by first | omega | (simp <;> omega))))), by simp⟩
  case round =>
    obtain ⟨hown, c0, f0, c1, f1, hbel, hsz⟩ := hrel
    rcases hown with ⟨rfl, hown⟩ | ⟨rfl, hown⟩ | ⟨rfl, hown⟩
    · go_wp2_with (at_builtin; go_must (refine wpList_append_some _ rfl _ _ 29 rfl (w.heap.size + 7) 58 i0 (.agg #[.int .i64 0, .int .i64 0, .int .i64 0]) 3 24 Try.underlying29 hi hz0 hz1 hz2 rfl (by decide) _ 0 _ rfl (hown.out.alloc _) ⟨wr.heap.size, 0, none⟩ 1 1 [.int .i64 5, .int .i64 q, .int .i64 0] rfl rfl (news_cells _ [_, _, _] _) (fun x hx => by simp at hx; rcases hx with rfl | rfl | rfl <;> rfl) (by unfold maxLen; omega) (by omega) (by simp; omega) (by omega) ?_; intro g cap w1 hown1 hg1 hgr1 hsz1))
      have hb1 := grown_below (hbel.alloc (by omega) _) (hown.out.alloc _) hgr1 (by omega) (by simp; omega)
      have hz : w.heap.size + 8 ≤ w1.heap.size := by simp at hsz1; omega
      have d0 := grown_keep _ hown.out hgr1 c0 f0 (by omega)
      have d1 := grown_keep _ hown.out hgr1 c1 f1 (by omega)
      go_roundw
      case rel => exact ⟨(.inr (.inl ⟨rfl, hown1⟩)), d0.1, d0.2, d1.1, d1.2, hb1, hz⟩
      case measure => simp [intOf]
    · go_wp2_with (at_builtin; go_must (refine wpList_append_some _ rfl _ _ 29 rfl (w.heap.size + 7) 58 i0 (.agg #[.int .i64 0, .int .i64 0, .int .i64 0]) 3 24 Try.underlying29 hi hz0 hz1 hz2 rfl (by decide) _ 1 _ rfl (hown.out.alloc _) ⟨wr.heap.size, 0, none⟩ 1 1 [.int .i64 7, .int .i64 q, .int .i64 0] rfl rfl (news_cells _ [_, _, _] _) (fun x hx => by simp at hx; rcases hx with rfl | rfl | rfl <;> rfl) (by unfold maxLen; omega) (by omega) (by simp; omega) (by omega) ?_; intro g cap w1 hown1 hg1 hgr1 hsz1))
      have hb1 := grown_below (hbel.alloc (by omega) _) (hown.out.alloc _) hgr1 (by omega) (by simp; omega)
      have hz : w.heap.size + 8 ≤ w1.heap.size := by simp at hsz1; omega
      have d0 := grown_keep _ hown.out hgr1 c0 f0 (by omega)
      have d1 := grown_keep _ hown.out hgr1 c1 f1 (by omega)
      go_roundw
      case rel => exact ⟨(.inr (.inr (⟨rfl, hown1⟩))), d0.1, d0.2, d1.1, d1.2, hb1, hz⟩
      case measure => simp [intOf]
    · go_wp2_with fail
      go_ret
      exact ⟨_, rfl, OwnE.le hown.out (by omega), (by repeat (first | exact Below.refl _ _ | assumption | refine Below.drew ?_ | refine below_drewN ?_ _ | refine Below.alloc ?_ (by first | omega | (simp <;> omega)) _ | refine Below.setCell ?_ (by first | omega | (simp <;> omega)) _ | refine Below.trans ?_ (Below.mono (by assumption) (by first | omega | (simp <;> omega)))))⟩

theorem spec_l13Rotation_4 (q : Int) (w : World) :
    Calls Try.prog 55 #[.int .i64 q, .int .i64 4] w fun e w' => ∃ v, e = .returned v ∧ OwnE w' w.heap.size 58 v E3.cs 3 [⟨4, q, 0⟩] ∧ Below w.heap.size w w' := by
  obtain ⟨i0, hi, hz0, hz1, hz2⟩ := info_parts info_gate
  go_enter Try.func55, Try.ntmps55
  go_wp2_with fail
  go_loopw [5, 20] (fun v i wr => ((i = .int .i64 0 ∧ Hid (OwnE wr (w.heap.size + 7) 58 v E3.cs 3 ([] : List E3))) ∨ (i = .int .i64 1 ∧ Hid (OwnE wr (w.heap.size + 7) 58 v E3.cs 3 [⟨4, q, 0⟩]))) ∧ wr.cell? ⟨w.heap.size + 3, 0, none⟩ = some (.int .i64 4) ∧ wr.frozen? ⟨w.heap.size + 3, 0, none⟩ = false ∧ Below w.heap.size w wr ∧ w.heap.size + 8 ≤ wr.heap.size) (fun _ i _ => 1 - (intOf i).toNat)
  case atStart => exact ⟨.inl ⟨rfl, World.ownsRow_nil _ _ _ _⟩, (by repeat (first | (refine Eq.trans (World.cell?_alloc_at _ _ _ _ ?hh) ?_; (case hh => (simp; done)); rfl) | refine cell_alloc_keep _ ?_)), (by repeat (first | (refine World.frozen?_alloc_at _ _ _ _ ?hh; case hh => (simp; done)) | (refine frozen_alloc_lt _ ?hh ?_; case hh => first | omega | (simp <;> omega)))), (by repeat (first | exact Below.refl _ _ | assumption | refine Below.drew ?_ | refine below_drewN ?_ _ | refine Below.alloc ?_ (by first | omega | (simp <;> omega)) _ | refine Below.setCell ?_ (by first | omega | (simp <;> omega)) _ | refine Below.trans ?_ (Below.mono (by assumption) (by first | omega | (simp <;> omega))))), by simp⟩
  case round =>
    obtain ⟨hown, c0, f0, hbel, hsz⟩ := hrel
    rcases hown with ⟨rfl, hown⟩ | ⟨rfl, hown⟩
    · go_wp2_with (at_builtin; go_must (refine wpList_append_some _ rfl _ _ 29 rfl (w.heap.size + 7) 58 i0 (.agg #[.int .i64 0, .int .i64 0, .int .i64 0]) 3 24 Try.underlying29 hi hz0 hz1 hz2 rfl (by decide) _ 0 _ rfl (hown.out.alloc _) ⟨wr.heap.size, 0, none⟩ 1 1 [.int .i64 4, .int .i64 q, .int .i64 0] rfl rfl (news_cells _ [_, _, _] _) (fun x hx => by simp at hx; rcases hx with rfl | rfl | rfl <;> rfl) (by unfold maxLen; omega) (by omega) (by simp; omega) (by omega) ?_; intro g cap w1 hown1 hg1 hgr1 hsz1))
      have hb1 := grown_below (hbel.alloc (by omega) _) (hown.out.alloc _) hgr1 (by omega) (by simp; omega)
      have hz : w.heap.size + 8 ≤ w1.heap.size := by simp at hsz1; omega
      have d0 := grown_keep _ hown.out hgr1 c0 f0 (by omega)
      go_roundw
      case rel => exact ⟨(.inr (⟨rfl, hown1⟩)), d0.1, d0.2, hb1, hz⟩
      case measure => simp [intOf]
    · go_wp2_with fail
      go_ret
      exact ⟨_, rfl, OwnE.le hown.out (by omega), (by repeat (first | exact Below.refl _ _ | assumption | refine Below.drew ?_ | refine below_drewN ?_ _ | refine Below.alloc ?_ (by first | omega | (simp <;> omega)) _ | refine Below.setCell ?_ (by first | omega | (simp <;> omega)) _ | refine Below.trans ?_ (Below.mono (by assumption) (by first | omega | (simp <;> omega)))))⟩

theorem spec_l13Rotation_5 (q : Int) (w : World) :
    Calls Try.prog 55 #[.int .i64 q, .int .i64 5] w fun e w' => ∃ v, e = .returned v ∧ OwnE w' w.heap.size 58 v E3.cs 3 [⟨4, q, 0⟩, ⟨7, q, 0⟩] ∧ Below w.heap.size w w' := by
  obtain ⟨i0, hi, hz0, hz1, hz2⟩ := info_parts info_gate
  go_enter Try.func55, Try.ntmps55
  go_wp2_with fail
  go_loopw [5, 20] (fun v i wr => ((i = .int .i64 0 ∧ Hid (OwnE wr (w.heap.size + 7) 58 v E3.cs 3 ([] : List E3))) ∨ (i = .int .i64 1 ∧ Hid (OwnE wr (w.heap.size + 7) 58 v E3.cs 3 [⟨4, q, 0⟩])) ∨ (i = .int .i64 2 ∧ Hid (OwnE wr (w.heap.size + 7) 58 v E3.cs 3 [⟨4, q, 0⟩, ⟨7, q, 0⟩]))) ∧ wr.cell? ⟨w.heap.size + 4, 0, none⟩ = some (.int .i64 4) ∧ wr.frozen? ⟨w.heap.size + 4, 0, none⟩ = false ∧ wr.cell? ⟨w.heap.size + 4, 1, none⟩ = some (.int .i64 7) ∧ wr.frozen? ⟨w.heap.size + 4, 1, none⟩ = false ∧ Below w.heap.size w wr ∧ w.heap.size + 8 ≤ wr.heap.size) (fun _ i _ => 2 - (intOf i).toNat)
  case atStart => exact ⟨.inl ⟨rfl, World.ownsRow_nil _ _ _ _⟩, (by repeat (first | (refine Eq.trans (World.cell?_alloc_at _ _ _ _ ?hh) ?_; (case hh => (simp; done)); rfl) | refine cell_alloc_keep _ ?_)), (by repeat (first | (refine World.frozen?_alloc_at _ _ _ _ ?hh; case hh => (simp; done)) | (refine frozen_alloc_lt _ ?hh ?_; case hh => first | omega | (simp <;> omega)))), (by repeat (first | (refine Eq.trans (World.cell?_alloc_at _ _ _ _ ?hh) ?_; (case hh => (simp; done)); rfl) | refine cell_alloc_keep _ ?_)), (by repeat (first | (refine World.frozen?_alloc_at _ _ _ _ ?hh; case hh => (simp; done)) | (refine frozen_alloc_lt _ ?hh ?_; case hh => first | omega | (simp <;> omega)))), (by repeat (first | exact Below.refl _ _ | assumption | refine Below.drew ?_ | refine below_drewN ?_ _ | refine Below.alloc ?_ (by first | omega | (simp <;> omega)) _ | refine Below.setCell ?_ (by first | omega | (simp <;> omega)) _ | refine Below.trans ?_ (Below.mono (by assumption) (by first | omega | (simp <;> omega))))), by simp⟩
  case round =>
    obtain ⟨hown, c0, f0, c1, f1, hbel, hsz⟩ := hrel
    rcases hown with ⟨rfl, hown⟩ | ⟨rfl, hown⟩ | ⟨rfl, hown⟩
    · go_wp2_with (at_builtin; go_must (refine wpList_append_some _ rfl _ _ 29 rfl (w.heap.size + 7) 58 i0 (.agg #[.int .i64 0, .int .i64 0, .int .i64 0]) 3 24 Try.underlying29 hi hz0 hz1 hz2 rfl (by decide) _ 0 _ rfl (hown.out.alloc _) ⟨wr.heap.size, 0, none⟩ 1 1 [.int .i64 4, .int .i64 q, .int .i64 0] rfl rfl (news_cells _ [_, _, _] _) (fun x hx => by simp at hx; rcases hx with rfl | rfl | rfl <;> rfl) (by unfold maxLen; omega) (by omega) (by simp; omega) (by omega) ?_; intro g cap w1 hown1 hg1 hgr1 hsz1))
      have hb1 := grown_below (hbel.alloc (by omega) _) (hown.out.alloc _) hgr1 (by omega) (by simp; omega)
      have hz : w.heap.size + 8 ≤ w1.heap.size := by simp at hsz1; omega
      have d0 := grown_keep _ hown.out hgr1 c0 f0 (by omega)
      have d1 := grown_keep _ hown.out hgr1 c1 f1 (by omega)
      go_roundw
      case rel => exact ⟨(.inr (.inl ⟨rfl, hown1⟩)), d0.1, d0.2, d1.1, d1.2, hb1, hz⟩
      case measure => simp [intOf]
    · go_wp2_with (at_builtin; go_must (refine wpList_append_some _ rfl _ _ 29 rfl (w.heap.size + 7) 58 i0 (.agg #[.int .i64 0, .int .i64 0, .int .i64 0]) 3 24 Try.underlying29 hi hz0 hz1 hz2 rfl (by decide) _ 1 _ rfl (hown.out.alloc _) ⟨wr.heap.size, 0, none⟩ 1 1 [.int .i64 7, .int .i64 q, .int .i64 0] rfl rfl (news_cells _ [_, _, _] _) (fun x hx => by simp at hx; rcases hx with rfl | rfl | rfl <;> rfl) (by unfold maxLen; omega) (by omega) (by simp; omega) (by omega) ?_; intro g cap w1 hown1 hg1 hgr1 hsz1))
      have hb1 := grown_below (hbel.alloc (by omega) _) (hown.out.alloc _) hgr1 (by omega) (by simp; omega)
      have hz : w.heap.size + 8 ≤ w1.heap.size := by simp at hsz1; omega
      have d0 := grown_keep _ hown.out hgr1 c0 f0 (by omega)
      have d1 := grown_keep _ hown.out hgr1 c1 f1 (by omega)
      go_roundw
      case rel => exact ⟨(.inr (.inr (⟨rfl, hown1⟩))), d0.1, d0.2, d1.1, d1.2, hb1, hz⟩
      case measure => simp [intOf]
    · go_wp2_with fail
      go_ret
      exact ⟨_, rfl, OwnE.le hown.out (by omega), (by repeat (first | exact Below.refl _ _ | assumption | refine Below.drew ?_ | refine below_drewN ?_ _ | refine Below.alloc ?_ (by first | omega | (simp <;> omega)) _ | refine Below.setCell ?_ (by first | omega | (simp <;> omega)) _ | refine Below.trans ?_ (Below.mono (by assumption) (by first | omega | (simp <;> omega)))))⟩

theorem spec_l13Rotation_6 (q : Int) (w : World) :
    Calls Try.prog 55 #[.int .i64 q, .int .i64 6] w fun e w' => ∃ v, e = .returned v ∧ OwnE w' w.heap.size 58 v E3.cs 3 [⟨6, q, 0⟩] ∧ Below w.heap.size w w' := by
  obtain ⟨i0, hi, hz0, hz1, hz2⟩ := info_parts info_gate
  go_enter Try.func55, Try.ntmps55
  go_wp2_with fail
  go_loopw [5, 20] (fun v i wr => ((i = .int .i64 0 ∧ Hid (OwnE wr (w.heap.size + 7) 58 v E3.cs 3 ([] : List E3))) ∨ (i = .int .i64 1 ∧ Hid (OwnE wr (w.heap.size + 7) 58 v E3.cs 3 [⟨6, q, 0⟩]))) ∧ wr.cell? ⟨w.heap.size + 5, 0, none⟩ = some (.int .i64 6) ∧ wr.frozen? ⟨w.heap.size + 5, 0, none⟩ = false ∧ Below w.heap.size w wr ∧ w.heap.size + 8 ≤ wr.heap.size) (fun _ i _ => 1 - (intOf i).toNat)
  case atStart => exact ⟨.inl ⟨rfl, World.ownsRow_nil _ _ _ _⟩, (by repeat (first | (refine Eq.trans (World.cell?_alloc_at _ _ _ _ ?hh) ?_; (case hh => (simp; done)); rfl) | refine cell_alloc_keep _ ?_)), (by repeat (first | (refine World.frozen?_alloc_at _ _ _ _ ?hh; case hh => (simp; done)) | (refine frozen_alloc_lt _ ?hh ?_; case hh => first | omega | (simp <;> omega)))), (by repeat (first | exact Below.refl _ _ | assumption | refine Below.drew ?_ | refine below_drewN ?_ _ | refine Below.alloc ?_ (by first | omega | (simp <;> omega)) _ | refine Below.setCell ?_ (by first | omega | (simp <;> omega)) _ | refine Below.trans ?_ (Below.mono (by assumption) (by first | omega | (simp <;> omega))))), by simp⟩
  case round =>
    obtain ⟨hown, c0, f0, hbel, hsz⟩ := hrel
    rcases hown with ⟨rfl, hown⟩ | ⟨rfl, hown⟩
    · go_wp2_with (at_builtin; go_must (refine wpList_append_some _ rfl _ _ 29 rfl (w.heap.size + 7) 58 i0 (.agg #[.int .i64 0, .int .i64 0, .int .i64 0]) 3 24 Try.underlying29 hi hz0 hz1 hz2 rfl (by decide) _ 0 _ rfl (hown.out.alloc _) ⟨wr.heap.size, 0, none⟩ 1 1 [.int .i64 6, .int .i64 q, .int .i64 0] rfl rfl (news_cells _ [_, _, _] _) (fun x hx => by simp at hx; rcases hx with rfl | rfl | rfl <;> rfl) (by unfold maxLen; omega) (by omega) (by simp; omega) (by omega) ?_; intro g cap w1 hown1 hg1 hgr1 hsz1))
      have hb1 := grown_below (hbel.alloc (by omega) _) (hown.out.alloc _) hgr1 (by omega) (by simp; omega)
      have hz : w.heap.size + 8 ≤ w1.heap.size := by simp at hsz1; omega
      have d0 := grown_keep _ hown.out hgr1 c0 f0 (by omega)
      go_roundw
      case rel => exact ⟨(.inr (⟨rfl, hown1⟩)), d0.1, d0.2, hb1, hz⟩
      case measure => simp [intOf]
    · go_wp2_with fail
      go_ret
      exact ⟨_, rfl, OwnE.le hown.out (by omega), (by repeat (first | exact Below.refl _ _ | assumption | refine Below.drew ?_ | refine below_drewN ?_ _ | refine Below.alloc ?_ (by first | omega | (simp <;> omega)) _ | refine Below.setCell ?_ (by first | omega | (simp <;> omega)) _ | refine Below.trans ?_ (Below.mono (by assumption) (by first | omega | (simp <;> omega)))))⟩

theorem spec_l13Rotation_7 (q : Int) (w : World) :
    Calls Try.prog 55 #[.int .i64 q, .int .i64 7] w fun e w' => ∃ v, e = .returned v ∧ OwnE w' w.heap.size 58 v E3.cs 3 [⟨8, q, 0⟩] ∧ Below w.heap.size w w' := by
  obtain ⟨i0, hi, hz0, hz1, hz2⟩ := info_parts info_gate
  go_enter Try.func55, Try.ntmps55
  go_wp2_with fail
  go_loopw [5, 20] (fun v i wr => ((i = .int .i64 0 ∧ Hid (OwnE wr (w.heap.size + 7) 58 v E3.cs 3 ([] : List E3))) ∨ (i = .int .i64 1 ∧ Hid (OwnE wr (w.heap.size + 7) 58 v E3.cs 3 [⟨8, q, 0⟩]))) ∧ wr.cell? ⟨w.heap.size + 6, 0, none⟩ = some (.int .i64 8) ∧ wr.frozen? ⟨w.heap.size + 6, 0, none⟩ = false ∧ Below w.heap.size w wr ∧ w.heap.size + 8 ≤ wr.heap.size) (fun _ i _ => 1 - (intOf i).toNat)
  case atStart => exact ⟨.inl ⟨rfl, World.ownsRow_nil _ _ _ _⟩, (by repeat (first | (refine Eq.trans (World.cell?_alloc_at _ _ _ _ ?hh) ?_; (case hh => (simp; done)); rfl) | refine cell_alloc_keep _ ?_)), (by repeat (first | (refine World.frozen?_alloc_at _ _ _ _ ?hh; case hh => (simp; done)) | (refine frozen_alloc_lt _ ?hh ?_; case hh => first | omega | (simp <;> omega)))), (by repeat (first | exact Below.refl _ _ | assumption | refine Below.drew ?_ | refine below_drewN ?_ _ | refine Below.alloc ?_ (by first | omega | (simp <;> omega)) _ | refine Below.setCell ?_ (by first | omega | (simp <;> omega)) _ | refine Below.trans ?_ (Below.mono (by assumption) (by first | omega | (simp <;> omega))))), by simp⟩
  case round =>
    obtain ⟨hown, c0, f0, hbel, hsz⟩ := hrel
    rcases hown with ⟨rfl, hown⟩ | ⟨rfl, hown⟩
    · go_wp2_with (at_builtin; go_must (refine wpList_append_some _ rfl _ _ 29 rfl (w.heap.size + 7) 58 i0 (.agg #[.int .i64 0, .int .i64 0, .int .i64 0]) 3 24 Try.underlying29 hi hz0 hz1 hz2 rfl (by decide) _ 0 _ rfl (hown.out.alloc _) ⟨wr.heap.size, 0, none⟩ 1 1 [.int .i64 8, .int .i64 q, .int .i64 0] rfl rfl (news_cells _ [_, _, _] _) (fun x hx => by simp at hx; rcases hx with rfl | rfl | rfl <;> rfl) (by unfold maxLen; omega) (by omega) (by simp; omega) (by omega) ?_; intro g cap w1 hown1 hg1 hgr1 hsz1))
      have hb1 := grown_below (hbel.alloc (by omega) _) (hown.out.alloc _) hgr1 (by omega) (by simp; omega)
      have hz : w.heap.size + 8 ≤ w1.heap.size := by simp at hsz1; omega
      have d0 := grown_keep _ hown.out hgr1 c0 f0 (by omega)
      go_roundw
      case rel => exact ⟨(.inr (⟨rfl, hown1⟩)), d0.1, d0.2, hb1, hz⟩
      case measure => simp [intOf]
    · go_wp2_with fail
      go_ret
      exact ⟨_, rfl, OwnE.le hown.out (by omega), (by repeat (first | exact Below.refl _ _ | assumption | refine Below.drew ?_ | refine below_drewN ?_ _ | refine Below.alloc ?_ (by first | omega | (simp <;> omega)) _ | refine Below.setCell ?_ (by first | omega | (simp <;> omega)) _ | refine Below.trans ?_ (Below.mono (by assumption) (by first | omega | (simp <;> omega)))))⟩

theorem impl_rotation_0 (q : Int) (w : World) :
    Calls Try.prog 75 #[.int .i64 q, .int .i64 0] w fun e w' => ∃ v, e = .returned v ∧ OwnE w' w.heap.size 58 v E3.cs 3 ([] : List E3) ∧ Below w.heap.size w w' := by
  obtain ⟨i0, hi, hz0, hz1, hz2⟩ := info_parts info_gate
  go_enter Try.func75, Try.ntmps75
  go_wp2_with fail
  refine wp_loop_rounds 1 ?_
  rw [rounds_succ]
  go_wp2_with fail
  go_ret
  exact ⟨_, rfl, own_lit0 _ _ _ _ (by simp) (by omega), (by repeat (first | exact Below.refl _ _ | assumption | refine Below.drew ?_ | refine below_drewN ?_ _ | refine Below.alloc ?_ (by first | omega | (simp <;> omega)) _ | refine Below.setCell ?_ (by first | omega | (simp <;> omega)) _ | refine Below.trans ?_ (Below.mono (by assumption) (by first | omega | (simp <;> omega)))))⟩

theorem impl_rotation_1 (q : Int) (w : World) :
    Calls Try.prog 75 #[.int .i64 q, .int .i64 1] w fun e w' => ∃ v, e = .returned v ∧ OwnE w' w.heap.size 58 v E3.cs 3 [⟨7, q, 0⟩] ∧ Below w.heap.size w w' := by
  obtain ⟨i0, hi, hz0, hz1, hz2⟩ := info_parts info_gate
  go_enter Try.func75, Try.ntmps75
  go_wp2_with fail
  go_loopw [6, 22] (fun v i wr => ((i = .int .i64 0 ∧ Hid (OwnE wr (w.heap.size + 8) 58 v E3.cs 3 ([] : List E3))) ∨ (i = .int .i64 1 ∧ Hid (OwnE wr (w.heap.size + 8) 58 v E3.cs 3 [⟨7, q, 0⟩]))) ∧ wr.cell? ⟨w.heap.size, 0, none⟩ = some (.int .i64 7) ∧ wr.frozen? ⟨w.heap.size, 0, none⟩ = false ∧ Below w.heap.size w wr ∧ w.heap.size + 9 ≤ wr.heap.size) (fun _ i _ => 1 - (intOf i).toNat)
  case atStart => exact ⟨.inl ⟨rfl, own_lit0 _ _ _ _ (by simp) (by omega)⟩, (by repeat (first | (refine Eq.trans (World.cell?_alloc_at _ _ _ _ ?hh) ?_; (case hh => (simp; done)); rfl) | refine cell_alloc_keep _ ?_)), (by repeat (first | (refine World.frozen?_alloc_at _ _ _ _ ?hh; case hh => (simp; done)) | (refine frozen_alloc_lt _ ?hh ?_; case hh => first | omega | (simp <;> omega)))), (by repeat (first | exact Below.refl _ _ | assumption | refine Below.drew ?_ | refine below_drewN ?_ _ | refine Below.alloc ?_ (by first | omega | (simp <;> omega)) _ | refine Below.setCell ?_ (by first | omega | (simp <;> omega)) _ | refine Below.trans ?_ (Below.mono (by assumption) (by first | omega | (simp <;> omega))))), by simp⟩
  case round =>
    obtain ⟨hown, c0, f0, hbel, hsz⟩ := hrel
    rcases hown with ⟨rfl, hown⟩ | ⟨rfl, hown⟩
    · go_wp2_with (at_builtin; go_must (refine wpList_append_some _ rfl _ _ 29 rfl (w.heap.size + 8) 58 i0 (.agg #[.int .i64 0, .int .i64 0, .int .i64 0]) 3 24 Try.underlying29 hi hz0 hz1 hz2 rfl (by decide) _ 0 _ rfl (hown.out.alloc _) ⟨wr.heap.size, 0, none⟩ 1 1 [.int .i64 7, .int .i64 q, .int .i64 0] rfl rfl (news_cells _ [_, _, _] _) (fun x hx => by simp at hx; rcases hx with rfl | rfl | rfl <;> rfl) (by unfold maxLen; omega) (by omega) (by simp; omega) (by omega) ?_; intro g cap w1 hown1 hg1 hgr1 hsz1))
      have hb1 := grown_below (hbel.alloc (by omega) _) (hown.out.alloc _) hgr1 (by omega) (by simp; omega)
      have hz : w.heap.size + 9 ≤ w1.heap.size := by simp at hsz1; omega
      have d0 := grown_keep _ hown.out hgr1 c0 f0 (by omega)
      go_roundw
      case rel => exact ⟨(.inr (⟨rfl, hown1⟩)), d0.1, d0.2, hb1, hz⟩
      case measure => simp [intOf]
    · go_wp2_with fail
      go_ret
      exact ⟨_, rfl, OwnE.le hown.out (by omega), (by repeat (first | exact Below.refl _ _ | assumption | refine Below.drew ?_ | refine below_drewN ?_ _ | refine Below.alloc ?_ (by first | omega | (simp <;> omega)) _ | refine Below.setCell ?_ (by first | omega | (simp <;> omega)) _ | refine Below.trans ?_ (Below.mono (by assumption) (by first | omega | (simp <;> omega)))))⟩

theorem impl_rotation_2 (q : Int) (w : World) :
    Calls Try.prog 75 #[.int .i64 q, .int .i64 2] w fun e w' => ∃ v, e = .returned v ∧ OwnE w' w.heap.size 58 v E3.cs 3 [⟨5, q, 0⟩] ∧ Below w.heap.size w w' := by
  obtain ⟨i0, hi, hz0, hz1, hz2⟩ := info_parts info_gate
  go_enter Try.func75, Try.ntmps75
  go_wp2_with fail
  go_loopw [6, 22] (fun v i wr => ((i = .int .i64 0 ∧ Hid (OwnE wr (w.heap.size + 8) 58 v E3.cs 3 ([] : List E3))) ∨ (i = .int .i64 1 ∧ Hid (OwnE wr (w.heap.size + 8) 58 v E3.cs 3 [⟨5, q, 0⟩]))) ∧ wr.cell? ⟨w.heap.size + 1, 0, none⟩ = some (.int .i64 5) ∧ wr.frozen? ⟨w.heap.size + 1, 0, none⟩ = false ∧ Below w.heap.size w wr ∧ w.heap.size + 9 ≤ wr.heap.size) (fun _ i _ => 1 - (intOf i).toNat)
  case atStart => exact ⟨.inl ⟨rfl, own_lit0 _ _ _ _ (by simp) (by omega)⟩, (by repeat (first | (refine Eq.trans (World.cell?_alloc_at _ _ _ _ ?hh) ?_; (case hh => (simp; done)); rfl) | refine cell_alloc_keep _ ?_)), (by repeat (first | (refine World.frozen?_alloc_at _ _ _ _ ?hh; case hh => (simp; done)) | (refine frozen_alloc_lt _ ?hh ?_; case hh => first | omega | (simp <;> omega)))), (by repeat (first | exact Below.refl _ _ | assumption | refine Below.drew ?_ | refine below_drewN ?_ _ | refine Below.alloc ?_ (by first | omega | (simp <;> omega)) _ | refine Below.setCell ?_ (by first | omega | (simp <;> omega)) _ | refine Below.trans ?_ (Below.mono (by assumption) (by first | omega | (simp <;> omega))))), by simp⟩
  case round =>
    obtain ⟨hown, c0, f0, hbel, hsz⟩ := hrel
    rcases hown with ⟨rfl, hown⟩ | ⟨rfl, hown⟩
    · go_wp2_with (at_builtin; go_must (refine wpList_append_some _ rfl _ _ 29 rfl (w.heap.size + 8) 58 i0 (.agg #[.int .i64 0, .int .i64 0, .int .i64 0]) 3 24 Try.underlying29 hi hz0 hz1 hz2 rfl (by decide) _ 0 _ rfl (hown.out.alloc _) ⟨wr.heap.size, 0, none⟩ 1 1 [.int .i64 5, .int .i64 q, .int .i64 0] rfl rfl (news_cells _ [_, _, _] _) (fun x hx => by simp at hx; rcases hx with rfl | rfl | rfl <;> rfl) (by unfold maxLen; omega) (by omega) (by simp; omega) (by omega) ?_; intro g cap w1 hown1 hg1 hgr1 hsz1))
      have hb1 := grown_below (hbel.alloc (by omega) _) (hown.out.alloc _) hgr1 (by omega) (by simp; omega)
      have hz : w.heap.size + 9 ≤ w1.heap.size := by simp at hsz1; omega
      have d0 := grown_keep _ hown.out hgr1 c0 f0 (by omega)
      go_roundw
      case rel => exact ⟨(.inr (⟨rfl, hown1⟩)), d0.1, d0.2, hb1, hz⟩
      case measure => simp [intOf]
    · go_wp2_with fail
      go_ret
      exact ⟨_, rfl, OwnE.le hown.out (by omega), (by repeat (first | exact Below.refl _ _ | assumption | refine Below.drew ?_ | refine below_drewN ?_ _ | refine Below.alloc ?_ (by first | omega | (simp <;> omega)) _ | refine Below.setCell ?_ (by first | omega | (simp <;> omega)) _ | refine Below.trans ?_ (Below.mono (by assumption) (by first | omega | (simp <;> omega)))))⟩

theorem impl_rotation_3 (q : Int) (w : World) :
    Calls Try.prog 75 #[.int .i64 q, .int .i64 3] w fun e w' => ∃ v, e = .returned v ∧ OwnE w' w.heap.size 58 v E3.cs 3 [⟨5, q, 0⟩, ⟨7, q, 0⟩] ∧ Below w.heap.size w w' := by
  obtain ⟨i0, hi, hz0, hz1, hz2⟩ := info_parts info_gate
  go_enter Try.func75, Try.ntmps75
  go_wp2_with fail
  go_loopw [6, 22] (fun v i wr => ((i = .int .i64 0 ∧ Hid (OwnE wr (w.heap.size + 8) 58 v E3.cs 3 ([] : List E3))) ∨ (i = .int .i64 1 ∧ Hid (OwnE wr (w.heap.size + 8) 58 v E3.cs 3 [⟨5, q, 0⟩])) ∨ (i = .int .i64 2 ∧ Hid (OwnE wr (w.heap.size + 8) 58 v E3.cs 3 [⟨5, q, 0⟩, ⟨7, q, 0⟩]))) ∧ wr.cell? ⟨w.heap.size + 2, 0, none⟩ = some (.int .i64 5) ∧ wr.frozen? ⟨w.heap.size + 2, 0, none⟩ = false ∧ wr.cell? ⟨w.heap.size + 2, 1, none⟩ = some (.int .i64 7) ∧ wr.frozen? ⟨w.heap.size + 2, 1, none⟩ = false ∧ Below w.heap.size w wr ∧ w.heap.size + 9 ≤ wr.heap.size) (fun _ i _ => 2 - (intOf i).toNat)
  case atStart => exact ⟨.inl ⟨rfl, own_lit0 _ _ _ _ (by simp) (by omega)⟩, (by repeat (first | (refine Eq.trans (World.cell?_alloc_at _ _ _ _ ?hh) ?_; (case hh => (simp; done)); rfl) | refine cell_alloc_keep _ ?_)), (by repeat (first | (refine World.frozen?_alloc_at _ _ _ _ ?hh; case hh => (simp; done)) | (refine frozen_alloc_lt _ ?hh ?_; case hh => first | omega | (simp <;> omega)))), (by repeat (first | (refine Eq.trans (World.cell?_alloc_at _ _ _ _ ?hh) ?_; (case hh => (simp; done)); rfl) | refine cell_alloc_keep _ ?_)), (by repeat (first | (refine World.frozen?_alloc_at _ _ _ _ ?hh; case hh => (simp; done)) | (refine frozen_alloc_lt _ ?hh ?_; case hh => first | omega | (simp <;> omega)))), (by repeat (first | exact Below.refl _ _ | assumption | refine Below.drew ?_ | refine below_drewN ?_ _ | refine Below.alloc ?_ (by first | omega | (simp <;> omega)) _ | refine Below.setCell ?_ (by first | omega | (simp <;> omega)) _ | refine Below.trans ?_ (Below.mono (by assumption) (by first | omega | (simp <;> omega))))), by simp⟩
  case round =>
    obtain ⟨hown, c0, f0, c1, f1, hbel, hsz⟩ := hrel
    rcases hown with ⟨rfl, hown⟩ | ⟨rfl, hown⟩ | ⟨rfl, hown⟩
    · go_wp2_with (at_builtin; go_must (refine wpList_append_some _ rfl _ _ 29 rfl (w.heap.size + 8) 58 i0 (.agg #[.int .i64 0, .int .i64 0, .int .i64 0]) 3 24 Try.underlying29 hi hz0 hz1 hz2 rfl (by decide) _ 0 _ rfl (hown.out.alloc _) ⟨wr.heap.size, 0, none⟩ 1 1 [.int .i64 5, .int .i64 q, .int .i64 0] rfl rfl (news_cells _ [_, _, _] _) (fun x hx => by simp at hx; rcases hx with rfl | rfl | rfl <;> rfl) (by unfold maxLen; omega) (by omega) (by simp; omega) (by omega) ?_; intro g cap w1 hown1 hg1 hgr1 hsz1))
      have hb1 := grown_below (hbel.alloc (by omega) _) (hown.out.alloc _) hgr1 (by omega) (by simp; omega)
      have hz : w.heap.size + 9 ≤ w1.heap.size := by simp at hsz1; omega
      have d0 := grown_keep _ hown.out hgr1 c0 f0 (by omega)
      have d1 := grown_keep _ hown.out hgr1 c1 f1 (by omega)
      go_roundw
      case rel => exact ⟨(.inr (.inl ⟨rfl, hown1⟩)), d0.1, d0.2, d1.1, d1.2, hb1, hz⟩
      case measure => simp [intOf]
    · go_wp2_with (at_builtin; go_must (refine wpList_append_some _ rfl _ _ 29 rfl (w.heap.size + 8) 58 i0 (.agg #[.int .i64 0, .int .i64 0, .int .i64 0]) 3 24 Try.underlying29 hi hz0 hz1 hz2 rfl (by decide) _ 1 _ rfl (hown.out.alloc _) ⟨wr.heap.size, 0, none⟩ 1 1 [.int .i64 7, .int .i64 q, .int .i64 0] rfl rfl (news_cells _ [_, _, _] _) (fun x hx => by simp at hx; rcases hx with rfl | rfl | rfl <;> rfl) (by unfold maxLen; omega) (by omega) (by simp; omega) (by omega) ?_; intro g cap w1 hown1 hg1 hgr1 hsz1))
      have hb1 := grown_below (hbel.alloc (by omega) _) (hown.out.alloc _) hgr1 (by omega) (by simp; omega)
      have hz : w.heap.size + 9 ≤ w1.heap.size := by simp at hsz1; omega
      have d0 := grown_keep _ hown.out hgr1 c0 f0 (by omega)
      have d1 := grown_keep _ hown.out hgr1 c1 f1 (by omega)
      go_roundw
      case rel => exact ⟨(.inr (.inr (⟨rfl, hown1⟩))), d0.1, d0.2, d1.1, d1.2, hb1, hz⟩
      case measure => simp [intOf]
    · go_wp2_with fail
      go_ret
      exact ⟨_, rfl, OwnE.le hown.out (by omega), (by repeat (first | exact Below.refl _ _ | assumption | refine Below.drew ?_ | refine below_drewN ?_ _ | refine Below.alloc ?_ (by first | omega | (simp <;> omega)) _ | refine Below.setCell ?_ (by first | omega | (simp <;> omega)) _ | refine Below.trans ?_ (Below.mono (by assumption) (by first | omega | (simp <;> omega)))))⟩

theorem impl_rotation_4 (q : Int) (w : World) :
    Calls Try.prog 75 #[.int .i64 q, .int .i64 4] w fun e w' => ∃ v, e = .returned v ∧ OwnE w' w.heap.size 58 v E3.cs 3 [⟨4, q, 0⟩] ∧ Below w.heap.size w w' := by
  obtain ⟨i0, hi, hz0, hz1, hz2⟩ := info_parts info_gate
  go_enter Try.func75, Try.ntmps75
  go_wp2_with fail
  go_loopw [6, 22] (fun v i wr => ((i = .int .i64 0 ∧ Hid (OwnE wr (w.heap.size + 8) 58 v E3.cs 3 ([] : List E3))) ∨ (i = .int .i64 1 ∧ Hid (OwnE wr (w.heap.size + 8) 58 v E3.cs 3 [⟨4, q, 0⟩]))) ∧ wr.cell? ⟨w.heap.size + 3, 0, none⟩ = some (.int .i64 4) ∧ wr.frozen? ⟨w.heap.size + 3, 0, none⟩ = false ∧ Below w.heap.size w wr ∧ w.heap.size + 9 ≤ wr.heap.size) (fun _ i _ => 1 - (intOf i).toNat)
  case atStart => exact ⟨.inl ⟨rfl, own_lit0 _ _ _ _ (by simp) (by omega)⟩, (by repeat (first | (refine Eq.trans (World.cell?_alloc_at _ _ _ _ ?hh) ?_; (case hh => (simp; done)); rfl) | refine cell_alloc_keep _ ?_)), (by repeat (first | (refine World.frozen?_alloc_at _ _ _ _ ?hh; case hh => (simp; done)) | (refine frozen_alloc_lt _ ?hh ?_; case hh => first | omega | (simp <;> omega)))), (by repeat (first | exact Below.refl _ _ | assumption | refine Below.drew ?_ | refine below_drewN ?_ _ | refine Below.alloc ?_ (by first | omega | (simp <;> omega)) _ | refine Below.setCell ?_ (by first | omega | (simp <;> omega)) _ | refine Below.trans ?_ (Below.mono (by assumption) (by first | omega | (simp <;> omega))))), by simp⟩
  case round =>
    obtain ⟨hown, c0, f0, hbel, hsz⟩ := hrel
    rcases hown with ⟨rfl, hown⟩ | ⟨rfl, hown⟩
    · go_wp2_with (at_builtin; go_must (refine wpList_append_some _ rfl _ _ 29 rfl (w.heap.size + 8) 58 i0 (.agg #[.int .i64 0, .int .i64 0, .int .i64 0]) 3 24 Try.underlying29 hi hz0 hz1 hz2 rfl (by decide) _ 0 _ rfl (hown.out.alloc _) ⟨wr.heap.size, 0, none⟩ 1 1 [.int .i64 4, .int .i64 q, .int .i64 0] rfl rfl (news_cells _ [_, _, _] _) (fun x hx => by simp at hx; rcases hx with rfl | rfl | rfl <;> rfl) (by unfold maxLen; omega) (by omega) (by simp; omega) (by omega) ?_; intro g cap w1 hown1 hg1 hgr1 hsz1))
      have hb1 := grown_below (hbel.alloc (by omega) _) (hown.out.alloc _) hgr1 (by omega) (by simp; omega)
      have hz : w.heap.size + 9 ≤ w1.heap.size := by simp at hsz1; omega
      have d0 := grown_keep _ hown.out hgr1 c0 f0 (by omega)
      go_roundw
      case rel => exact ⟨(.inr (⟨rfl, hown1⟩)), d0.1, d0.2, hb1, hz⟩
      case measure => simp [intOf]
    · go_wp2_with fail
      go_ret
      exact ⟨_, rfl, OwnE.le hown.out (by omega), (by repeat (first | exact Below.refl _ _ | assumption | refine Below.drew ?_ | refine below_drewN ?_ _ | refine Below.alloc ?_ (by first | omega | (simp <;> omega)) _ | refine Below.setCell ?_ (by first | omega | (simp <;> omega)) _ | refine Below.trans ?_ (Below.mono (by assumption) (by first | omega | (simp <;> omega)))))⟩

theorem impl_rotation_5 (q : Int) (w : World) :
    Calls Try.prog 75 #[.int .i64 q, .int .i64 5] w fun e w' => ∃ v, e = .returned v ∧ OwnE w' w.heap.size 58 v E3.cs 3 [⟨4, q, 0⟩, ⟨7, q, 0⟩] ∧ Below w.heap.size w w' := by
  obtain ⟨i0, hi, hz0, hz1, hz2⟩ := info_parts info_gate
  go_enter Try.func75, Try.ntmps75
  go_wp2_with fail
  go_loopw [6, 22] (fun v i wr => ((i = .int .i64 0 ∧ Hid (OwnE wr (w.heap.size + 8) 58 v E3.cs 3 ([] : List E3))) ∨ (i = .int .i64 1 ∧ Hid (OwnE wr (w.heap.size + 8) 58 v E3.cs 3 [⟨4, q, 0⟩])) ∨ (i = .int .i64 2 ∧ Hid (OwnE wr (w.heap.size + 8) 58 v E3.cs 3 [⟨4, q, 0⟩, ⟨7, q, 0⟩]))) ∧ wr.cell? ⟨w.heap.size + 4, 0, none⟩ = some (.int .i64 4) ∧ wr.frozen? ⟨w.heap.size + 4, 0, none⟩ = false ∧ wr.cell? ⟨w.heap.size + 4, 1, none⟩ = some (.int .i64 7) ∧ wr.frozen? ⟨w.heap.size + 4, 1, none⟩ = false ∧ Below w.heap.size w wr ∧ w.heap.size + 9 ≤ wr.heap.size) (fun _ i _ => 2 - (intOf i).toNat)
  case atStart => exact ⟨.inl ⟨rfl, own_lit0 _ _ _ _ (by simp) (by omega)⟩, (by repeat (first | (refine Eq.trans (World.cell?_alloc_at _ _ _ _ ?hh) ?_; (case hh => (simp; done)); rfl) | refine cell_alloc_keep _ ?_)), (by repeat (first | (refine World.frozen?_alloc_at _ _ _ _ ?hh; case hh => (simp; done)) | (refine frozen_alloc_lt _ ?hh ?_; case hh => first | omega | (simp <;> omega)))), (by repeat (first | (refine Eq.trans (World.cell?_alloc_at _ _ _ _ ?hh) ?_; (case hh => (simp; done)); rfl) | refine cell_alloc_keep _ ?_)), (by repeat (first | (refine World.frozen?_alloc_at _ _ _ _ ?hh; case hh => (simp; done)) | (refine frozen_alloc_lt _ ?hh ?_; case hh => first | omega | (simp <;> omega)))), (by repeat (first | exact Below.refl _ _ | assumption | refine Below.drew ?_ | refine below_drewN ?_ _ | refine Below.alloc ?_ (by first | omega | (simp <;> omega)) _ | refine Below.setCell ?_ (by first | omega | (simp <;> omega)) _ | refine Below.trans ?_ (Below.mono (by assumption) (by first | omega | (simp <;> omega))))), by simp⟩
  case round =>
    obtain ⟨hown, c0, f0, c1, f1, hbel, hsz⟩ := hrel
    rcases hown with ⟨rfl, hown⟩ | ⟨rfl, hown⟩ | ⟨rfl, hown⟩
    · go_wp2_with (at_builtin; go_must (refine wpList_append_some _ rfl _ _ 29 rfl (w.heap.size + 8) 58 i0 (.agg #[.int .i64 0, .int .i64 0, .int .i64 0]) 3 24 Try.underlying29 hi hz0 hz1 hz2 rfl (by decide) _ 0 _ rfl (hown.out.alloc _) ⟨wr.heap.size, 0, none⟩ 1 1 [.int .i64 4, .int .i64 q, .int .i64 0] rfl rfl (news_cells _ [_, _, _] _) (fun x hx => by simp at hx; rcases hx with rfl | rfl | rfl <;> rfl) (by unfold maxLen; omega) (by omega) (by simp; omega) (by omega) ?_; intro g cap w1 hown1 hg1 hgr1 hsz1))
      have hb1 := grown_below (hbel.alloc (by omega) _) (hown.out.alloc _) hgr1 (by omega) (by simp; omega)
      have hz : w.heap.size + 9 ≤ w1.heap.size := by simp at hsz1; omega
      have d0 := grown_keep _ hown.out hgr1 c0 f0 (by omega)
      have d1 := grown_keep _ hown.out hgr1 c1 f1 (by omega)
      go_roundw
      case rel => exact ⟨(.inr (.inl ⟨rfl, hown1⟩)), d0.1, d0.2, d1.1, d1.2, hb1, hz⟩
      case measure => simp [intOf]
    · go_wp2_with (at_builtin; go_must (refine wpList_append_some _ rfl _ _ 29 rfl (w.heap.size + 8) 58 i0 (.agg #[.int .i64 0, .int .i64 0, .int .i64 0]) 3 24 Try.underlying29 hi hz0 hz1 hz2 rfl (by decide) _ 1 _ rfl (hown.out.alloc _) ⟨wr.heap.size, 0, none⟩ 1 1 [.int .i64 7, .int .i64 q, .int .i64 0] rfl rfl (news_cells _ [_, _, _] _) (fun x hx => by simp at hx; rcases hx with rfl | rfl | rfl <;> rfl) (by unfold maxLen; omega) (by omega) (by simp; omega) (by omega) ?_; intro g cap w1 hown1 hg1 hgr1 hsz1))
      have hb1 := grown_below (hbel.alloc (by omega) _) (hown.out.alloc _) hgr1 (by omega) (by simp; omega)
      have hz : w.heap.size + 9 ≤ w1.heap.size := by simp at hsz1; omega
      have d0 := grown_keep _ hown.out hgr1 c0 f0 (by omega)
      have d1 := grown_keep _ hown.out hgr1 c1 f1 (by omega)
      go_roundw
      case rel => exact ⟨(.inr (.inr (⟨rfl, hown1⟩))), d0.1, d0.2, d1.1, d1.2, hb1, hz⟩
      case measure => simp [intOf]
    · go_wp2_with fail
      go_ret
      exact ⟨_, rfl, OwnE.le hown.out (by omega), (by repeat (first | exact Below.refl _ _ | assumption | refine Below.drew ?_ | refine below_drewN ?_ _ | refine Below.alloc ?_ (by first | omega | (simp <;> omega)) _ | refine Below.setCell ?_ (by first | omega | (simp <;> omega)) _ | refine Below.trans ?_ (Below.mono (by assumption) (by first | omega | (simp <;> omega)))))⟩

theorem impl_rotation_6 (q : Int) (w : World) :
    Calls Try.prog 75 #[.int .i64 q, .int .i64 6] w fun e w' => ∃ v, e = .returned v ∧ OwnE w' w.heap.size 58 v E3.cs 3 [⟨6, q, 0⟩] ∧ Below w.heap.size w w' := by
  obtain ⟨i0, hi, hz0, hz1, hz2⟩ := info_parts info_gate
  go_enter Try.func75, Try.ntmps75
  go_wp2_with fail
  go_loopw [6, 22] (fun v i wr => ((i = .int .i64 0 ∧ Hid (OwnE wr (w.heap.size + 8) 58 v E3.cs 3 ([] : List E3))) ∨ (i = .int .i64 1 ∧ Hid (OwnE wr (w.heap.size + 8) 58 v E3.cs 3 [⟨6, q, 0⟩]))) ∧ wr.cell? ⟨w.heap.size + 5, 0, none⟩ = some (.int .i64 6) ∧ wr.frozen? ⟨w.heap.size + 5, 0, none⟩ = false ∧ Below w.heap.size w wr ∧ w.heap.size + 9 ≤ wr.heap.size) (fun _ i _ => 1 - (intOf i).toNat)
  case atStart => exact ⟨.inl ⟨rfl, own_lit0 _ _ _ _ (by simp) (by omega)⟩, (by repeat (first | (refine Eq.trans (World.cell?_alloc_at _ _ _ _ ?hh) ?_; (case hh => (simp; done)); rfl) | refine cell_alloc_keep _ ?_)), (by repeat (first | (refine World.frozen?_alloc_at _ _ _ _ ?hh; case hh => (simp; done)) | (refine frozen_alloc_lt _ ?hh ?_; case hh => first | omega | (simp <;> omega)))), (by repeat (first | exact Below.refl _ _ | assumption | refine Below.drew ?_ | refine below_drewN ?_ _ | refine Below.alloc ?_ (by first | omega | (simp <;> omega)) _ | refine Below.setCell ?_ (by first | omega | (simp <;> omega)) _ | refine Below.trans ?_ (Below.mono (by assumption) (by first | omega | (simp <;> omega))))), by simp⟩
  case round =>
    obtain ⟨hown, c0, f0, hbel, hsz⟩ := hrel
    rcases hown with ⟨rfl, hown⟩ | ⟨rfl, hown⟩
    · go_wp2_with (at_builtin; go_must (refine wpList_append_some _ rfl _ _ 29 rfl (w.heap.size + 8) 58 i0 (.agg #[.int .i64 0, .int .i64 0, .int .i64 0]) 3 24 Try.underlying29 hi hz0 hz1 hz2 rfl (by decide) _ 0 _ rfl (hown.out.alloc _) ⟨wr.heap.size, 0, none⟩ 1 1 [.int .i64 6, .int .i64 q, .int .i64 0] rfl rfl (news_cells _ [_, _, _] _) (fun x hx => by simp at hx; rcases hx with rfl | rfl | rfl <;> rfl) (by unfold maxLen; omega) (by omega) (by simp; omega) (by omega) ?_; intro g cap w1 hown1 hg1 hgr1 hsz1))
      have hb1 := grown_below (hbel.alloc (by omega) _) (hown.out.alloc _) hgr1 (by omega) (by simp; omega)
      have hz : w.heap.size + 9 ≤ w1.heap.size := by simp at hsz1; omega
      have d0 := grown_keep _ hown.out hgr1 c0 f0 (by omega)
      go_roundw
      case rel => exact ⟨(.inr (⟨rfl, hown1⟩)), d0.1, d0.2, hb1, hz⟩
      case measure => simp [intOf]
    · go_wp2_with fail
      go_ret
      exact ⟨_, rfl, OwnE.le hown.out (by omega), (by repeat (first | exact Below.refl _ _ | assumption | refine Below.drew ?_ | refine below_drewN ?_ _ | refine Below.alloc ?_ (by first | omega | (simp <;> omega)) _ | refine Below.setCell ?_ (by first | omega | (simp <;> omega)) _ | refine Below.trans ?_ (Below.mono (by assumption) (by first | omega | (simp <;> omega)))))⟩

theorem impl_rotation_7 (q : Int) (w : World) :
    Calls Try.prog 75 #[.int .i64 q, .int .i64 7] w fun e w' => ∃ v, e = .returned v ∧ OwnE w' w.heap.size 58 v E3.cs 3 [⟨8, q, 0⟩] ∧ Below w.heap.size w w' := by
  obtain ⟨i0, hi, hz0, hz1, hz2⟩ := info_parts info_gate
  go_enter Try.func75, Try.ntmps75
  go_wp2_with fail
  go_loopw [6, 22] (fun v i wr => ((i = .int .i64 0 ∧ Hid (OwnE wr (w.heap.size + 8) 58 v E3.cs 3 ([] : List E3))) ∨ (i = .int .i64 1 ∧ Hid (OwnE wr (w.heap.size + 8) 58 v E3.cs 3 [⟨8, q, 0⟩]))) ∧ wr.cell? ⟨w.heap.size + 6, 0, none⟩ = some (.int .i64 8) ∧ wr.frozen? ⟨w.heap.size + 6, 0, none⟩ = false ∧ Below w.heap.size w wr ∧ w.heap.size + 9 ≤ wr.heap.size) (fun _ i _ => 1 - (intOf i).toNat)
  case atStart => exact ⟨.inl ⟨rfl, own_lit0 _ _ _ _ (by simp) (by omega)⟩, (by repeat (first | (refine Eq.trans (World.cell?_alloc_at _ _ _ _ ?hh) ?_; (case hh => (simp; done)); rfl) | refine cell_alloc_keep _ ?_)), (by repeat (first | (refine World.frozen?_alloc_at _ _ _ _ ?hh; case hh => (simp; done)) | (refine frozen_alloc_lt _ ?hh ?_; case hh => first | omega | (simp <;> omega)))), (by repeat (first | exact Below.refl _ _ | assumption | refine Below.drew ?_ | refine below_drewN ?_ _ | refine Below.alloc ?_ (by first | omega | (simp <;> omega)) _ | refine Below.setCell ?_ (by first | omega | (simp <;> omega)) _ | refine Below.trans ?_ (Below.mono (by assumption) (by first | omega | (simp <;> omega))))), by simp⟩
  case round =>
    obtain ⟨hown, c0, f0, hbel, hsz⟩ := hrel
    rcases hown with ⟨rfl, hown⟩ | ⟨rfl, hown⟩
    · go_wp2_with (at_builtin; go_must (refine wpList_append_some _ rfl _ _ 29 rfl (w.heap.size + 8) 58 i0 (.agg #[.int .i64 0, .int .i64 0, .int .i64 0]) 3 24 Try.underlying29 hi hz0 hz1 hz2 rfl (by decide) _ 0 _ rfl (hown.out.alloc _) ⟨wr.heap.size, 0, none⟩ 1 1 [.int .i64 8, .int .i64 q, .int .i64 0] rfl rfl (news_cells _ [_, _, _] _) (fun x hx => by simp at hx; rcases hx with rfl | rfl | rfl <;> rfl) (by unfold maxLen; omega) (by omega) (by simp; omega) (by omega) ?_; intro g cap w1 hown1 hg1 hgr1 hsz1))
      have hb1 := grown_below (hbel.alloc (by omega) _) (hown.out.alloc _) hgr1 (by omega) (by simp; omega)
      have hz : w.heap.size + 9 ≤ w1.heap.size := by simp at hsz1; omega
      have d0 := grown_keep _ hown.out hgr1 c0 f0 (by omega)
      go_roundw
      case rel => exact ⟨(.inr (⟨rfl, hown1⟩)), d0.1, d0.2, hb1, hz⟩
      case measure => simp [intOf]
    · go_wp2_with fail
      go_ret
      exact ⟨_, rfl, OwnE.le hown.out (by omega), (by repeat (first | exact Below.refl _ _ | assumption | refine Below.drew ?_ | refine below_drewN ?_ _ | refine Below.alloc ?_ (by first | omega | (simp <;> omega)) _ | refine Below.setCell ?_ (by first | omega | (simp <;> omega)) _ | refine Below.trans ?_ (Below.mono (by assumption) (by first | omega | (simp <;> omega)))))⟩
end Go.Proofs.Ytbcjligkjoimmaa
namespace Go.Proofs.Ytbcjligkjoimmaa
set_option linter.unusedSimpArgs false
set_option linter.unusedVariables false
set_option linter.unnecessarySimpa false
set_option maxRecDepth 200000
open Go.ChangeShapes Go.WideShapes Go.ChangeAt Go.RowKit

theorem rotK_len (c : Int) : (rotKinds c).length ≤ 2 := by
  unfold rotKinds; repeat (first | split | decide)
theorem rotK_in {c k : Int} (h : k ∈ rotKinds c) : 4 ≤ k ∧ k ≤ 8 := by
  unfold rotKinds at h
  repeat (first | (simp at h; omega) | split at h)
theorem rotF_len (q c : Int) : (rotF q c).length ≤ 2 := by unfold rotF; rw [List.length_map]; exact rotK_len c
theorem rot_ok {n q : Nat} {c : Int} (hn : n ≤ 5) (hq : q < n) {g : E3} (hg : g ∈ rotF (q : Int) c) : GateOk (n : Int) g := by
  unfold rotF at hg
  obtain ⟨k, hk, rfl⟩ := List.mem_map.1 hg
  have := rotK_in hk
  unfold GateOk
  dsimp only
  omega
end Go.Proofs.Ytbcjligkjoimmaa
namespace Go.Proofs.Ytbcjligkjoimmaa
set_option linter.unusedSimpArgs false
set_option linter.unusedVariables false
set_option linter.unnecessarySimpa false
set_option maxRecDepth 200000
open Go.ChangeShapes Go.WideShapes Go.ChangeAt Go.RowKit

/-- A term's rotation at a qubit whose row is x. -/
def spT (x q : Nat) (s : List Nat × List E3) (t : E2) : List Nat × List E3 :=
  if t.a = (x : Int) ∧ hasB s.1 x = false then (s.1 ++ [x], s.2 ++ rotF (q : Int) t.b) else s
def spQ (ts : List E2) (R : List Nat) (s : List Nat × List E3) (q : Nat) : List Nat × List E3 := ts.foldl (spT (R.getD q 0) q) s
/-- Behind the reference's rounds: rows, the qubits to look at, masks done, gates. -/
structure PlS where (R : List Nat) (at_ : List Nat) (done : List Nat) (out : List E3)
def PlS.place (ts : List E2) (s : PlS) : List Nat × List E3 := s.at_.foldl (spQ ts s.R) (s.done, s.out)
def PlS.next (ts : List E2) (s : PlS) (g : E3) : PlS := ⟨cxN s.R g.b.toNat g.c.toNat, [g.c.toNat], (s.place ts).1, (s.place ts).2 ++ [g]⟩
def plTo (n : Nat) (gs : List E3) (ts : List E2) (k : Nat) : PlS := (gs.take k).foldl (PlS.next ts) ⟨idN n, List.range n, [], []⟩
theorem plTo_succ {n : Nat} {gs : List E3} {ts : List E2} {k : Nat} (h : k < gs.length) : plTo n gs ts (k + 1) = (plTo n gs ts k).next ts (gs.getD k ⟨0, 0, 0⟩) := by
  unfold plTo
  rw [List.take_succ_eq_append_getElem h, List.foldl_append]
  simp [List.getD, h]
def plEnd (n : Nat) (gs : List E3) (ts : List E2) : List Nat × List E3 := (plTo n gs ts gs.length).place ts
/-- The program's way: the terms that are left, gates. -/
def imP (R : List Nat) (s : List E2 × List E3) (q : Nat) : List E2 × List E3 :=
  match s.1.findIdx? (fun t => decide (t.a = ((R.getD q 0 : Nat) : Int))) with
  | some i => (s.1.eraseIdx i, s.2 ++ rotF (q : Int) (s.1.getD i ⟨0, 0⟩).b)
  | none => s
def imN (s : List Nat × (List E2 × List E3)) (g : E3) : List Nat × (List E2 × List E3) :=
  (cxN s.1 g.b.toNat g.c.toNat, imP (cxN s.1 g.b.toNat g.c.toNat) (s.2.1, s.2.2 ++ [g]) g.c.toNat)
def im0 (n : Nat) (ts : List E2) (k : Nat) : List E2 × List E3 := (List.range k).foldl (imP (idN n)) (ts, [])
theorem im0_succ (n : Nat) (ts : List E2) (k : Nat) : im0 n ts (k + 1) = imP (idN n) (im0 n ts k) k := by
  unfold im0; rw [List.range_succ, List.foldl_append]; rfl
def imTo (n : Nat) (gs : List E3) (ts : List E2) (k : Nat) : List Nat × (List E2 × List E3) := (gs.take k).foldl imN (idN n, im0 n ts n)
theorem imTo_succ {n : Nat} {gs : List E3} {ts : List E2} {k : Nat} (h : k < gs.length) : imTo n gs ts (k + 1) = imN (imTo n gs ts k) (gs.getD k ⟨0, 0, 0⟩) := by
  unfold imTo
  rw [List.take_succ_eq_append_getElem h, List.foldl_append]
  simp [List.getD, h]
/-- The masks rise and are positive. -/
def Rise (ts : List E2) : Prop := (∀ t ∈ ts, 1 ≤ t.a) ∧ ts.Pairwise (fun a b => a.a < b.a)
def leftOf (done : List Nat) (ts : List E2) : List E2 := ts.filter fun t => !hasB done t.a.toNat
theorem has_mem (L : List Nat) (x : Nat) : hasB L x = true ↔ x ∈ L := by
  unfold hasB; rw [List.any_eq_true]
  constructor
  · rintro ⟨y, h, e⟩; rw [← of_decide_eq_true e]; exact h
  · exact fun h => ⟨x, h, by simp⟩
theorem has_app (L : List Nat) (x y : Nat) : hasB (L ++ [y]) x = (hasB L x || decide (y = x)) := by
  unfold hasB; rw [List.any_append]; simp
/-- Where the mask is done or is no term's, nothing changes. -/
theorem spQ_same {x q : Nat} : ∀ (ts : List E2) (s : List Nat × List E3), ((∀ t ∈ ts, t.a ≠ (x : Int)) ∨ hasB s.1 x = true) → ts.foldl (spT x q) s = s
  | [], _, _ => rfl
  | t :: ts, s, h => by
    have e : spT x q s t = s := by
      unfold spT
      rw [if_neg]
      rintro ⟨h1, h2⟩
      rcases h with h | h
      · exact h t (by simp) h1
      · rw [h] at h2; cases h2
    rw [List.foldl_cons, e]
    exact spQ_same ts s (h.imp (fun h u hu => h u (by simp [hu])) id)
theorem spQ_split {x q : Nat} {l1 l2 : List E2} {t : E2} {s : List Nat × List E3} (h1 : ∀ u ∈ l1, u.a ≠ (x : Int)) (ht : t.a = (x : Int)) (hd : hasB s.1 x = false) :
    (l1 ++ t :: l2).foldl (spT x q) s = (s.1 ++ [x], s.2 ++ rotF (q : Int) t.b) := by
  rw [List.foldl_append, spQ_same l1 s (.inl h1), List.foldl_cons]
  have e : spT x q s t = (s.1 ++ [x], s.2 ++ rotF (q : Int) t.b) := by unfold spT; rw [if_pos ⟨ht, hd⟩]
  rw [e, spQ_same l2 _ (.inr (by rw [has_app]; simp))]
theorem find_none {p : E2 → Bool} {l : List E2} (h : ∀ t ∈ l, p t = false) : l.findIdx? p = none := by
  rw [List.findIdx?_eq_none_iff]; exact h
theorem find_at {p : E2 → Bool} {l1 l2 : List E2} {t : E2} (h : ∀ u ∈ l1, p u = false) (ht : p t = true) : (l1 ++ t :: l2).findIdx? p = some l1.length := by
  rw [List.findIdx?_append, find_none h]
  simp [List.findIdx?_cons, ht]
theorem erase_at {l1 l2 : List E2} {t : E2} : (l1 ++ t :: l2).eraseIdx l1.length = l1 ++ l2 := by
  rw [List.eraseIdx_append_of_length_le (Nat.le_refl _)]; simp
/-- One look at a qubit, both ways. -/
theorem place_one {ts : List E2} (hr : Rise ts) (R : List Nat) (s : List Nat × List E3) (q : Nat) :
    (leftOf (spQ ts R s q).1 ts, (spQ ts R s q).2) = imP R (leftOf s.1 ts, s.2) q ∧ (spQ ts R s q).1.length + (leftOf (spQ ts R s q).1 ts).length = s.1.length + (leftOf s.1 ts).length ∧ s.1.length ≤ (spQ ts R s q).1.length ∧ ((spQ ts R s q).2 = s.2 ∨ ∃ c, (spQ ts R s q).2 = s.2 ++ rotF (q : Int) c ∧ (spQ ts R s q).1.length = s.1.length + 1) := by
  obtain ⟨x, hx⟩ : ∃ x, x = R.getD q 0 := ⟨_, rfl⟩
  unfold spQ imP
  rw [← hx]
  by_cases hd : hasB s.1 x = true
  · rw [spQ_same ts s (.inr hd), find_none]
    · exact ⟨rfl, rfl, Nat.le_refl _, .inl rfl⟩
    · intro t ht
      have := (List.mem_filter.1 ht).2
      apply decide_eq_false
      intro e
      rw [e, Int.toNat_natCast, hd] at this
      cases this
  · have hd0 : hasB s.1 x = false := by simpa using hd
    by_cases hn : ∀ t ∈ ts, t.a ≠ (x : Int)
    · rw [spQ_same ts s (.inl hn), find_none]
      · exact ⟨rfl, rfl, Nat.le_refl _, .inl rfl⟩
      · exact fun t ht => decide_eq_false (hn t (List.mem_filter.1 ht).1)
    · obtain ⟨t, ht, hta⟩ : ∃ t ∈ ts, t.a = (x : Int) := by
        apply Classical.byContradiction
        intro h; exact hn fun t ht e => h ⟨t, ht, e⟩
      obtain ⟨l1, l2, rfl⟩ := List.append_of_mem ht
      obtain ⟨_, hp⟩ := hr
      rw [List.pairwise_append, List.pairwise_cons] at hp
      obtain ⟨p1, ⟨p2, p3⟩, p4⟩ := hp
      have h1 : ∀ u ∈ l1, u.a ≠ (x : Int) := fun u hu e => by have := p4 u hu t (by simp); omega
      have h2 : ∀ u ∈ l2, u.a ≠ (x : Int) := fun u hu e => by have := p2 u hu; omega
      have hpos : ∀ u ∈ l1 ++ t :: l2, 1 ≤ u.a := by assumption
      rw [spQ_split h1 hta hd0]
      have hT : (!hasB s.1 t.a.toNat) = true := by rw [hta, Int.toNat_natCast, hd0]; rfl
      have hT2 : (!hasB (s.1 ++ [x]) t.a.toNat) = false := by rw [hta, Int.toNat_natCast, has_app]; simp
      have keep : ∀ l : List E2, (∀ u ∈ l, 1 ≤ u.a) → (∀ u ∈ l, u.a ≠ (x : Int)) → leftOf (s.1 ++ [x]) l = leftOf s.1 l := by
        intro l hl0 hl
        unfold leftOf
        apply List.filter_congr
        intro u hu
        have h3 := hl u hu
        have h4 := hl0 u hu
        rw [has_app, decide_eq_false (by omega), Bool.or_false]
      have eA : leftOf s.1 (l1 ++ t :: l2) = leftOf s.1 l1 ++ t :: leftOf s.1 l2 := by
        unfold leftOf; rw [List.filter_append, List.filter_cons, if_pos hT]
      have eB : leftOf (s.1 ++ [x]) (l1 ++ t :: l2) = leftOf s.1 l1 ++ leftOf s.1 l2 := by
        rw [← keep l1 (fun u hu => hpos u (by simp [hu])) h1, ← keep l2 (fun u hu => hpos u (by simp [hu])) h2]
        unfold leftOf; rw [List.filter_append, List.filter_cons, if_neg (by rw [hT2]; simp)]
      dsimp only
      rw [eA, eB, find_at (l1 := leftOf s.1 l1) (l2 := leftOf s.1 l2) (fun u hu => decide_eq_false (h1 u (List.mem_filter.1 hu).1)) (decide_eq_true hta)]
      dsimp only
      refine ⟨?_, by simp; omega, by simp, .inr ⟨t.b, rfl, by simp⟩⟩
      rw [erase_at]
      congr 2
      simp [List.getD]
/-- What both ways keep: gates that fit, not too many. -/
structure PlOk (n : Nat) (ts : List E2) (k : Nat) (s : List Nat × List E3) : Prop where
  sum : s.1.length + (leftOf s.1 ts).length = ts.length
  len : s.2.length ≤ k + 2 * s.1.length
  ok : ∀ g ∈ s.2, GateOk (n : Int) g
theorem PlOk.done {n k : Nat} {ts : List E2} {s : List Nat × List E3} (h : PlOk n ts k s) : s.1.length ≤ ts.length := by have := h.sum; omega
theorem place_ok {n k : Nat} {ts : List E2} (hn : n ≤ 5) (hr : Rise ts) (R : List Nat) {s : List Nat × List E3} {q : Nat} (hq : q < n) (h : PlOk n ts k s) : PlOk n ts k (spQ ts R s q) := by
  obtain ⟨h1, h2, h3, h4⟩ := place_one hr R s q
  refine ⟨by rw [h2]; exact h.sum, ?_, ?_⟩
  · have := h.len
    rcases h4 with e | ⟨c, e, e2⟩
    · rw [e]; omega
    · rw [e, List.length_append]; have := rotF_len (q : Int) c; omega
  · intro g hg
    rcases h4 with e | ⟨c, e, e2⟩
    · rw [e] at hg; exact h.ok g hg
    · rw [e] at hg
      rcases List.mem_append.1 hg with hg | hg
      · exact h.ok g hg
      · exact rot_ok hn hq hg
theorem place_all {n k : Nat} {ts : List E2} (hn : n ≤ 5) (hr : Rise ts) (R : List Nat) : ∀ (qs : List Nat) (s : List Nat × List E3), (∀ q ∈ qs, q < n) → PlOk n ts k s →
    PlOk n ts k (qs.foldl (spQ ts R) s) ∧ (leftOf (qs.foldl (spQ ts R) s).1 ts, (qs.foldl (spQ ts R) s).2) = qs.foldl (imP R) (leftOf s.1 ts, s.2)
  | [], s, _, h => ⟨h, rfl⟩
  | q :: qs, s, hq, h => by
    obtain ⟨i1, i2⟩ := place_all hn hr R qs (spQ ts R s q) (fun x hx => hq x (by simp [hx])) (place_ok hn hr R (hq q (by simp)) h)
    rw [List.foldl_cons, List.foldl_cons, ← (place_one hr R s q).1]
    exact ⟨i1, i2⟩
structure PlInv (n : Nat) (ts : List E2) (k : Nat) (s : PlS) : Prop where
  len : s.R.length = n
  small : Small s.R
  at_ : ∀ q ∈ s.at_, q < n
  few : s.at_.length ≤ 5
  ok : PlOk n ts k (s.done, s.out)
theorem leftOf_nil (ts : List E2) : leftOf [] ts = ts := by unfold leftOf hasB; simp
theorem plTo_inv {d : Circ} {n : Nat} {ts : List E2} (hr : Rise ts) (hnet : netB d = true) (hn : d.n = (n : Int)) : ∀ k, k ≤ d.gs.length → PlInv n ts k (plTo n d.gs ts k)
  | 0, _ => by
    have hnn := net_n hnet
    refine ⟨idN_len n, idN_small (by omega), fun q hq => by simpa [plTo] using hq, by simp [plTo]; omega, ?_, ?_, ?_⟩
    · show 0 + (leftOf [] ts).length = _; rw [leftOf_nil]; omega
    · exact Nat.zero_le _
    · intro g hg; cases hg
  | k + 1, hk => by
    have hnn := net_n hnet
    have ih := plTo_inv hr hnet hn k (by omega)
    obtain ⟨a, b, hg, ha, hb, hab⟩ := net_gate hnet (show k < d.gs.length by omega)
    have hp := (place_all (k := k) (by omega) hr (plTo n d.gs ts k).R (plTo n d.gs ts k).at_ _ ih.at_ ih.ok).1
    rw [plTo_succ (by omega), hg]
    refine ⟨by simp [PlS.next, cxN_len]; exact ih.len, ih.small.cx _ _, ?_, by simp [PlS.next], ?_, ?_, ?_⟩
    · intro q hq
      simp only [PlS.next, Int.toNat_natCast, List.mem_singleton] at hq
      omega
    · exact hp.sum
    · show (_ ++ [_]).length ≤ _
      rw [List.length_append]
      have := hp.len
      unfold PlS.next PlS.place
      dsimp only [List.length_singleton]
      omega
    · intro g hg2
      rcases List.mem_append.1 hg2 with h | h
      · exact hp.ok g h
      · simp only [List.mem_singleton] at h
        subst h
        unfold GateOk
        dsimp only
        omega
theorem im_eq {d : Circ} {n : Nat} {ts : List E2} (hr : Rise ts) (hnet : netB d = true) (hn : d.n = (n : Int)) : ∀ k, k ≤ d.gs.length → imTo n d.gs ts k = ((plTo n d.gs ts k).R, (leftOf ((plTo n d.gs ts k).place ts).1 ts, ((plTo n d.gs ts k).place ts).2))
  | 0, _ => by
    have hnn := net_n hnet
    have hi := plTo_inv hr hnet hn 0 (by omega)
    have := (place_all (k := 0) (by omega) hr (plTo n d.gs ts 0).R (plTo n d.gs ts 0).at_ _ hi.at_ hi.ok).2
    unfold PlS.place
    rw [this]
    show (idN n, im0 n ts n) = (idN n, _)
    unfold im0
    show _ = (idN n, (List.range n).foldl (imP (idN n)) (leftOf [] ts, []))
    rw [leftOf_nil]
  | k + 1, hk => by
    have hnn := net_n hnet
    have ih := im_eq hr hnet hn k (by omega)
    have hi := plTo_inv hr hnet hn (k + 1) hk
    have hp := (place_all (k := k + 1) (by omega) hr (plTo n d.gs ts (k + 1)).R (plTo n d.gs ts (k + 1)).at_ _ hi.at_ hi.ok).2
    obtain ⟨a, b, hg, _⟩ := net_gate hnet (show k < d.gs.length by omega)
    rw [imTo_succ (by omega), ih]
    unfold PlS.place at hp ⊢
    rw [hp]
    rw [plTo_succ (by omega)]
    rfl
/-- The circuit with the rotations placed. -/
noncomputable def plG (d : Circ) (ts : List E2) : Option Circ :=
  if netB d = true ∧ TermsOk d.n ts ∧ (plEnd d.n.toNat d.gs ts).1.length = ts.length ∧ (plEnd d.n.toNat d.gs ts).2.length ≤ 400 then some ⟨d.n, (plEnd d.n.toNat d.gs ts).2⟩ else none
theorem terms_lt {n : Int} {ts : List E2} (h : TermsOk n ts) : ∀ j i, i < j → j < ts.length → (ts.getD i ⟨0, 0⟩).a < (ts.getD j ⟨0, 0⟩).a
  | 0, i, h1, _ => by omega
  | j + 1, i, h1, h2 => by
    have h3 := h (j + 1) h2
    unfold termB at h3
    simp only [Bool.and_eq_true, Bool.or_eq_true, decide_eq_true_eq, Nat.add_sub_cancel] at h3
    have h4 : (ts.getD j ⟨0, 0⟩).a < (ts.getD (j + 1) ⟨0, 0⟩).a := h3.2.resolve_left (by omega)
    rcases Nat.lt_or_ge i j with hij | hij
    · have := terms_lt h j i hij (by omega); omega
    · have : i = j := by omega
      subst this; exact h4
theorem rise_of {n : Int} {ts : List E2} (h : TermsOk n ts) : Rise ts := by
  refine ⟨fun t ht => ?_, ?_⟩
  · obtain ⟨k, hk, rfl⟩ := List.getElem_of_mem ht
    have := (term_ok h hk).1
    simpa [List.getD, hk] using this
  · rw [List.pairwise_iff_getElem]
    intro i j hi hj hij
    have := terms_lt h j i hij hj
    simpa [List.getD, hi, hj] using this
theorem plEnd_ok {d : Circ} {n : Nat} {ts : List E2} (ht : TermsOk d.n ts) (hnet : netB d = true) (hn : d.n = (n : Int)) : PlOk n ts d.gs.length (plEnd n d.gs ts) := by
  have hnn := net_n hnet
  have hi := plTo_inv (rise_of ht) hnet hn d.gs.length (Nat.le_refl _)
  exact (place_all (by omega) (rise_of ht) _ _ _ hi.at_ hi.ok).1
/-- What the program leaves, in the reference's words. -/
theorem im_end {d : Circ} {n : Nat} {ts : List E2} (ht : TermsOk d.n ts) (hnet : netB d = true) (hn : d.n = (n : Int)) :
    (imTo n d.gs ts d.gs.length).2.2 = (plEnd n d.gs ts).2 ∧ ((imTo n d.gs ts d.gs.length).2.1.length = 0 ↔ (plEnd n d.gs ts).1.length = ts.length) ∧ circB ⟨d.n, (plEnd n d.gs ts).2⟩ = decide ((plEnd n d.gs ts).2.length ≤ 400) := by
  have hnn := net_n hnet
  have h := im_eq (rise_of ht) hnet hn d.gs.length (Nat.le_refl _)
  have hk := plEnd_ok ht hnet hn
  rw [h]
  refine ⟨rfl, ?_, ?_⟩
  · have := hk.sum
    show (leftOf (plEnd n d.gs ts).1 ts).length = 0 ↔ _
    omega
  · by_cases hl : (plEnd n d.gs ts).2.length ≤ 400
    · rw [decide_eq_true hl]
      exact decide_eq_true ⟨⟨hnn.1, hnn.2.1⟩, hl, fun g hg => by rw [hn]; exact hk.ok g hg⟩
    · rw [decide_eq_false hl]; exact circB_l hl
end Go.Proofs.Ytbcjligkjoimmaa
