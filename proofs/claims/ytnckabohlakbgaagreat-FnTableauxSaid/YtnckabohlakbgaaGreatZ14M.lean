/- Gate: the laws' helpers: equal, marked, held. -/
import Derived.Test.YtnckabohlakbgaaGreatZ03M
import Derived.Test.YtnckabohlakbgaaGreatZ04M
import Derived.Test.YtnckabohlakbgaaGreatZ05M
import Derived.WalkSpells
import Derived.Deep.LoopGhost
import Derived.Shelf.Abstract
import Derived.Deep.RegionHeld3
namespace Go.Proofs.YtnckabohlakbgaaGreat
set_option linter.unusedSimpArgs false
set_option linter.unusedVariables false
set_option linter.unnecessarySimpa false
set_option maxRecDepth 200000
open Go.ChangeShapes Go.WideShapes Go.ChangeAt Go.RowKit

end Go.Proofs.YtnckabohlakbgaaGreat
namespace Go.Proofs.YtnckabohlakbgaaGreat
set_option linter.unusedSimpArgs false
set_option linter.unusedVariables false
set_option linter.unnecessarySimpa false
set_option maxRecDepth 200000
open Go.ChangeShapes Go.WideShapes Go.ChangeAt Go.RowKit Go.Joins

theorem info_Gate : (Tryz.prog.info? 66).map (fun i => (i.zero, i.size, i.bytes)) = some (some (.agg #[.int .i64 0, .int .i64 0, .int .i64 0]), 3, 24) := by kernel_rfl
end Go.Proofs.YtnckabohlakbgaaGreat
namespace Go.Proofs.YtnckabohlakbgaaGreat
set_option linter.unusedSimpArgs false
set_option linter.unusedVariables false
set_option linter.unnecessarySimpa false
set_option maxRecDepth 200000
open Go.ChangeShapes Go.WideShapes Go.ChangeAt Go.RowKit

def GateOk (n : Int) (g : E3) : Prop := (1 ≤ n ∧ n ≤ 5) ∧ (1 ≤ g.a ∧ g.a ≤ 12) ∧ ((g.a = 12 ∧ g.b = 0 ∧ g.c = 0) ∨ (9 ≤ g.a ∧ g.a ≤ 11 ∧ 0 ≤ g.b ∧ g.b ≤ n - 1 ∧ 0 ≤ g.c ∧ g.c ≤ n - 1 ∧ g.b ≠ g.c) ∨ (g.a < 9 ∧ 0 ≤ g.b ∧ g.b ≤ n - 1 ∧ g.c = 0))
instance (n : Int) (g : E3) : Decidable (GateOk n g) := by unfold GateOk; infer_instance
theorem impl_isTwo_any (k : Int) (w : World) :
    Calls Tryz.prog 102 #[.int .i64 k] w fun e w' => e = .returned (.bool (decide (9 ≤ k ∧ k ≤ 11))) ∧ w = w' := by
  go_enter Tryz.func102, Tryz.ntmps102
  go_wp2_with fail
  refine (within_p _ _ _ _).mono ?_; rintro e w' ⟨rfl, rfl⟩
  go_wp2_with fail
  go_ret
  exact ⟨ret_bool (by by_cases h1 : 9 ≤ k <;> by_cases h2 : k ≤ 11 <;> simp [h1, h2]), rfl⟩
theorem gate_n {n : Int} {g : E3} (h : ¬ (1 ≤ n ∧ n ≤ 5)) : false = decide (GateOk n g) := by symm; rw [decide_eq_false_iff_not]; exact fun k => h k.1
set_option maxHeartbeats 2000000 in
theorem impl_IsValidGate_any (n : Int) (g : E3) (w : World) :
    Calls Tryz.prog 80 #[.int .i64 n, .agg #[.int .i64 g.a, .int .i64 g.b, .int .i64 g.c]] w fun e w' => e = .returned (.bool (decide (GateOk n g))) ∧ Below w.heap.size w w' := by
  obtain ⟨k, a, b⟩ := g
  by_cases hn : 1 ≤ n ∧ n ≤ 5
  · obtain ⟨hn1, hn2⟩ := hn
    dsimp only
    go_enter Tryz.func80, Tryz.ntmps80
    go_wp2_with (first | (go_at_call 39; refine (within_p _ _ _ _).mono ?_; rintro e w' ⟨rfl, rfl⟩) | (go_at_call 102; refine (impl_isTwo_any _ _).mono ?_; rintro e w' ⟨rfl, rfl⟩))
    all_goals (go_ret; exact ⟨ret_bool (by go_light; rw [Bool.eq_iff_iff]; simp only [decide_eq_true_eq, beq_iff_eq, Bool.false_eq_true, true_iff, false_iff, iff_true, iff_false]; (try simp_all [GateOk]) <;> (try omega)), belo⟩)
  · dsimp only
    have d1 : decide (1 ≤ n ∧ n ≤ 5) = false := decide_eq_false hn
    have D1 := Lib.hid d1; have Hn := Lib.hid hn; clear d1 hn
    go_enter Tryz.func80, Tryz.ntmps80
    go_wp2_with fail
    refine (within_p _ _ _ _).mono ?_; rintro e w' ⟨rfl, rfl⟩
    rw [D1.out]
    go_wp2_with fail
    go_ret
    exact ⟨ret_bool (gate_n Hn.out), belo⟩
end Go.Proofs.YtnckabohlakbgaaGreat
namespace Go.Proofs.YtnckabohlakbgaaGreat
set_option linter.unusedSimpArgs false
set_option linter.unusedVariables false
set_option linter.unnecessarySimpa false
set_option maxRecDepth 200000
open Go.ChangeShapes Go.WideShapes Go.ChangeAt Go.RowKit

/-- A function value, g bound to lb, that answers p: it may lay blocks of its own. -/
def PredB {α : Type} (g : Nat) (lb : Array Value) (enc : α → Value) (p : α → Bool) (zs : List α) (w : World) : Prop :=
  ∀ (W : World) (x : α), x ∈ zs → Below w.heap.size w W → Calls Tryz.prog g (#[enc x] ++ lb) W fun e w' => e = .returned (.bool (p x)) ∧ Below W.heap.size W w'
/-- The first place at which p holds. -/
def idxI {α : Type} (p : α → Bool) (zs : List α) : Int := match zs.findIdx? p with | some i => i | none => -1
theorem idx_hit {α : Type} {p : α → Bool} {zs : List α} {k : Nat} (hk : k < zs.length) (h0 : Hid (∀ j (h : j < zs.length), j < k → p zs[j] = false)) (h1 : p zs[k] = true) : (k : Int) = idxI p zs := by
  have e : zs.findIdx? p = some k := by
    rw [List.findIdx?_eq_some_iff_getElem]
    exact ⟨hk, h1, fun j hj => by simp [h0.out j (by omega) hj]⟩
  simp [idxI, e]
theorem idx_miss {α : Type} {p : α → Bool} {zs : List α} {k : Nat} (hk : zs.length ≤ k) (h0 : Hid (∀ j (h : j < zs.length), j < k → p zs[j] = false)) : (-1 : Int) = idxI p zs := by
  have e : zs.findIdx? p = none := by
    rw [List.findIdx?_eq_none_iff]
    intro x hx
    obtain ⟨j, hj, rfl⟩ := List.mem_iff_getElem.1 hx
    exact h0.out j hj (by omega)
  simp [idxI, e]
theorem idx_next {α : Type} {p : α → Bool} {zs : List α} {k : Nat} (hk : k < zs.length) (h0 : Hid (∀ j (h : j < zs.length), j < k → p zs[j] = false)) (h1 : p zs[k] = false) : Hid (∀ j (h : j < zs.length), j < k + 1 → p zs[j] = false) := by
  show ∀ j (h : j < zs.length), j < k + 1 → p zs[j] = false
  intro j h hj
  by_cases e : j = k
  · subst e; exact h1
  · exact h0.out j h (by omega)
theorem idxI_ge {α : Type} (p : α → Bool) (zs : List α) : (0 ≤ idxI p zs) ↔ zs.any p = true := by
  unfold idxI
  cases h : zs.findIdx? p with
  | none =>
    rw [List.findIdx?_eq_none_iff] at h
    simp only [List.any_eq_true]
    constructor
    · intro h0; omega
    · rintro ⟨x, hx, hp⟩; rw [h x hx] at hp; cases hp
  | some i =>
    rw [List.findIdx?_eq_some_iff_getElem] at h
    obtain ⟨hi, h1, _⟩ := h
    simp only [List.any_eq_true]
    exact ⟨fun _ => ⟨_, List.getElem_mem hi, h1⟩, fun _ => by omega⟩
end Go.Proofs.YtnckabohlakbgaaGreat
namespace Go.Proofs.YtnckabohlakbgaaGreat
set_option linter.unusedSimpArgs false
set_option linter.unusedVariables false
set_option linter.unnecessarySimpa false
set_option maxRecDepth 200000
open Go.ChangeShapes Go.WideShapes Go.ChangeAt Go.RowKit

def encGate (x : E3) : Value := .agg #[.int .i64 x.a, .int .i64 x.b, .int .i64 x.c]
set_option maxHeartbeats 2000000 in
theorem slices_IndexFunc_Gate (g : Nat) (lb : Array Value) (p : E3 → Bool) (eg : ∀ args w, (callFunc g args).run Tryz.prog w = .ok (.enter g args) w) (v : Value) (zs : List E3) (w : World) (h : RdE w v E3.cs 3 zs) (hp : PredB g lb encGate p zs w) :
    Calls Tryz.prog 101 #[v, .func (.func g) #[] lb] w fun e w' => e = .returned (.int .i64 (idxI p zs)) ∧ Below w.heap.size w w' := by
  rcases h.cases0 E3.len with ⟨rfl, a0, c0, rfl⟩ | ⟨h0, b, off, cap, rfl, hb, hl, hm, hc⟩
  · go_enter Tryz.func101, Tryz.ntmps101
    go_wp2_with fail
    refine wp_loop_rounds 1 ?_
    rw [rounds_succ]
    go_wp2_with fail
    go_ret
    exact ⟨rfl, belo⟩
  · clear h
    have Hp := Lib.hid hp; clear hp
    go_enter Tryz.func101, Tryz.ntmps101
    go_wp2_with fail
    go_loopg [5, 8] zs.length (fun gg _ i wr => ∃ k : Nat, k ≤ zs.length ∧ zs.length - k ≤ gg ∧ i = .int .i64 k ∧ Hid (∀ j (h : j < zs.length), j < k → p zs[j] = false) ∧ Below w.heap.size w wr)
    case atStart => exact ⟨0, Nat.zero_le _, by omega, rfl, (show ∀ j (h : j < zs.length), j < 0 → p zs[j] = false from fun j h hj => absurd hj (Nat.not_lt_zero _)), Below.refl _ _⟩
    case round =>
      obtain ⟨k, hk, hg, rfl, hpre, hbel⟩ := hrel
      by_cases hlt : k < zs.length
      · obtain ⟨y, hy⟩ : ∃ y, zs[k] = y := ⟨_, rfl⟩
        have q0 : wr.cell? ⟨b, off + k * 3, none⟩ = some (.int .i64 y.a) := (hbel.cell hb).trans (by rw [← hy]; exact hc k hlt 0 _ (by omega) rfl)
        have q1 : wr.cell? ⟨b, off + k * 3 + 1, none⟩ = some (.int .i64 y.b) := (hbel.cell hb).trans (by rw [← hy]; exact hc k hlt 1 _ (by omega) rfl)
        have q2 : wr.cell? ⟨b, off + k * 3 + 2, none⟩ = some (.int .i64 y.c) := (hbel.cell hb).trans (by rw [← hy]; exact hc k hlt 2 _ (by omega) rfl)
        have hcall := Hp.out wr y (by rw [← hy]; exact List.getElem_mem hlt) hbel
        unfold encGate at hcall
        have i1 : (k : Int) < (zs.length : Int) := by omega
        have Hy := Lib.hid hy; clear hy hc
        cases hq : p y with
        | true =>
          rw [hq] at hcall
          have Hq := Lib.hid hq; clear hq
          go_wp2_with (go_at_fn g; refine hcall.mono ?_; rintro e w2 ⟨rfl, hb2⟩)
          go_ret
          exact ⟨ret_int (idx_hit hlt hpre (by rw [Hy.out]; exact Hq.out)), below_step hbel hb2⟩
        | false =>
          rw [hq] at hcall
          have Hq := Lib.hid hq; clear hq
          go_wp2_with (go_at_fn g; refine hcall.mono ?_; rintro e w2 ⟨rfl, hb2⟩)
          go_roundg (zs.length - (k + 1))
          case measure => omega
          case rel => exact ⟨k + 1, by omega, by omega, by go_num, idx_next hlt hpre (by rw [Hy.out]; exact Hq.out), below_step hbel hb2⟩
      · clear hc
        go_wp2_with fail
        go_ret
        exact ⟨ret_int (idx_miss (by omega) hpre), hbel⟩
theorem slices_ContainsFunc_Gate (g : Nat) (lb : Array Value) (p : E3 → Bool) (eg : ∀ args w, (callFunc g args).run Tryz.prog w = .ok (.enter g args) w) (v : Value) (zs : List E3) (w : World) (h : RdE w v E3.cs 3 zs) (hp : PredB g lb encGate p zs w) :
    Calls Tryz.prog 78 #[v, .func (.func g) #[] lb] w fun e w' => e = .returned (.bool (zs.any p)) ∧ Below w.heap.size w w' := by
  have Hh := Lib.hid h; have Hp := Lib.hid hp
  obtain ⟨A, c, rfl, _⟩ := h.form
  clear h hp
  go_enter Tryz.func78, Tryz.ntmps78
  go_wp2_with fail
  refine (slices_IndexFunc_Gate g lb p eg _ zs _ Hh.out Hp.out).mono ?_; rintro e w1 ⟨rfl, hb1⟩
  go_wp2_with fail
  go_ret
  exact ⟨ret_bool (by rw [Bool.eq_iff_iff, ← idxI_ge]; simp), hb1⟩
end Go.Proofs.YtnckabohlakbgaaGreat
namespace Go.Proofs.YtnckabohlakbgaaGreat
set_option linter.unusedSimpArgs false
set_option linter.unusedVariables false
set_option linter.unnecessarySimpa false
set_option maxRecDepth 200000
open Go.ChangeShapes Go.WideShapes Go.ChangeAt Go.RowKit

end Go.Proofs.YtnckabohlakbgaaGreat
namespace Go.Proofs.YtnckabohlakbgaaGreat
set_option linter.unusedSimpArgs false
set_option linter.unusedVariables false
set_option linter.unnecessarySimpa false
set_option maxRecDepth 200000
open Go.ChangeShapes Go.WideShapes Go.ChangeAt Go.RowKit

def CircOk (d : Circ) : Prop := (1 ≤ d.n ∧ d.n ≤ 5) ∧ d.gs.length ≤ 400 ∧ ∀ g ∈ d.gs, GateOk d.n g
instance (d : Circ) : Decidable (CircOk d) := by unfold CircOk; infer_instance
def circB (d : Circ) : Bool := decide (CircOk d)
theorem circB_n {d : Circ} (h : ¬ (1 ≤ d.n ∧ d.n ≤ 5)) : circB d = false := decide_eq_false fun k => h k.1
theorem circB_l {d : Circ} (h : ¬ d.gs.length ≤ 400) : circB d = false := decide_eq_false fun k => h k.2.1
theorem circB_g {d : Circ} (h1 : 1 ≤ d.n ∧ d.n ≤ 5) (h2 : d.gs.length ≤ 400) : circB d = !d.gs.any fun g => !decide (GateOk d.n g) := by
  cases ha : d.gs.any (fun g => !decide (GateOk d.n g)) with
  | false =>
    rw [List.any_eq_false] at ha
    exact decide_eq_true ⟨h1, h2, fun g hg => by simpa using ha g hg⟩
  | true =>
    rw [List.any_eq_true] at ha
    obtain ⟨g, hg, h⟩ := ha
    exact decide_eq_false fun hh => by simp [hh.2.2 g hg] at h
set_option maxHeartbeats 2000000 in
theorem spec_l4Gate_any (n : Int) (g : E3) (w : World) (hn1 : 1 ≤ n) (hn2 : n ≤ 5) :
    Calls Tryz.prog 112 #[.int .i64 n, .agg #[.int .i64 g.a, .int .i64 g.b, .int .i64 g.c]] w fun e w' => e = .returned (.bool (decide (GateOk n g))) ∧ Below w.heap.size w w' := by
  obtain ⟨k, a, b⟩ := g
  dsimp only
  go_enter Tryz.func112, Tryz.ntmps112
  go_wp2_with (go_at_call 72; refine (l1In_p _ _ _ _).mono ?_; rintro e w' ⟨rfl, rfl⟩)
  all_goals (go_ret; exact ⟨ret_bool (by go_light; rw [Bool.eq_iff_iff]; simp only [decide_eq_true_eq, beq_iff_eq, Bool.false_eq_true, true_iff, false_iff, iff_true, iff_false]; (try simp_all [GateOk]) <;> (try omega)), belo⟩)
theorem IsValidCircuit1_any (B : Nat) (n : Int) (gs : List E3) (w : World) (hB : B < w.heap.size) (hc : w.cell? ⟨B, 0, none⟩ = some (.int .i64 n)) :
    PredB 79 #[.pointer (some ⟨B, 0, none⟩)] encGate (fun g => !decide (GateOk n g)) gs w := by
  intro W x _ hb
  have hc' := (hb.cell (p := ⟨B, 0, none⟩) hB).trans hc
  have hBW : B < W.heap.size := Nat.lt_of_lt_of_le hB hb.size
  clear hc hb
  show Calls Tryz.prog 79 #[.agg #[.int .i64 x.a, .int .i64 x.b, .int .i64 x.c], .pointer (some ⟨B, 0, none⟩)] W _
  go_enter Tryz.func79, Tryz.ntmps79
  go_wp2_with fail
  refine (impl_IsValidGate_any n x _).mono ?_; rintro e w1 ⟨rfl, hb1⟩
  obtain ⟨hc_hb1, hf_hb1⟩ := bcell hb1; have hz_hb1 := hb1.size; (try simp at hz_hb1)
  go_wp2_with fail
  go_ret
  exact ⟨rfl, Below.trans (show Below W.heap.size W (W.alloc (.cells #[.int .i64 x.a, .int .i64 x.b, .int .i64 x.c] 66)) from belo) (hb1.mono (by simp))⟩
set_option maxHeartbeats 1000000 in
theorem impl_IsValidCircuit_any (v : Value) (d : Circ) (w : World) (h : RdE w v E3.cs 3 d.gs) (hn : d.gs.length ≤ 1048576) :
    Calls Tryz.prog 45 #[.agg #[.int .i64 d.n, v]] w fun e w' => e = .returned (.bool (circB d)) ∧ Below w.heap.size w w' := by
  have H := Lib.hid h
  have eg := enters_of Tryz.func79 (by kernel_rfl) rfl
  have Eg := Lib.hid eg; clear eg
  obtain ⟨A, c, rfl, _⟩ := h.form
  clear h
  by_cases h1 : 1 ≤ d.n ∧ d.n ≤ 5
  · have D1 := Lib.hid (decide_eq_true h1)
    by_cases h2 : d.gs.length ≤ 400
    · have HR := Lib.hid (circB_g h1 h2)
      have g1 : decide ((d.gs.length : Int) ≤ 400) = true := by simp; omega
      obtain ⟨h1a, h1b⟩ := h1
      go_enter Tryz.func45, Tryz.ntmps45
      go_wp2_with fail
      refine (within_p _ _ _ _).mono ?_; rintro e w' ⟨rfl, rfl⟩
      rw [D1.out]
      go_wp2_with fail
      refine (slices_ContainsFunc_Gate _ _ (fun g => !decide (GateOk d.n g)) Eg.out _ d.gs _ (Rd.below H.out (show Below w.heap.size w _ from belo) rfl) (IsValidCircuit1_any w.heap.size d.n d.gs _ (by simp) (by simp))).mono ?_; rintro e w1 ⟨rfl, hb1⟩
      go_wp2_with fail
      go_ret
      exact ⟨ret_bool (by rw [HR.out]), belo⟩
    · have HR := Lib.hid (circB_l h2)
      have g1 : decide ((d.gs.length : Int) ≤ 400) = false := by simp; omega
      clear h2
      go_enter Tryz.func45, Tryz.ntmps45
      go_wp2_with fail
      refine (within_p _ _ _ _).mono ?_; rintro e w' ⟨rfl, rfl⟩
      rw [D1.out]
      go_wp2_with fail
      go_ret
      exact ⟨ret_bool (by rw [HR.out]), belo⟩
  · have HR := Lib.hid (circB_n h1)
    have D1 := Lib.hid (decide_eq_false h1); clear h1
    go_enter Tryz.func45, Tryz.ntmps45
    go_wp2_with fail
    refine (within_p _ _ _ _).mono ?_; rintro e w' ⟨rfl, rfl⟩
    rw [D1.out]
    go_wp2_with fail
    go_ret
    exact ⟨ret_bool (by rw [HR.out]), belo⟩
theorem circ_yes {d : Circ} {k : Nat} (h1 : 1 ≤ d.n ∧ d.n ≤ 5) (h2 : d.gs.length ≤ 400) (hk : d.gs.length ≤ k) (h : Hid (∀ j (hj : j < d.gs.length), j < k → GateOk d.n d.gs[j])) : true = circB d := by
  symm
  refine decide_eq_true ⟨h1, h2, fun g hg => ?_⟩
  obtain ⟨j, hj, rfl⟩ := List.mem_iff_getElem.1 hg
  exact h.out j hj (by omega)
theorem circ_no {d : Circ} {k : Nat} (hk : k < d.gs.length) (h : ¬ GateOk d.n d.gs[k]) : false = circB d := by
  symm
  exact decide_eq_false fun hh => h (hh.2.2 _ (List.getElem_mem hk))
set_option maxHeartbeats 2000000 in
theorem spec_l4Good_any (v : Value) (d : Circ) (w : World) (h : RdE w v E3.cs 3 d.gs) (hn : d.gs.length ≤ 1048576) :
    Calls Tryz.prog 96 #[.agg #[.int .i64 d.n, v]] w fun e w' => e = .returned (.bool (circB d)) ∧ Below w.heap.size w w' := by
  have H := Lib.hid h
  obtain ⟨A, c, rfl, _⟩ := h.form
  clear h
  by_cases h1 : 1 ≤ d.n ∧ d.n ≤ 5
  · have D1 := Lib.hid (decide_eq_true h1)
    by_cases h2 : d.gs.length ≤ 400
    · have g1 : decide ((400 : Int) < (d.gs.length : Int)) = false := by simp; omega
      obtain ⟨h1a, h1b⟩ := h1
      rcases H.out.cases0 E3.len with ⟨he, _⟩ | ⟨h0, b, off, cap, hv, hb, hl, hm, hc⟩
      · have HR := Lib.hid (circ_yes (k := 0) ⟨h1a, h1b⟩ h2 (by rw [he]; simp) (fun j hj hk => by omega))
        have hlen : d.gs.length = 0 := by rw [he]; rfl
        clear he
        have hlt : ¬ (0 : Int) < (d.gs.length : Int) := by omega
        clear hlen
        go_enter Tryz.func96, Tryz.ntmps96
        go_wp2_with fail
        refine (l1In_p _ _ _ _).mono ?_; rintro e w' ⟨rfl, rfl⟩
        rw [D1.out]
        go_wp2_with fail
        refine wp_loop_rounds 1 ?_
        rw [rounds_succ]
        go_wp2_with fail
        go_ret
        exact ⟨ret_bool HR.out, belo⟩
      · injection hv with hv1 _ hv3; subst hv1; subst hv3
        have Hc := Lib.hid hc; clear hc
        go_enter Tryz.func96, Tryz.ntmps96
        go_wp2_with fail
        refine (l1In_p _ _ _ _).mono ?_; rintro e w' ⟨rfl, rfl⟩
        rw [D1.out]
        go_wp2_with fail
        have bw : Below w.heap.size w (w.alloc (.cells #[.int .i64 d.n, .slice (some ⟨b, off, none⟩) d.gs.length c] 25)) := belo
        go_loopw [18] (fun i wr => ∃ k : Nat, k ≤ d.gs.length ∧ i = .int .i64 k ∧ Hid (∀ j (hj : j < d.gs.length), j < k → GateOk d.n d.gs[j]) ∧ wr.cell? ⟨w.heap.size, 0, none⟩ = some (.int .i64 d.n) ∧ Below w.heap.size w wr) (fun i _ => d.gs.length - (intOf i).toNat)
        case atStart => exact ⟨0, Nat.zero_le _, rfl, (fun j hj hk => by omega), by simp, bw⟩
        case round =>
          obtain ⟨k, hk, rfl, hpre, c0, hbel⟩ := hrel
          clear bw
          by_cases hlt : k < d.gs.length
          · obtain ⟨y, hy⟩ : ∃ y, y = d.gs[k] := ⟨_, rfl⟩
            have q0 : wr.cell? ⟨b, off + k * 3, none⟩ = some (.int .i64 y.a) := (hbel.cell hb).trans (by rw [hy]; exact Hc.out k hlt 0 _ (by omega) rfl)
            have q1 : wr.cell? ⟨b, off + k * 3 + 1, none⟩ = some (.int .i64 y.b) := (hbel.cell hb).trans (by rw [hy]; exact Hc.out k hlt 1 _ (by omega) rfl)
            have q2 : wr.cell? ⟨b, off + k * 3 + 2, none⟩ = some (.int .i64 y.c) := (hbel.cell hb).trans (by rw [hy]; exact Hc.out k hlt 2 _ (by omega) rfl)
            have Hy := Lib.hid hy; clear hy
            have i1 : (k : Int) < (d.gs.length : Int) := by omega
            have hlw := hbel.size
            have z0 : w.heap.size < wr.heap.size := World.block_lt_of_cell? wr _ c0
            go_wp2_with fail
            refine (spec_l4Gate_any d.n y _ h1a h1b).mono ?_; rintro e w2 ⟨rfl, hb2⟩
            have c2 := below_cell hb2 rfl (cell_alloc_keep (.cells #[.int .i64 y.a, .int .i64 y.b, .int .i64 y.c] 66) c0)
            have bel2 : Below w.heap.size w w2 := belo
            clear hb2 hbel c0 q0 q1 q2
            cases hg : decide (GateOk d.n y) with
            | true =>
              have Hg := Lib.hid (of_decide_eq_true hg); clear hg
              go_wp2_with fail
              go_roundw
              case rel =>
                refine ⟨k + 1, by omega, by go_num, (show ∀ j (hj : j < d.gs.length), j < k + 1 → GateOk d.n d.gs[j] from fun j hj hjk => ?_), c2, bel2⟩
                by_cases e : j = k
                · subst e; rw [← Hy.out]; exact Hg.out
                · exact hpre.out j hj (by omega)
              case measure => simp [intOf]; omega
            | false =>
              have Hg := Lib.hid (of_decide_eq_false hg); clear hg
              go_wp2_with fail
              go_ret
              exact ⟨ret_bool (circ_no hlt (by rw [← Hy.out]; exact Hg.out)), bel2⟩
          · go_wp2_with fail
            go_ret
            exact ⟨ret_bool (circ_yes ⟨h1a, h1b⟩ h2 (by omega) hpre), hbel⟩
    · have HR := Lib.hid (circB_l h2)
      have g1 : decide ((400 : Int) < (d.gs.length : Int)) = true := by simp; omega
      clear h2
      go_enter Tryz.func96, Tryz.ntmps96
      go_wp2_with fail
      refine (l1In_p _ _ _ _).mono ?_; rintro e w' ⟨rfl, rfl⟩
      rw [D1.out]
      go_wp2_with fail
      go_ret
      exact ⟨ret_bool (by rw [HR.out]), belo⟩
  · have HR := Lib.hid (circB_n h1)
    have D1 := Lib.hid (decide_eq_false h1); clear h1
    go_enter Tryz.func96, Tryz.ntmps96
    go_wp2_with fail
    refine (l1In_p _ _ _ _).mono ?_; rintro e w' ⟨rfl, rfl⟩
    rw [D1.out]
    go_wp2_with fail
    go_ret
    exact ⟨ret_bool (by rw [HR.out]), belo⟩
end Go.Proofs.YtnckabohlakbgaaGreat
namespace Go.Proofs.YtnckabohlakbgaaGreat
set_option linter.unusedSimpArgs false
set_option linter.unusedVariables false
set_option linter.unnecessarySimpa false
set_option maxRecDepth 200000
open Go.ChangeShapes Go.WideShapes Go.ChangeAt Go.RowKit

theorem gate_at {w : World} {v : Value} {gs : List E3} (h : RdE w v E3.cs 3 gs) : ∃ A c, v = .slice A gs.length c ∧ Hid (∀ k, k < gs.length → ∃ b off, A = some ⟨b, off, none⟩ ∧ b < w.heap.size ∧ w.cell? ⟨b, off + k * 3, none⟩ = some (.int .i64 (gs.getD k ⟨0, 0, 0⟩).a) ∧ w.cell? ⟨b, off + k * 3 + 1, none⟩ = some (.int .i64 (gs.getD k ⟨0, 0, 0⟩).b) ∧ w.cell? ⟨b, off + k * 3 + 2, none⟩ = some (.int .i64 (gs.getD k ⟨0, 0, 0⟩).c)) := by
  rcases h.cases0 E3.len with ⟨he, A, c, rfl⟩ | ⟨_, b, off, cap, rfl, hb, hl, hm, hc⟩
  · subst he
    exact ⟨A, c, rfl, show ∀ _, _ from fun k hk => by simp at hk⟩
  · refine ⟨_, cap, rfl, show ∀ _, _ from fun k hk => ⟨b, off, rfl, hb, ?_⟩⟩
    have e : gs.getD k ⟨0, 0, 0⟩ = gs[k] := by simp [List.getD, hk]
    rw [e]
    exact ⟨hc k hk 0 _ (by omega) rfl, hc k hk 1 _ (by omega) rfl, hc k hk 2 _ (by omega) rfl⟩
end Go.Proofs.YtnckabohlakbgaaGreat
namespace Go.Proofs.YtnckabohlakbgaaGreat
set_option linter.unusedSimpArgs false
set_option linter.unusedVariables false
set_option linter.unnecessarySimpa false
set_option maxRecDepth 200000
open Go.ChangeShapes Go.WideShapes Go.ChangeAt Go.RowKit

def isTg (g : E3) : Bool := decide (7 ≤ g.a ∧ g.a ≤ 8)
def tTo (gs : List E3) (k : Nat) : Nat := ((gs.take k).filter isTg).length
theorem tTo_succ {gs : List E3} {k : Nat} (h : k < gs.length) : tTo gs (k + 1) = tTo gs k + if isTg (gs.getD k ⟨0, 0, 0⟩) = true then 1 else 0 := by
  unfold tTo
  rw [List.take_succ_eq_append_getElem h, List.filter_append, List.length_append]
  have e : gs.getD k ⟨0, 0, 0⟩ = gs[k] := by simp [List.getD, h]
  rw [e]
  by_cases hg : isTg gs[k] = true <;> simp [hg]
theorem tTo_le (gs : List E3) (k : Nat) : tTo gs k ≤ k := by
  unfold tTo
  exact Nat.le_trans (List.length_filter_le _ _) (List.length_take_le _ _)
def tCount (d : Circ) : Int := if circB d = true then (tTo d.gs d.gs.length : Int) else 0
/-- A valid circuit without T gates. -/
def clifB (d : Circ) : Bool := circB d && decide (tTo d.gs d.gs.length = 0)
theorem clif_parts {d : Circ} (h : clifB d = true) : CircOk d ∧ ∀ g ∈ d.gs, isTg g = false := by
  unfold clifB at h
  rw [Bool.and_eq_true] at h
  refine ⟨of_decide_eq_true h.1, fun g hg => ?_⟩
  have h2 := of_decide_eq_true h.2
  unfold tTo at h2
  rw [List.take_length] at h2
  have h3 := List.eq_nil_of_length_eq_zero h2
  rw [List.filter_eq_nil_iff] at h3
  have := h3 g hg
  cases e : isTg g
  · rfl
  · exact absurd e this
set_option maxHeartbeats 1000000 in
theorem spec_l4CountT_any (v : Value) (d : Circ) (w : World) (h : RdE w v E3.cs 3 d.gs) (hl : d.gs.length ≤ 1048576) :
    Calls Tryz.prog 97 #[.agg #[.int .i64 d.n, v], .int .i64 7, .int .i64 8] w fun e w' => e = .returned (.int .i64 (tTo d.gs d.gs.length : Int)) ∧ Below w.heap.size w w' := by
  obtain ⟨A, c, rfl, Hc⟩ := gate_at h
  clear h
  go_enter Tryz.func97, Tryz.ntmps97
  go_wp2_with fail
  go_loopw [7, 13] (fun n i wr => ∃ k : Nat, k ≤ d.gs.length ∧ i = .int .i64 k ∧ n = .int .i64 (tTo d.gs k : Int) ∧ Below w.heap.size w wr) (fun _ i _ => d.gs.length - (intOf i).toNat)
  case atStart => exact ⟨0, Nat.zero_le _, rfl, rfl, belo⟩
  case round =>
    obtain ⟨k, hk, rfl, rfl, hbel⟩ := hrel
    by_cases hlt : k < d.gs.length
    · obtain ⟨b, off, rfl, hb, q0, q1, q2⟩ := Hc.out k hlt
      obtain ⟨y, hy⟩ : ∃ y, y = d.gs.getD k ⟨0, 0, 0⟩ := ⟨_, rfl⟩
      have hs := tTo_succ hlt
      have hcl := tTo_le d.gs k
      rw [← hy] at q0 q1 q2 hs
      replace q0 := (hbel.cell hb).trans q0; replace q1 := (hbel.cell hb).trans q1; replace q2 := (hbel.cell hb).trans q2
      obtain ⟨x, hx⟩ : ∃ x, x = tTo d.gs k := ⟨_, rfl⟩
      rw [← hx] at hs hcl ⊢
      have i1 : (k : Int) < (d.gs.length : Int) := by omega
      have hsz := hbel.size
      cases h9 : isTg y
      · have D1 := Lib.hid (show decide (7 ≤ y.a ∧ y.a ≤ 8) = false from h9)
        have Hs := Lib.hid (show tTo d.gs (k + 1) = x from by rw [hs, h9]; rfl)
        clear hs hx hy h9
        go_wp2_with fail
        refine (l1In_p _ _ _ _).mono ?_; rintro e w' ⟨rfl, rfl⟩; rw [D1.out]
        go_wp2_with fail
        go_roundw
        case rel => exact ⟨k + 1, by omega, by go_num, by rw [Hs.out], belo⟩
        case measure => simp [intOf]; omega
      · have D1 := Lib.hid (show decide (7 ≤ y.a ∧ y.a ≤ 8) = true from h9)
        have Hs := Lib.hid (show tTo d.gs (k + 1) = x + 1 from by rw [hs, h9]; rfl)
        clear hs hx hy h9
        go_wp2_with fail
        refine (l1In_p _ _ _ _).mono ?_; rintro e w' ⟨rfl, rfl⟩; rw [D1.out]
        go_wp2_with fail
        go_roundw
        case rel => exact ⟨k + 1, by omega, by go_num, by rw [Hs.out]; go_num, belo⟩
        case measure => simp [intOf]; omega
    · have hr : Hid (tTo d.gs k = tTo d.gs d.gs.length) := by show _ = _; rw [show k = d.gs.length by omega]
      go_wp2_with fail
      go_ret
      exact ⟨ret_int (by rw [hr.out]), hbel⟩
set_option maxHeartbeats 1000000 in
theorem spec_CountT_any (v : Value) (d : Circ) (w : World) (h : RdE w v E3.cs 3 d.gs) (hl : d.gs.length ≤ 1048576) :
    Calls Tryz.prog 65 #[.agg #[.int .i64 d.n, v]] w fun e w' => e = .returned (.tuple #[.int .i64 (tCount d), .bool (circB d)]) ∧ Below w.heap.size w w' := by
  have H := Lib.hid h
  obtain ⟨A, c, rfl, _⟩ := h.form
  clear h
  cases hb : circB d with
  | false =>
    have HB := Lib.hid hb
    have HN := Lib.hid (show (0 : Int) = tCount d from by unfold tCount; rw [hb]; rfl)
    clear hb
    go_enter Tryz.func65, Tryz.ntmps65
    go_wp2_with fail
    refine (spec_l4Good_any _ d _ (Rd.below H.out (show Below w.heap.size w _ from belo) rfl) hl).mono ?_; rintro e w1 ⟨rfl, hb1⟩; rw [HB.out]
    go_wp2_with fail
    go_ret2
    exact ⟨(by rw [← HN.out] <;> rfl), belo⟩
  | true =>
    have HB := Lib.hid hb
    have HN := Lib.hid (show (tTo d.gs d.gs.length : Int) = tCount d from by unfold tCount; rw [hb]; rfl)
    clear hb
    go_enter Tryz.func65, Tryz.ntmps65
    go_wp2_with fail
    refine (spec_l4Good_any _ d _ (Rd.below H.out (show Below w.heap.size w _ from belo) rfl) hl).mono ?_; rintro e w1 ⟨rfl, hb1⟩; rw [HB.out]
    obtain ⟨hc_hb1, hf_hb1⟩ := bcell hb1; have hz_hb1 := hb1.size; (try simp at hz_hb1); have hs0_hb1 : w.heap.size < w1.heap.size := (by omega)
    go_wp2_with fail
    refine (spec_l4CountT_any _ d _ (Rd.below H.out (show Below w.heap.size w w1 from belo) rfl) hl).mono ?_; rintro e w2 ⟨rfl, hb2⟩
    rw [HN.out]
    go_wp2_with fail
    go_ret2
    exact ⟨rfl, belo⟩
theorem clif_def (d : Circ) : clifB d = (circB d && (tCount d == 0)) := by
  unfold clifB tCount
  cases circB d
  · rfl
  · rw [if_pos rfl, Bool.true_and, Bool.true_and, Bool.eq_iff_iff, decide_eq_true_eq, beq_iff_eq]; omega
theorem spec_l7Clifford_any (v : Value) (d : Circ) (w : World) (h : RdE w v E3.cs 3 d.gs) (hl : d.gs.length ≤ 1048576) :
    Calls Tryz.prog 28 #[.agg #[.int .i64 d.n, v]] w fun e w' => e = .returned (.bool (clifB d)) ∧ Below w.heap.size w w' := by
  have H := Lib.hid h
  obtain ⟨A, c, rfl, _⟩ := h.form
  clear h
  have HC := Lib.hid (clif_def d)
  cases hb : circB d with
  | false =>
    have HB := Lib.hid hb
    have HR := Lib.hid (show clifB d = false from by rw [HC.out, hb]; rfl)
    clear hb
    go_enter Tryz.func28, Tryz.ntmps28
    go_wp2_with fail
    refine (spec_CountT_any _ d _ (Rd.below H.out (show Below w.heap.size w _ from belo) rfl) hl).mono ?_; rintro e w1 ⟨rfl, hb1⟩; rw [HB.out]
    go_wp2_with fail
    go_ret
    exact ⟨ret_bool HR.out.symm, belo⟩
  | true =>
    have HB := Lib.hid hb
    cases ht : (tCount d == 0)
    all_goals
      have HR := Lib.hid (show clifB d = (tCount d == 0) from by rw [HC.out, hb]; rfl)
      rw [ht] at HR
      have HT := Lib.hid ht
      obtain ⟨N, hN⟩ : ∃ N, N = tCount d := ⟨_, rfl⟩
      rw [← hN] at ht
      have HN := Lib.hid hN
      clear hN
      go_enter Tryz.func28, Tryz.ntmps28
      go_wp2_with fail
      refine (spec_CountT_any _ d _ (Rd.below H.out (show Below w.heap.size w _ from belo) rfl) hl).mono ?_; rintro e w1 ⟨rfl, hb1⟩; rw [HB.out, ← HN.out]
      go_wp2_with fail
      go_ret
      exact ⟨ret_bool (by rw [HR.out] <;> rfl), belo⟩
theorem impl_isT_any (k : Int) (w : World) :
    Calls Tryz.prog 64 #[.int .i64 k] w fun e w' => e = .returned (.bool (decide (7 ≤ k ∧ k ≤ 8))) ∧ w = w' := by
  go_enter Tryz.func64, Tryz.ntmps64
  go_wp2_with fail
  all_goals (go_ret; refine ⟨ret_bool ?_, rfl⟩)
  all_goals (first | (rw [Bool.eq_iff_iff]; simp; omega) | (simp_all; omega) | simp_all)
set_option maxHeartbeats 2000000 in
theorem impl_counted_any (v : Value) (d : Circ) (w : World) (h : RdE w v E3.cs 3 d.gs) (hl : d.gs.length ≤ 1048576) :
    Calls Tryz.prog 63 #[.agg #[.int .i64 d.n, v], .func (.func 64) #[] #[]] w fun e w' => e = .returned (.tuple #[.int .i64 (tCount d), .bool (circB d)]) ∧ Below w.heap.size w w' := by
  have H := Lib.hid h
  obtain ⟨A, c, rfl, Hc⟩ := gate_at h
  clear h
  cases hb : circB d with
  | false =>
    have HB := Lib.hid hb
    have HN := Lib.hid (show (0 : Int) = tCount d from by unfold tCount; rw [hb]; rfl)
    clear hb
    go_enter Tryz.func63, Tryz.ntmps63
    go_wp2_with fail
    refine (impl_IsValidCircuit_any _ d _ (Rd.below H.out (show Below w.heap.size w _ from belo) rfl) hl).mono ?_; rintro e w1 ⟨rfl, hb1⟩; rw [HB.out]
    go_wp2_with fail
    go_ret2
    exact ⟨(by rw [← HN.out] <;> rfl), belo⟩
  | true =>
    have HB := Lib.hid hb
    have HN := Lib.hid (show (tTo d.gs d.gs.length : Int) = tCount d from by unfold tCount; rw [hb]; rfl)
    clear hb
    go_enter Tryz.func63, Tryz.ntmps63
    go_wp2_with fail
    refine (impl_IsValidCircuit_any _ d _ (Rd.below H.out (show Below w.heap.size w _ from belo) rfl) hl).mono ?_; rintro e w1 ⟨rfl, hb1⟩; rw [HB.out]
    have z1 := hb1.size; (simp at z1)
    have t1 := below_cell hb1 rfl (show (w.alloc (.cells #[.int .i64 d.n, .slice A d.gs.length c] 25)).cell? ⟨w.heap.size, 1, none⟩ = some (.slice A d.gs.length c) from cela)
    have bw1 := Lib.hid (show Below w.heap.size w w1 from belo); clear hb1
    go_wp2_with fail
    clear t1
    go_loopw [6, 15] (fun n i wr => ∃ k : Nat, k ≤ d.gs.length ∧ i = .int .i64 k ∧ n = .int .i64 (tTo d.gs k : Int) ∧ Below w.heap.size w wr) (fun _ i _ => d.gs.length - (intOf i).toNat)
    case atStart => exact ⟨0, Nat.zero_le _, rfl, rfl, bw1.out⟩
    case round =>
      obtain ⟨k, hk, rfl, rfl, hbel⟩ := hrel
      by_cases hlt : k < d.gs.length
      · obtain ⟨b, off, rfl, hb, q0, q1, q2⟩ := Hc.out k hlt
        obtain ⟨y, hy⟩ : ∃ y, y = d.gs.getD k ⟨0, 0, 0⟩ := ⟨_, rfl⟩
        have hs := tTo_succ hlt
        have hcl := tTo_le d.gs k
        rw [← hy] at q0 q1 q2 hs
        replace q0 := (hbel.cell hb).trans q0; replace q1 := (hbel.cell hb).trans q1; replace q2 := (hbel.cell hb).trans q2
        obtain ⟨x, hx⟩ : ∃ x, x = tTo d.gs k := ⟨_, rfl⟩
        rw [← hx] at hs hcl ⊢
        have i1 : (k : Int) < (d.gs.length : Int) := by omega
        have hsz := hbel.size
        cases h9 : isTg y
        · have D1 := Lib.hid (show decide (7 ≤ y.a ∧ y.a ≤ 8) = false from h9)
          have Hs := Lib.hid (show tTo d.gs (k + 1) = x from by rw [hs, h9]; rfl)
          clear hs hx hy h9
          go_wp2_with fail
          refine (impl_isT_any _ _).mono ?_; rintro e w' ⟨rfl, rfl⟩; rw [D1.out]
          go_wp2_with fail
          go_roundw
          case rel => exact ⟨k + 1, by omega, by go_num, by rw [Hs.out], belo⟩
          case measure => simp [intOf]; omega
        · have D1 := Lib.hid (show decide (7 ≤ y.a ∧ y.a ≤ 8) = true from h9)
          have Hs := Lib.hid (show tTo d.gs (k + 1) = x + 1 from by rw [hs, h9]; rfl)
          clear hs hx hy h9
          go_wp2_with fail
          refine (impl_isT_any _ _).mono ?_; rintro e w' ⟨rfl, rfl⟩; rw [D1.out]
          go_wp2_with fail
          go_roundw
          case rel => exact ⟨k + 1, by omega, by go_num, by rw [Hs.out]; go_num, belo⟩
          case measure => simp [intOf]; omega
      · have hr : Hid (tTo d.gs k = tCount d) := by show _ = _; rw [show k = d.gs.length by omega]; exact HN.out
        rw [hr.out]
        go_wp2_with fail
        go_ret2
        exact ⟨rfl, hbel⟩
theorem impl_CountT_any (v : Value) (d : Circ) (w : World) (h : RdE w v E3.cs 3 d.gs) (hl : d.gs.length ≤ 1048576) :
    Calls Tryz.prog 24 #[.agg #[.int .i64 d.n, v]] w fun e w' => e = .returned (.tuple #[.int .i64 (tCount d), .bool (circB d)]) ∧ Below w.heap.size w w' := by
  have H := Lib.hid h
  obtain ⟨A, c, rfl, _⟩ := h.form
  clear h
  go_enter Tryz.func24, Tryz.ntmps24
  go_wp2_with fail
  refine (impl_counted_any _ d _ (Rd.below H.out (show Below w.heap.size w _ from belo) rfl) hl).mono ?_; rintro e w1 ⟨rfl, hb1⟩
  go_wp2_with fail
  go_ret2
  exact ⟨rfl, belo⟩
end Go.Proofs.YtnckabohlakbgaaGreat
