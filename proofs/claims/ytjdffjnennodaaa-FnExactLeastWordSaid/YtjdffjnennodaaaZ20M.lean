/- Copies of slices of whole numbers: the reference's l1Own and the library's slices.Clone. -/
import Derived.Test.YtjdffjnennodaaaZ15Words
import Derived.Test.YtjdffjnennodaaaZ05M
import Derived.WalkSpells
import Derived.Deep.LoopGhost
import Derived.Shelf.Abstract
import Derived.Test.YtjdffjnennodaaaZ16M
namespace Go.Proofs.Ytjdffjnennodaaa
set_option linter.unusedSimpArgs false
set_option linter.unusedVariables false
set_option linter.unnecessarySimpa false
set_option maxRecDepth 200000
open Go.ChangeShapes Go.WideShapes Go.ChangeAt Go.RowKit

/-- A function value, g bound to lb, that answers p: it may lay blocks of its own. -/
def PredB {α : Type} (g : Nat) (lb : Array Value) (enc : α → Value) (p : α → Bool) (zs : List α) (w : World) : Prop :=
  ∀ (W : World) (x : α), x ∈ zs → Below w.heap.size w W → Calls Try.prog g (#[enc x] ++ lb) W fun e w' => e = .returned (.bool (p x)) ∧ Below W.heap.size W w'
/-- The first place at which p holds. -/
def idxI {α : Type} (p : α → Bool) (zs : List α) : Int := match zs.findIdx? p with | some i => i | none => -1
theorem idx_hit {α : Type} {p : α → Bool} {zs : List α} {k : Nat} (hk : k < zs.length) (h0 : Hid (∀ j (h : j < zs.length), j < k → p zs[j] = false)) (h1 : p zs[k] = true) : (k : Int) = idxI p zs := by
  have e : zs.findIdx? p = some k := by
    rw [List.findIdx?_eq_some_iff_getElem]
    exact ⟨hk, h1, fun j hj => by simp [h0.out j (by omega) hj]⟩
  simp [idxI, e]
theorem idx_miss {α : Type} {p : α → Bool} {zs : List α} {k : Nat} (hk : zs.length ≤ k) (h0 : Hid (∀ j (h : j < zs.length), j < k → p zs[j] = false)) : (-1 : Int) = idxI p zs := by
  have e : zs.findIdx? p = none := by
    rw [List.findIdx?_eq_none_iff]
    intro x hx
    obtain ⟨j, hj, rfl⟩ := List.mem_iff_getElem.1 hx
    exact h0.out j hj (by omega)
  simp [idxI, e]
theorem idx_next {α : Type} {p : α → Bool} {zs : List α} {k : Nat} (hk : k < zs.length) (h0 : Hid (∀ j (h : j < zs.length), j < k → p zs[j] = false)) (h1 : p zs[k] = false) : Hid (∀ j (h : j < zs.length), j < k + 1 → p zs[j] = false) := by
  show ∀ j (h : j < zs.length), j < k + 1 → p zs[j] = false
  intro j h hj
  by_cases e : j = k
  · subst e; exact h1
  · exact h0.out j h (by omega)
theorem idxI_ge {α : Type} (p : α → Bool) (zs : List α) : (0 ≤ idxI p zs) ↔ zs.any p = true := by
  unfold idxI
  cases h : zs.findIdx? p with
  | none =>
    rw [List.findIdx?_eq_none_iff] at h
    simp only [List.any_eq_true]
    constructor
    · intro h0; omega
    · rintro ⟨x, hx, hp⟩; rw [h x hx] at hp; cases hp
  | some i =>
    rw [List.findIdx?_eq_some_iff_getElem] at h
    obtain ⟨hi, h1, _⟩ := h
    simp only [List.any_eq_true]
    exact ⟨fun _ => ⟨_, List.getElem_mem hi, h1⟩, fun _ => by omega⟩
theorem idxI_cases {α : Type} (p : α → Bool) (zs : List α) : (idxI p zs = -1 ∧ ∀ x ∈ zs, p x = false) ∨ ∃ j : Nat, idxI p zs = (j : Int) ∧ ∃ h : j < zs.length, p zs[j] = true ∧ ∀ t (h : t < zs.length), t < j → p zs[t] = false := by
  unfold idxI
  cases h : zs.findIdx? p with
  | none => rw [List.findIdx?_eq_none_iff] at h; exact .inl ⟨rfl, fun x hx => by simpa using h x hx⟩
  | some i =>
    rw [List.findIdx?_eq_some_iff_getElem] at h
    obtain ⟨hi, h1, h2⟩ := h
    exact .inr ⟨i, rfl, hi, h1, fun t ht htj => by simpa using h2 t htj⟩
end Go.Proofs.Ytjdffjnennodaaa
namespace Go.Proofs.Ytjdffjnennodaaa
set_option linter.unusedSimpArgs false
set_option linter.unusedVariables false
set_option linter.unnecessarySimpa false
set_option maxRecDepth 200000
open Go.ChangeShapes Go.WideShapes Go.ChangeAt Go.RowKit

def encPauli (x : E3) : Value := .agg #[.int .i64 x.a, .int .i64 x.b, .int .i64 x.c]
set_option maxHeartbeats 2000000 in
theorem slices_IndexFunc_Pauli (g : Nat) (lb : Array Value) (p : E3 → Bool) (eg : ∀ args w, (callFunc g args).run Try.prog w = .ok (.enter g args) w) (v : Value) (zs : List E3) (w : World) (h : RdE w v E3.cs 3 zs) (hp : PredB g lb encPauli p zs w) :
    Calls Try.prog 58 #[v, .func (.func g) #[] lb] w fun e w' => e = .returned (.int .i64 (idxI p zs)) ∧ Below w.heap.size w w' := by
  rcases h.cases0 E3.len with ⟨rfl, a0, c0, rfl⟩ | ⟨h0, b, off, cap, rfl, hb, hl, hm, hc⟩
  · go_enter Try.func58, Try.ntmps58
    go_wp2_with fail
    refine wp_loop_rounds 1 ?_
    rw [rounds_succ]
    go_wp2_with fail
    go_ret
    exact ⟨rfl, (by repeat (first | exact Below.refl _ _ | assumption | refine Below.drew ?_ | refine below_drewN ?_ _ | refine Below.alloc ?_ (by first | omega | (simp <;> omega)) _ | refine Below.setCell ?_ (by first | omega | (simp <;> omega)) _ | refine Below.trans ?_ (Below.mono (by assumption) (by first | omega | (simp <;> omega)))))⟩
  · clear h
    have Hp := Lib.hid hp; clear hp
    go_enter Try.func58, Try.ntmps58
    go_wp2_with fail
    go_loopg [5, 8] zs.length (fun gg _ i wr => ∃ k : Nat, k ≤ zs.length ∧ zs.length - k ≤ gg ∧ i = .int .i64 k ∧ Hid (∀ j (h : j < zs.length), j < k → p zs[j] = false) ∧ Below w.heap.size w wr)
    case atStart => exact ⟨0, Nat.zero_le _, by omega, rfl, (show ∀ j (h : j < zs.length), j < 0 → p zs[j] = false from fun j h hj => absurd hj (Nat.not_lt_zero _)), Below.refl _ _⟩
    case round =>
      obtain ⟨k, hk, hg, rfl, hpre, hbel⟩ := hrel
      by_cases hlt : k < zs.length
      · obtain ⟨y, hy⟩ : ∃ y, zs[k] = y := ⟨_, rfl⟩
        have q0 : wr.cell? ⟨b, off + k * 3, none⟩ = some (.int .i64 y.a) := (hbel.cell hb).trans (by rw [← hy]; exact hc k hlt 0 _ (by omega) rfl)
        have q1 : wr.cell? ⟨b, off + k * 3 + 1, none⟩ = some (.int .i64 y.b) := (hbel.cell hb).trans (by rw [← hy]; exact hc k hlt 1 _ (by omega) rfl)
        have q2 : wr.cell? ⟨b, off + k * 3 + 2, none⟩ = some (.int .i64 y.c) := (hbel.cell hb).trans (by rw [← hy]; exact hc k hlt 2 _ (by omega) rfl)
        have hcall := Hp.out wr y (by rw [← hy]; exact List.getElem_mem hlt) hbel
        unfold encPauli at hcall
        have i1 : (k : Int) < (zs.length : Int) := by omega
        have Hy := Lib.hid hy; clear hy hc
        cases hq : p y with
        | true =>
          rw [hq] at hcall
          have Hq := Lib.hid hq; clear hq
          go_wp2_with (go_at_fn g; refine hcall.mono ?_; rintro e w2 ⟨rfl, hb2⟩)
          go_ret
          exact ⟨ret_int (idx_hit hlt hpre (by rw [Hy.out]; exact Hq.out)), below_step hbel hb2⟩
        | false =>
          rw [hq] at hcall
          have Hq := Lib.hid hq; clear hq
          go_wp2_with (go_at_fn g; refine hcall.mono ?_; rintro e w2 ⟨rfl, hb2⟩)
          go_roundg (zs.length - (k + 1))
          case measure => omega
          case rel => exact ⟨k + 1, by omega, by omega, by go_num, idx_next hlt hpre (by rw [Hy.out]; exact Hq.out), below_step hbel hb2⟩
      · clear hc
        go_wp2_with fail
        go_ret
        exact ⟨ret_int (idx_miss (by omega) hpre), hbel⟩
theorem slices_ContainsFunc_Pauli (g : Nat) (lb : Array Value) (p : E3 → Bool) (eg : ∀ args w, (callFunc g args).run Try.prog w = .ok (.enter g args) w) (v : Value) (zs : List E3) (w : World) (h : RdE w v E3.cs 3 zs) (hp : PredB g lb encPauli p zs w) :
    Calls Try.prog 38 #[v, .func (.func g) #[] lb] w fun e w' => e = .returned (.bool (zs.any p)) ∧ Below w.heap.size w w' := by
  have Hh := Lib.hid h; have Hp := Lib.hid hp
  obtain ⟨A, c, rfl, _⟩ := h.form
  clear h hp
  go_enter Try.func38, Try.ntmps38
  go_wp2_with fail
  refine (slices_IndexFunc_Pauli g lb p eg _ zs _ Hh.out Hp.out).mono ?_; rintro e w1 ⟨rfl, hb1⟩
  go_wp2_with fail
  go_ret
  exact ⟨ret_bool (by rw [Bool.eq_iff_iff, ← idxI_ge]; simp), hb1⟩
end Go.Proofs.Ytjdffjnennodaaa
