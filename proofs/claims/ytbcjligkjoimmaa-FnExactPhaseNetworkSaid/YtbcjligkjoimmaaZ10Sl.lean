/- Copies of slices of whole numbers: the reference's l1Own and the library's slices.Clone. -/
import Derived.Test.YtbcjligkjoimmaaZ09Words
import Derived.Test.YtbcjligkjoimmaaZ04Lin1
import Derived.WalkSpells
import Derived.Deep.LoopGhost
import Derived.Shelf.Abstract
namespace Go.Proofs.Ytbcjligkjoimmaa
set_option linter.unusedSimpArgs false
set_option linter.unusedVariables false
set_option linter.unnecessarySimpa false
set_option maxRecDepth 200000
open Go.ChangeShapes Go.WideShapes Go.ChangeAt Go.RowKit

theorem spec_l1Own_any (v : Value) (zs : List Int) (w : World) (h : RdI w v zs) (hn : zs.length ≤ 1048576) :
    Calls Try.prog 45 #[v] w fun e w' => ∃ v', e = .returned v' ∧ OwnI w' w.heap.size v' zs ∧ Below w.heap.size w w' := by
  obtain ⟨i0, hi, hz0, hz1, hz2⟩ := info_parts info_int
  obtain ⟨A, c, rfl, _⟩ := h.form
  have HR := Lib.hid (Reads.below (Reads.of_rd h) (show Below w.heap.size w (w.alloc (.cells #[] 3)) from (by repeat (first | exact Below.refl _ _ | assumption | refine Below.drew ?_ | refine below_drewN ?_ _ | refine Below.alloc ?_ (by first | omega | (simp <;> omega)) _ | refine Below.setCell ?_ (by first | omega | (simp <;> omega)) _ | refine Below.trans ?_ (Below.mono (by assumption) (by first | omega | (simp <;> omega)))))))
  go_enter Try.func45, Try.ntmps45
  go_wp2_with (at_builtin; refine wpList_append_any _ rfl _ _ 23 rfl w.heap.size 3 i0 (.int .i64 0) 1 8 Try.underlying23 hi hz0 hz1 hz2 rfl (by decide) (.slice (some ⟨w.heap.size, 0, none⟩) 0 0) 0 [] rfl (own_lit0 (α := Int) (f := fun _ => []) (sz := 1) w w.heap.size 3 w.heap.size rfl (Nat.le_refl _)) w.heap.size A zs.length c (zs.map (Value.int .i64)) rfl HR.out ints_one (by unfold maxLen; omega) (by omega) (by simp) ?_; intro v1 w1 hown1 hg1 hat1)
  go_ret
  refine ⟨v1, rfl, by simpa [OwnI] using hown1, ?_⟩
  exact Below.grown (show Below w.heap.size w (w.alloc (.cells #[] 3)) from (by repeat (first | exact Below.refl _ _ | assumption | refine Below.drew ?_ | refine below_drewN ?_ _ | refine Below.alloc ?_ (by first | omega | (simp <;> omega)) _ | refine Below.setCell ?_ (by first | omega | (simp <;> omega)) _ | refine Below.trans ?_ (Below.mono (by assumption) (by first | omega | (simp <;> omega)))))) hg1 (by simp) (fun k hk => by simp [Value.ownBlock] at hk; omega)

theorem slices_Clone_any (v : Value) (zs : List Int) (w : World) (h : RdI w v zs) (hn : zs.length ≤ 1048576) :
    Calls Try.prog 61 #[v] w fun e w' => ∃ v', e = .returned v' ∧ OwnI w' w.heap.size v' zs ∧ Below w.heap.size w w' := by
  obtain ⟨i0, hi, hz0, hz1, hz2⟩ := info_parts info_int
  obtain ⟨A, c, rfl, _⟩ := h.form
  rcases A with _ | ad
  · have h0 : zs = [] := by
      rcases h.cases with ⟨_, h0⟩ | ⟨b, off, cap, e, _⟩
      · exact h0
      · cases e
    subst h0
    have hq := fun (W : World) (n c n2 c2 : Nat) => Lib.run_eql_slice_nil (P := Try.prog) W 23 3 none n c n2 c2 Try.underlying23
    clear h
    go_enter Try.func61, Try.ntmps61
    go_wp2_with fail
    go_ret
    exact ⟨_, rfl, own_nil _ _, (by repeat (first | exact Below.refl _ _ | assumption | refine Below.drew ?_ | refine below_drewN ?_ _ | refine Below.alloc ?_ (by first | omega | (simp <;> omega)) _ | refine Below.setCell ?_ (by first | omega | (simp <;> omega)) _ | refine Below.trans ?_ (Below.mono (by assumption) (by first | omega | (simp <;> omega)))))⟩
  · have HR := Lib.hid (Reads.below (Reads.of_rd h) (show Below w.heap.size w (w.alloc (.cells #[] 3)) from (by repeat (first | exact Below.refl _ _ | assumption | refine Below.drew ?_ | refine below_drewN ?_ _ | refine Below.alloc ?_ (by first | omega | (simp <;> omega)) _ | refine Below.setCell ?_ (by first | omega | (simp <;> omega)) _ | refine Below.trans ?_ (Below.mono (by assumption) (by first | omega | (simp <;> omega)))))))
    have hq := fun (W : World) (n c n2 c2 : Nat) => Lib.run_eql_slice_nil (P := Try.prog) W 23 3 (some ad) n c n2 c2 Try.underlying23
    clear h
    go_enter Try.func61, Try.ntmps61
    go_wp2_with (at_builtin; refine wpList_append_any _ rfl _ _ 23 rfl w.heap.size 3 i0 (.int .i64 0) 1 8 Try.underlying23 hi hz0 hz1 hz2 rfl (by decide) (.slice (some ⟨w.heap.size, 0, none⟩) 0 0) 0 [] rfl (own_lit0 (α := Int) (f := fun _ => []) (sz := 1) w w.heap.size 3 w.heap.size rfl (Nat.le_refl _)) w.heap.size (some ad) zs.length c (zs.map (Value.int .i64)) rfl HR.out ints_one (by unfold maxLen; omega) (by omega) (by simp) ?_; intro v1 w1 hown1 hg1 hat1)
    go_ret
    refine ⟨v1, rfl, by simpa [OwnI] using hown1, ?_⟩
    exact Below.grown (show Below w.heap.size w (w.alloc (.cells #[] 3)) from (by repeat (first | exact Below.refl _ _ | assumption | refine Below.drew ?_ | refine below_drewN ?_ _ | refine Below.alloc ?_ (by first | omega | (simp <;> omega)) _ | refine Below.setCell ?_ (by first | omega | (simp <;> omega)) _ | refine Below.trans ?_ (Below.mono (by assumption) (by first | omega | (simp <;> omega)))))) hg1 (by simp) (fun k hk => by simp [Value.ownBlock] at hk; omega)
/-- A function value, g bound to lb, that answers p: it may lay blocks of its own. -/
def PredB {α : Type} (g : Nat) (lb : Array Value) (enc : α → Value) (p : α → Bool) (zs : List α) (w : World) : Prop :=
  ∀ (W : World) (x : α), x ∈ zs → Below w.heap.size w W → Calls Try.prog g (#[enc x] ++ lb) W fun e w' => e = .returned (.bool (p x)) ∧ Below W.heap.size W w'
/-- The first place at which p holds. -/
def idxI {α : Type} (p : α → Bool) (zs : List α) : Int := match zs.findIdx? p with | some i => i | none => -1
theorem idx_hit {α : Type} {p : α → Bool} {zs : List α} {k : Nat} (hk : k < zs.length) (h0 : Hid (∀ j (h : j < zs.length), j < k → p zs[j] = false)) (h1 : p zs[k] = true) : (k : Int) = idxI p zs := by
  have e : zs.findIdx? p = some k := by
    rw [List.findIdx?_eq_some_iff_getElem]
    exact ⟨hk, h1, fun j hj => by simp [h0.out j (by omega) hj]⟩
  simp [idxI, e]
theorem idx_miss {α : Type} {p : α → Bool} {zs : List α} {k : Nat} (hk : zs.length ≤ k) (h0 : Hid (∀ j (h : j < zs.length), j < k → p zs[j] = false)) : (-1 : Int) = idxI p zs := by
  have e : zs.findIdx? p = none := by
    rw [List.findIdx?_eq_none_iff]
    intro x hx
    obtain ⟨j, hj, rfl⟩ := List.mem_iff_getElem.1 hx
    exact h0.out j hj (by omega)
  simp [idxI, e]
theorem idx_next {α : Type} {p : α → Bool} {zs : List α} {k : Nat} (hk : k < zs.length) (h0 : Hid (∀ j (h : j < zs.length), j < k → p zs[j] = false)) (h1 : p zs[k] = false) : Hid (∀ j (h : j < zs.length), j < k + 1 → p zs[j] = false) := by
  show ∀ j (h : j < zs.length), j < k + 1 → p zs[j] = false
  intro j h hj
  by_cases e : j = k
  · subst e; exact h1
  · exact h0.out j h (by omega)
theorem idxI_ge {α : Type} (p : α → Bool) (zs : List α) : (0 ≤ idxI p zs) ↔ zs.any p = true := by
  unfold idxI
  cases h : zs.findIdx? p with
  | none =>
    rw [List.findIdx?_eq_none_iff] at h
    simp only [List.any_eq_true]
    constructor
    · intro h0; omega
    · rintro ⟨x, hx, hp⟩; rw [h x hx] at hp; cases hp
  | some i =>
    rw [List.findIdx?_eq_some_iff_getElem] at h
    obtain ⟨hi, h1, _⟩ := h
    simp only [List.any_eq_true]
    exact ⟨fun _ => ⟨_, List.getElem_mem hi, h1⟩, fun _ => by omega⟩
set_option maxHeartbeats 2000000 in
theorem slices_IndexFunc_ints (g : Nat) (lb : Array Value) (p : Int → Bool) (eg : ∀ args w, (callFunc g args).run Try.prog w = .ok (.enter g args) w) (v : Value) (zs : List Int) (w : World) (h : RdI w v zs) (hp : PredB g lb (Value.int .i64) p zs w) :
    Calls Try.prog 97 #[v, .func (.func g) #[] lb] w fun e w' => e = .returned (.int .i64 (idxI p zs)) ∧ Below w.heap.size w w' := by
  rcases h.cases with ⟨⟨a0, c0, rfl⟩, rfl⟩ | ⟨b, off, cap, rfl, hb, hl, hm, hc⟩
  · go_enter Try.func97, Try.ntmps97
    go_wp2_with fail
    refine wp_loop_rounds 1 ?_
    rw [rounds_succ]
    go_wp2_with fail
    go_ret
    exact ⟨rfl, (by repeat (first | exact Below.refl _ _ | assumption | refine Below.drew ?_ | refine below_drewN ?_ _ | refine Below.alloc ?_ (by first | omega | (simp <;> omega)) _ | refine Below.setCell ?_ (by first | omega | (simp <;> omega)) _ | refine Below.trans ?_ (Below.mono (by assumption) (by first | omega | (simp <;> omega)))))⟩
  · clear h
    have Hp := Lib.hid hp; clear hp
    go_enter Try.func97, Try.ntmps97
    go_wp2_with fail
    go_loopg [5, 8] zs.length (fun gg _ i wr => ∃ k : Nat, k ≤ zs.length ∧ zs.length - k ≤ gg ∧ i = .int .i64 k ∧ Hid (∀ j (h : j < zs.length), j < k → p zs[j] = false) ∧ Below w.heap.size w wr)
    case atStart => exact ⟨0, Nat.zero_le _, by omega, rfl, (show ∀ j (h : j < zs.length), j < 0 → p zs[j] = false from fun j h hj => absurd hj (Nat.not_lt_zero _)), Below.refl _ _⟩
    case round =>
      obtain ⟨k, hk, hg, rfl, hpre, hbel⟩ := hrel
      by_cases hlt : k < zs.length
      · have hcell := hc k hlt
        have q1 := (hbel.cell (p := ⟨b, off + k, none⟩) hb).trans hcell
        have i1 : (k : Int) < (zs.length : Int) := by omega
        clear hc hcell
        obtain ⟨y, hy⟩ : ∃ y, zs[k] = y := ⟨_, rfl⟩
        rw [show zs.getD k 0 = y from by rw [← hy]; simp [List.getD, hlt]] at q1
        have hcall := Hp.out wr y (by rw [← hy]; exact List.getElem_mem hlt) hbel
        have Hy := Lib.hid hy; clear hy
        cases hq : p y with
        | true =>
          rw [hq] at hcall
          have Hq := Lib.hid hq; clear hq
          go_wp2_with (go_at_fn g; refine hcall.mono ?_; rintro e w2 ⟨rfl, hb2⟩)
          go_ret
          exact ⟨ret_int (idx_hit hlt hpre (by rw [Hy.out]; exact Hq.out)), below_step hbel hb2⟩
        | false =>
          rw [hq] at hcall
          have Hq := Lib.hid hq; clear hq
          go_wp2_with (go_at_fn g; refine hcall.mono ?_; rintro e w2 ⟨rfl, hb2⟩)
          go_roundg (zs.length - (k + 1))
          case measure => omega
          case rel => exact ⟨k + 1, by omega, by omega, by go_num, idx_next hlt hpre (by rw [Hy.out]; exact Hq.out), below_step hbel hb2⟩
      · clear hc
        go_wp2_with fail
        go_ret
        exact ⟨ret_int (idx_miss (by omega) hpre), hbel⟩

theorem idxI_cases {α : Type} (p : α → Bool) (zs : List α) : (idxI p zs = -1 ∧ ∀ x ∈ zs, p x = false) ∨ ∃ j : Nat, idxI p zs = (j : Int) ∧ ∃ h : j < zs.length, p zs[j] = true ∧ ∀ t (h : t < zs.length), t < j → p zs[t] = false := by
  unfold idxI
  cases h : zs.findIdx? p with
  | none => rw [List.findIdx?_eq_none_iff] at h; exact .inl ⟨rfl, fun x hx => by simpa using h x hx⟩
  | some i =>
    rw [List.findIdx?_eq_some_iff_getElem] at h
    obtain ⟨hi, h1, h2⟩ := h
    exact .inr ⟨i, rfl, hi, h1, fun t ht htj => by simpa using h2 t htj⟩
theorem slices_ContainsFunc_ints (g : Nat) (lb : Array Value) (p : Int → Bool) (eg : ∀ args w, (callFunc g args).run Try.prog w = .ok (.enter g args) w) (v : Value) (zs : List Int) (w : World) (h : RdI w v zs) (hp : PredB g lb (Value.int .i64) p zs w) :
    Calls Try.prog 87 #[v, .func (.func g) #[] lb] w fun e w' => e = .returned (.bool (zs.any p)) ∧ Below w.heap.size w w' := by
  have Hh := Lib.hid h; have Hp := Lib.hid hp
  obtain ⟨A, c, rfl, _⟩ := h.form
  clear h hp
  go_enter Try.func87, Try.ntmps87
  go_wp2_with fail
  refine (slices_IndexFunc_ints g lb p eg _ zs _ Hh.out Hp.out).mono ?_; rintro e w1 ⟨rfl, hb1⟩
  go_wp2_with fail
  go_ret
  exact ⟨ret_bool (by rw [Bool.eq_iff_iff, ← idxI_ge]; simp), hb1⟩
end Go.Proofs.Ytbcjligkjoimmaa
