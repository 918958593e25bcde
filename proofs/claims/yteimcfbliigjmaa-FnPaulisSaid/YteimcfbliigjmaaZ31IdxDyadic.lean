/- slices.IndexFunc and slices.ContainsFunc over Dyadic. -/
import Derived.Test.YteimcfbliigjmaaZ26Dy7
import Derived.Test.YteimcfbliigjmaaZ30Sl
import Derived.Deep.LoopGhost
import Derived.Shelf.Abstract
namespace Go.Proofs.Yteimcfbliigjmaa
set_option linter.unusedSimpArgs false
set_option linter.unusedVariables false
set_option linter.unnecessarySimpa false
set_option maxRecDepth 200000
open Go.ChangeShapes Go.WideShapes Go.ChangeAt Go.RowKit

def encDy (x : Dy) : Value := x.v
set_option maxHeartbeats 2000000 in
theorem slices_IndexFunc_Dyadic (g : Nat) (lb : Array Value) (p : Dy → Bool) (eg : ∀ args w, (callFunc g args).run Try.prog w = .ok (.enter g args) w) (v : Value) (zs : List Dy) (w : World) (h : RdE w v Dy.cs 5 zs) (hp : PredB g lb encDy p zs w) :
    Calls Try.prog 61 #[v, .func (.func g) #[] lb] w fun e w' => e = .returned (.int .i64 (idxI p zs)) ∧ Below w.heap.size w w' := by
  rcases h.cases0 Dy.len with ⟨rfl, a0, c0, rfl⟩ | ⟨h0, b, off, cap, rfl, hb, hl, hm, hc⟩
  · go_enter Try.func61, Try.ntmps61
    go_wp2_with fail
    refine wp_loop_rounds 1 ?_
    rw [rounds_succ]
    go_wp2_with fail
    go_ret
    exact ⟨rfl, (by repeat (first | exact Below.refl _ _ | assumption | refine Below.drew ?_ | refine below_drewN ?_ _ | refine Below.alloc ?_ (by first | omega | (simp <;> omega)) _ | refine Below.setCell ?_ (by first | omega | (simp <;> omega)) _ | refine Below.trans ?_ (Below.mono (by assumption) (by first | omega | (simp <;> omega)))))⟩
  · clear h
    have Hp := Lib.hid hp; clear hp
    go_enter Try.func61, Try.ntmps61
    go_wp2_with fail
    go_loopg [5, 8] zs.length (fun gg _ i wr => ∃ k : Nat, k ≤ zs.length ∧ zs.length - k ≤ gg ∧ i = .int .i64 k ∧ Hid (∀ j (h : j < zs.length), j < k → p zs[j] = false) ∧ Below w.heap.size w wr)
    case atStart => exact ⟨0, Nat.zero_le _, by omega, rfl, (show ∀ j (h : j < zs.length), j < 0 → p zs[j] = false from fun j h hj => absurd hj (Nat.not_lt_zero _)), Below.refl _ _⟩
    case round =>
      obtain ⟨k, hk, hg, rfl, hpre, hbel⟩ := hrel
      by_cases hlt : k < zs.length
      · obtain ⟨y, hy⟩ : ∃ y, zs[k] = y := ⟨_, rfl⟩
        have q0 : wr.cell? ⟨b, off + k * 5, none⟩ = some (.int .i64 y.num.a) := (hbel.cell hb).trans (by rw [← hy]; exact hc k hlt 0 _ (by omega) rfl)
        have q1 : wr.cell? ⟨b, off + k * 5 + 1, none⟩ = some (.int .i64 y.num.b) := (hbel.cell hb).trans (by rw [← hy]; exact hc k hlt 1 _ (by omega) rfl)
        have q2 : wr.cell? ⟨b, off + k * 5 + 2, none⟩ = some (.int .i64 y.num.c) := (hbel.cell hb).trans (by rw [← hy]; exact hc k hlt 2 _ (by omega) rfl)
        have q3 : wr.cell? ⟨b, off + k * 5 + 3, none⟩ = some (.int .i64 y.num.d) := (hbel.cell hb).trans (by rw [← hy]; exact hc k hlt 3 _ (by omega) rfl)
        have q4 : wr.cell? ⟨b, off + k * 5 + 4, none⟩ = some (.int .i64 (y.exp : Int)) := (hbel.cell hb).trans (by rw [← hy]; exact hc k hlt 4 _ (by omega) rfl)
        have hcall := Hp.out wr y (by rw [← hy]; exact List.getElem_mem hlt) hbel
        unfold encDy at hcall
        have i1 : (k : Int) < (zs.length : Int) := by omega
        have Hy := Lib.hid hy; clear hy hc
        cases hq : p y with
        | true =>
          rw [hq] at hcall
          have Hq := Lib.hid hq; clear hq
          go_wp2_with (go_at_fn g; refine hcall.mono ?_; rintro e w2 ⟨rfl, hb2⟩)
          go_ret
          exact ⟨ret_int (idx_hit hlt hpre (by rw [Hy.out]; exact Hq.out)), below_step hbel hb2⟩
        | false =>
          rw [hq] at hcall
          have Hq := Lib.hid hq; clear hq
          go_wp2_with (go_at_fn g; refine hcall.mono ?_; rintro e w2 ⟨rfl, hb2⟩)
          go_roundg (zs.length - (k + 1))
          case measure => omega
          case rel => exact ⟨k + 1, by omega, by omega, by go_num, idx_next hlt hpre (by rw [Hy.out]; exact Hq.out), below_step hbel hb2⟩
      · clear hc
        go_wp2_with fail
        go_ret
        exact ⟨ret_int (idx_miss (by omega) hpre), hbel⟩
theorem slices_ContainsFunc_Dyadic (g : Nat) (lb : Array Value) (p : Dy → Bool) (eg : ∀ args w, (callFunc g args).run Try.prog w = .ok (.enter g args) w) (v : Value) (zs : List Dy) (w : World) (h : RdE w v Dy.cs 5 zs) (hp : PredB g lb encDy p zs w) :
    Calls Try.prog 51 #[v, .func (.func g) #[] lb] w fun e w' => e = .returned (.bool (zs.any p)) ∧ Below w.heap.size w w' := by
  have Hh := Lib.hid h; have Hp := Lib.hid hp
  obtain ⟨A, c, rfl, _⟩ := h.form
  clear h hp
  go_enter Try.func51, Try.ntmps51
  go_wp2_with fail
  refine (slices_IndexFunc_Dyadic g lb p eg _ zs _ Hh.out Hp.out).mono ?_; rintro e w1 ⟨rfl, hb1⟩
  go_wp2_with fail
  go_ret
  exact ⟨ret_bool (by rw [Bool.eq_iff_iff, ← idxI_ge]; simp), hb1⟩
end Go.Proofs.Yteimcfbliigjmaa
