/- Two rows that one call grows, side by side: what an append to the one leaves of the other. -/
import Derived.Test.YtjdffjnennodaaaZ06Dat
namespace Go.Proofs.Ytjdffjnennodaaa
set_option linter.unusedSimpArgs false
set_option linter.unusedVariables false
set_option linter.unnecessarySimpa false
set_option maxRecDepth 200000
open Go.ChangeShapes Go.WideShapes Go.ChangeAt Go.RowKit

theorem apart_new {u v v' : Value} {H : Nat} (h : Apart u v) (hu : ∀ g, u.ownBlock = some g → g < H) (hv : v'.ownBlock = v.ownBlock ∨ v'.ownBlock = some H) : Apart u v' := by
  intro g h1 h2
  rcases hv with e | e
  · rw [e] at h2; exact h g h1 h2
  · rw [e] at h2; injection h2 with h2; have := hu g h1; omega
theorem apart_app {u v : Value} {g H n c : Nat} (h : Apart u v) (hu : ∀ g, u.ownBlock = some g → g < H) (hat : v.ownBlock = some g ∨ g = H) : Apart u (.slice (some ⟨g, 0, none⟩) n c) :=
  apart_new h hu (by rcases hat with e | e
                     · left; rw [e]; rfl
                     · right; rw [e]; rfl)
theorem Apart.symm {u v : Value} (h : Apart u v) : Apart v u := fun g h1 h2 => h g h2 h1
theorem apart_nil (v : Value) : Apart (.slice none 0 0) v := fun g h => by cases h
theorem cell_grown {w w' : World} {v u : Value} {b o : Nat} (hg : w.grownBy w' v.ownBlock) (hc : w.cell? ⟨b, o, none⟩ = some u) (hne : v.ownBlock ≠ some b) : w'.cell? ⟨b, o, none⟩ = some u := by
  rw [World.cell?_of_block (w := w) (w' := w') (a := ⟨b, o, none⟩) (hg.block b (World.block_lt_of_cell? w _ hc) (Ne.symm hne))]; exact hc
theorem frz_grown {w w' : World} {v : Value} {b o : Nat} (hg : w.grownBy w' v.ownBlock) (hl : b < w.heap.size) (hc : w.frozen? ⟨b, o, none⟩ = false) (hne : v.ownBlock ≠ some b) : w'.frozen? ⟨b, o, none⟩ = false := by
  rw [World.frozen?_of_block (w := w) (w' := w') (a := ⟨b, o, none⟩) (hg.block b hl (Ne.symm hne))]; exact hc
theorem cell_set_other {w : World} {b o o2 : Nat} {u v : Value} (h : w.cell? ⟨b, o, none⟩ = some u) (hne : o2 ≠ o := by decide) : (w.setCell ⟨b, o2, none⟩ v).cell? ⟨b, o, none⟩ = some u :=
  (World.cell?_setCell_other _ _ _ _ (fun e => hne (by injection e))).trans h
theorem add_flat (b j : Nat) : ((⟨b, 0, none⟩ : Addr).add j) = ⟨b, j, none⟩ := by unfold Addr.add; split <;> simp_all
theorem news_at (w : World) (us : List Value) (t : TypeId) (B : Nat) (hB : w.heap.size = B) : ∀ (j : Nat) (u : Value), us[j]? = some u → (w.alloc (.cells us.toArray t)).cell? ((⟨B, 0, none⟩ : Addr).add j) = some u := by subst hB; exact news_cells w us t
theorem news_up {w : World} {us : List Value} {b : Nat} (X : Obj) (h : ∀ j u, us[j]? = some u → w.cell? ((⟨b, 0, none⟩ : Addr).add j) = some u) : ∀ j u, us[j]? = some u → (w.alloc X).cell? ((⟨b, 0, none⟩ : Addr).add j) = some u := by
  intro j u hj; have := h j u hj; rw [add_flat] at this ⊢; exact cell_alloc_keep X this
theorem news_drew {w : World} {us : List Value} {a : Addr} (h : ∀ (j : Nat) u, us[j]? = some u → w.cell? (a.add j) = some u) : ∀ (j : Nat) u, us[j]? = some u → w.drew.cell? (a.add j) = some u := h
theorem news_far {w w' : World} {us : List Value} {L b : Nat} (hn : ∀ b j u, L ≤ b → w.cell? ⟨b, j, none⟩ = some u → w'.cell? ⟨b, j, none⟩ = some u) (hb : L ≤ b) (h : ∀ j u, us[j]? = some u → w.cell? ((⟨b, 0, none⟩ : Addr).add j) = some u) : ∀ j u, us[j]? = some u → w'.cell? ((⟨b, 0, none⟩ : Addr).add j) = some u := by
  intro j u hj; have := h j u hj; rw [add_flat] at this ⊢; exact hn b j u hb this
/-- The world N, then blocks of one's own up to X, then an append to the row vx: what stays. -/
theorem two_step {W0 N X w1 : World} {B sz nx nz : Nat} {e e2 : TypeId} {sz2 : Nat} {vx vz : Value} {xs zs : List Value} (hb : Below N.heap.size N X) (hox : N.ownsRow (B + 1) e sz vx nx xs) (hoz : N.ownsRow (B + 1) e2 sz2 vz nz zs) (hap : Apart vx vz) (hbel : Below B W0 N) (hB : B < N.heap.size) (hgr : X.grownBy w1 vx.ownBlock) :
    w1.ownsRow (B + 1) e2 sz2 vz nz zs ∧ Below B W0 w1 ∧ N.heap.size ≤ X.heap.size ∧ X.heap.size ≤ w1.heap.size ∧ (∀ o u, N.cell? ⟨B, o, none⟩ = some u → w1.cell? ⟨B, o, none⟩ = some u) ∧ (∀ o, N.frozen? ⟨B, o, none⟩ = false → w1.frozen? ⟨B, o, none⟩ = false) ∧ (∀ b j u, N.heap.size ≤ b → X.cell? ⟨b, j, none⟩ = some u → w1.cell? ⟨b, j, none⟩ = some u) := by
  have hs := hb.size
  have nb : vx.ownBlock ≠ some B := fun h => by have := (hox.lt _ h).1; omega
  refine ⟨own_other hgr (own_below hoz hb rfl) (fun g h1 h2 => hap g h2 h1), ?_, hs, hgr.size, ?_, ?_, ?_⟩
  · exact (hbel.trans (hb.mono (by omega))).grown hgr (by omega) (fun k hk => Nat.le_trans (Nat.le_succ B) (hox.lt k hk).1)
  · intro o u h; exact cell_grown hgr (below_cell hb rfl h) nb
  · intro o h; exact frz_grown hgr (by omega) (below_frz hb rfl hB h) nb
  · intro b j u hb2 h; exact cell_grown hgr h (fun h2 => by have := (hox.lt _ h2).2; omega)
end Go.Proofs.Ytjdffjnennodaaa
