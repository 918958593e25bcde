/- The program's closure that places a rotation at a qubit. -/
import Derived.Test.YtbcjligkjoimmaaZ23M
import Derived.Test.YtbcjligkjoimmaaZ25DelT
import Derived.Test.YtbcjligkjoimmaaZ26IdxTerm
import Derived.Test.YtbcjligkjoimmaaZ27Rot2
import Derived.Test.YtbcjligkjoimmaaZ28Par2
import Derived.Test.YtbcjligkjoimmaaZ29Brk
import Derived.BigRegion
namespace Go.Proofs.Ytbcjligkjoimmaa
set_option linter.unusedSimpArgs false
set_option linter.unusedVariables false
set_option linter.unnecessarySimpa false
set_option maxRecDepth 200000
open Go.ChangeShapes Go.WideShapes Go.ChangeAt Go.RowKit

/-- The program's state: terms left behind box bL, rows behind box bR, gates behind box bO. -/
structure PSt (B bL bR bO n gR capR : Nat) (W0 w : World) (vL vO : Value) (R : List Nat) (L : List E2) (O : List E3) : Prop where
  cR : w.cell? ⟨bR, 0, none⟩ = some (.slice (some ⟨gR, 0, none⟩) n capR)
  cL : w.cell? ⟨bL, 0, none⟩ = some vL
  fL : w.frozen? ⟨bL, 0, none⟩ = false
  cO : w.cell? ⟨bO, 0, none⟩ = some vO
  fO : w.frozen? ⟨bO, 0, none⟩ = false
  rows : OwnN w B gR n capR R
  left : w.ownsRow B 48 2 vL L.length (L.flatMap E2.cs)
  out : w.ownsRow B 58 3 vO O.length (O.flatMap E3.cs)
  apL : ∀ g, vL.ownBlock = some g → g ≠ gR ∧ g ≠ bL ∧ g ≠ bR ∧ g ≠ bO
  apO : ∀ g, vO.ownBlock = some g → g ≠ gR ∧ g ≠ bL ∧ g ≠ bR ∧ g ≠ bO
  apLO : ∀ g, vL.ownBlock = some g → vO.ownBlock ≠ some g
  nR : gR ≠ bL ∧ gR ≠ bR ∧ gR ≠ bO
  nn : bL ≠ bR ∧ bL ≠ bO ∧ bR ≠ bO
  BL : B ≤ bL
  BO : B ≤ bO
  bel : Below B W0 w
section
variable {B bL bR bO n gR capR : Nat} {W0 w w' : World} {vL vO v' : Value} {R : List Nat} {L : List E2} {O : List E3}
theorem PSt.lt (h : PSt B bL bR bO n gR capR W0 w vL vO R L O) : bL < w.heap.size ∧ bR < w.heap.size ∧ bO < w.heap.size ∧ gR < w.heap.size ∧ B ≤ w.heap.size := by
  have h1 := World.block_lt_of_cell? _ _ h.cL
  have h2 := World.block_lt_of_cell? _ _ h.cR
  have h3 := World.block_lt_of_cell? _ _ h.cO
  have h4 := h.rows.lt
  have h5 := h.BL
  dsimp only at h1 h2 h3
  exact ⟨h1, h2, h3, h4.2, by omega⟩
theorem PSt.call (h : PSt B bL bR bO n gR capR W0 w vL vO R L O) (hb : Below w.heap.size w w') : PSt B bL bR bO n gR capR W0 w' vL vO R L O :=
  have hl := h.lt
  ⟨below_cell hb rfl h.cR, below_cell hb rfl h.cL, below_frz hb rfl hl.1 h.fL, below_cell hb rfl h.cO, below_frz hb rfl hl.2.2.1 h.fO, h.rows.below hb rfl, own_below h.left hb rfl, own_below h.out hb rfl, h.apL, h.apO, h.apLO, h.nR, h.nn, h.BL, h.BO, Below.trans h.bel (hb.mono hl.2.2.2.2)⟩
theorem PSt.appO {m : Nat} {rot : List E3} (h : PSt B bL bR bO n gR capR W0 w vL vO R L O) (hm : rot.length = m) (hown : w'.ownsRow B 58 3 v' (O.length + m) (O.flatMap E3.cs ++ rot.flatMap E3.cs))
    (hg : w.grownBy w' vO.ownBlock) (hat : v'.ownBlock = vO.ownBlock ∨ v'.ownBlock = some w.heap.size) :
    w'.cell? ⟨bO, 0, none⟩ = some vO ∧ w'.frozen? ⟨bO, 0, none⟩ = false ∧ w'.cell? ⟨bL, 0, none⟩ = some vL ∧ PSt B bL bR bO n gR capR W0 (w'.setCell ⟨bO, 0, none⟩ v') vL v' R L (O ++ rot) := by
  have hl := h.lt
  have nL : vO.ownBlock ≠ some bL := fun e => (h.apO _ e).2.1 rfl
  have nR : vO.ownBlock ≠ some bR := fun e => (h.apO _ e).2.2.1 rfl
  have nO : vO.ownBlock ≠ some bO := fun e => (h.apO _ e).2.2.2 rfl
  have dO := cell_grown hg h.cO nO
  have fO := frz_grown hg hl.2.2.1 h.fO nO
  have dL := cell_grown hg h.cL nL
  have fL := frz_grown hg hl.1 h.fL nL
  have dR := cell_grown hg h.cR nR
  have hL := World.ownsRow.lt h.left
  have hv : ∀ g, v'.ownBlock = some g → (g ≠ gR ∧ g ≠ bL ∧ g ≠ bR ∧ g ≠ bO) ∧ vL.ownBlock ≠ some g := by
    intro g hg'
    rcases hat with e | e
    · rw [e] at hg'; exact ⟨h.apO g hg', fun e2 => h.apLO g e2 hg'⟩
    · rw [e] at hg'; injection hg' with hg'
      refine ⟨⟨by omega, by omega, by omega, by omega⟩, fun e2 => ?_⟩
      have := (hL g e2).2; omega
  refine ⟨dO, fO, dL, ⟨cell_set_far h.nn.2.2 dR, cell_set_far h.nn.2.1 dL, by rw [World.frozen?_setCell]; exact fL, World.cell?_setCell_same _ _ _ dO, by rw [World.frozen?_setCell]; exact fO, ?_, ?_, ?_, h.apL, fun g hg' => (hv g hg').1, fun g e1 e2 => (hv g e2).2 e1, h.nR, h.nn, h.BL, h.BO, ?_⟩⟩
  · exact own_set_ne (own_other hg h.rows (fun k h1 h2 => by injection h1 with h1; subst h1; exact (h.apO _ h2).1 rfl)) (fun k hk => by injection hk with hk; subst hk; exact h.nR.2.2) _
  · exact own_set_ne (own_other hg h.left (fun k h1 h2 => h.apLO k h1 h2)) (fun k hk => (h.apL k hk).2.2.2) _
  · rw [List.length_append, List.flatMap_append, hm]
    exact own_set_ne hown (fun k hk => (hv k hk).1.2.2.2) _
  · exact Below.setCell (h.bel.grown hg hl.2.2.2.2 (fun k hk => (World.ownsRow.lt h.out k hk).1)) h.BO _
theorem PSt.delL {L' : List E2} (h : PSt B bL bR bO n gR capR W0 w vL vO R L O) (hown : w'.ownsRow B 48 2 v' L'.length (L'.flatMap E2.cs)) (hg : w.grownBy w' vL.ownBlock) (hat : v'.ownBlock = vL.ownBlock) :
    w'.cell? ⟨bL, 0, none⟩ = some vL ∧ w'.frozen? ⟨bL, 0, none⟩ = false ∧ PSt B bL bR bO n gR capR W0 (w'.setCell ⟨bL, 0, none⟩ v') v' vO R L' O := by
  have hl := h.lt
  have nL : vL.ownBlock ≠ some bL := fun e => (h.apL _ e).2.1 rfl
  have nR : vL.ownBlock ≠ some bR := fun e => (h.apL _ e).2.2.1 rfl
  have nO : vL.ownBlock ≠ some bO := fun e => (h.apL _ e).2.2.2 rfl
  have dO := cell_grown hg h.cO nO
  have fO := frz_grown hg hl.2.2.1 h.fO nO
  have dL := cell_grown hg h.cL nL
  have fL := frz_grown hg hl.1 h.fL nL
  have dR := cell_grown hg h.cR nR
  refine ⟨dL, fL, ⟨cell_set_far (Ne.symm h.nn.1) dR, World.cell?_setCell_same _ _ _ dL, by rw [World.frozen?_setCell]; exact fL, cell_set_far (Ne.symm h.nn.2.1) dO, by rw [World.frozen?_setCell]; exact fO, ?_, ?_, ?_, by rw [hat]; exact h.apL, h.apO, by rw [hat]; exact h.apLO, h.nR, h.nn, h.BL, h.BO, ?_⟩⟩
  · exact own_set_ne (own_other hg h.rows (fun k h1 h2 => by injection h1 with h1; subst h1; exact (h.apL _ h2).1 rfl)) (fun k hk => by injection hk with hk; subst hk; exact h.nR.1) _
  · exact own_set_ne hown (fun k hk => by rw [hat] at hk; exact (h.apL k hk).2.1) _
  · exact own_set_ne (own_other hg h.out (fun k h1 h2 => h.apLO k h2 h1)) (fun k hk => (h.apO k hk).2.1) _
  · exact Below.setCell (h.bel.grown hg hl.2.2.2.2 (fun k hk => (World.ownsRow.lt h.left k hk).1)) h.BL _
end
theorem placed11_any (bR qb gR capR n q x : Nat) (R : List Nat) (L : List E2) (w : World) (B : Nat) (hR : OwnN w B gR n capR R) (hc : w.cell? ⟨bR, 0, none⟩ = some (.slice (some ⟨gR, 0, none⟩) n capR)) (hq : w.cell? ⟨qb, 0, none⟩ = some (.int .i64 (q : Int))) (hqn : q < n) (hx : R.getD q 0 = x) :
    PredB 74 #[.pointer (some ⟨bR, 0, none⟩), .pointer (some ⟨qb, 0, none⟩)] encTerm (fun t => decide (t.a = (x : Int))) L w := by
  intro W t _ hb
  have hl := hR.len
  have c1 := own_int_cell hR q (by omega)
  rw [hx] at c1
  replace c1 := below_cell hb rfl c1
  replace hc := below_cell hb rfl hc
  replace hq := below_cell hb rfl hq
  have j1 : (q : Int) < (n : Int) := by omega
  have j0 : (0 : Int) ≤ (q : Int) := by omega
  clear hR hx hb hl
  show Calls Try.prog 74 #[.agg #[.int .i64 t.a, .int .i64 t.b], .pointer (some ⟨bR, 0, none⟩), .pointer (some ⟨qb, 0, none⟩)] W _
  have bb : Below W.heap.size W (W.alloc (.cells #[.int .i64 t.a, .int .i64 t.b] 48)) := (by repeat (first | exact Below.refl _ _ | assumption | refine Below.drew ?_ | refine below_drewN ?_ _ | refine Below.alloc ?_ (by first | omega | (simp <;> omega)) _ | refine Below.setCell ?_ (by first | omega | (simp <;> omega)) _ | refine Below.trans ?_ (Below.mono (by assumption) (by first | omega | (simp <;> omega)))))
  have d1 := below_cell bb rfl c1
  have d2 := below_cell bb rfl hc
  have d3 := below_cell bb rfl hq
  clear c1 hc hq
  go_enter Try.func74, Try.ntmps74
  go_wp2_with fail
  go_quiet (fail)
  go_wp2_with fail
  go_ret
  exact ⟨ret_bool (by rw [Bool.eq_iff_iff]; simp), (by repeat (first | exact Below.refl _ _ | assumption | refine Below.drew ?_ | refine below_drewN ?_ _ | refine Below.alloc ?_ (by first | omega | (simp <;> omega)) _ | refine Below.setCell ?_ (by first | omega | (simp <;> omega)) _ | refine Below.trans ?_ (Below.mono (by assumption) (by first | omega | (simp <;> omega)))))⟩
set_option maxHeartbeats 8000000 in
theorem placed1_any {B bL bR bO n gR capR : Nat} {W0 : World} {vL vO : Value} {R : List Nat} {L : List E2} {O : List E3} (q : Nat) (w : World) (h : PSt B bL bR bO n gR capR W0 w vL vO R L O) (hq : q < n) (hL : L.length ≤ 31) (hO : O.length ≤ 100000) (ht : ∀ t ∈ L, 0 ≤ t.b ∧ t.b ≤ 7) :
    Calls Try.prog 72 #[.int .i64 (q : Int), .pointer (some ⟨bL, 0, none⟩), .pointer (some ⟨bR, 0, none⟩), .pointer (some ⟨bO, 0, none⟩)] w fun e w' => e = .returned (.tuple #[]) ∧ ∃ vL' vO', PSt B bL bR bO n gR capR W0 w' vL' vO' R (imP R (L, O) q).1 (imP R (L, O) q).2 := by
  obtain ⟨i0, hi, hz0, hz1, hz2⟩ := info_parts info_gate
  have hmf : ∀ (fn : Fn) (first cap : Array Value) (w : World), (Instr.makeFunc fn first cap).run Try.prog w = .ok (.func fn first cap) w := fun _ _ _ _ => rfl
  have Eg := Lib.hid (enters_of Try.func74 (by kernel_rfl) rfl)
  obtain ⟨x, hx⟩ : ∃ x, R.getD q 0 = x := ⟨_, rfl⟩
  have H0 := Lib.hid (h.call (show Below w.heap.size w (w.alloc (.cells #[.int .i64 (q : Int)] 3)) from (by repeat (first | exact Below.refl _ _ | assumption | refine Below.drew ?_ | refine below_drewN ?_ _ | refine Below.alloc ?_ (by first | omega | (simp <;> omega)) _ | refine Below.setCell ?_ (by first | omega | (simp <;> omega)) _ | refine Below.trans ?_ (Below.mono (by assumption) (by first | omega | (simp <;> omega)))))))
  have q0 : (w.alloc (.cells #[.int .i64 (q : Int)] 3)).cell? ⟨w.heap.size, 0, none⟩ = some (.int .i64 (q : Int)) := (by repeat (first | (refine Eq.trans (World.cell?_alloc_at _ _ _ _ ?hh) ?_; (case hh => (simp; done)); rfl) | refine cell_alloc_keep _ ?_))
  have c1 := H0.out.cL
  have hP := Lib.hid (placed11_any bR w.heap.size gR capR n q x R L _ B H0.out.rows H0.out.cR q0 hq hx)
  have hRd := Lib.hid (show RdE _ vL E2.cs 2 L from Rd.of_own H0.out.left)
  have hvq : Hid (∀ g, vO.ownBlock = some g → g < w.heap.size) := fun g hg => (World.ownsRow.lt h.out g hg).2
  clear h
  rcases idxI_cases (fun t : E2 => decide (t.a = (x : Int))) L with ⟨hi1, hno⟩ | ⟨j, hi1, hj, hyes, hpre⟩
  · have HI := Lib.hid (show imP R (L, O) q = (L, O) from by unfold imP; rw [hx, find_none hno])
    have HI1 := Lib.hid hi1
    clear hno hi1
    go_enter Try.func72, Try.ntmps72
    go_wp2_with fail
    refine (slices_IndexFunc_Term _ _ _ Eg.out _ L _ hRd.out hP.out).mono ?_; rintro e w1 ⟨rfl, hb1⟩; rw [HI1.out]
    have H1 := Lib.hid (H0.out.call hb1)
    clear hb1 q0 c1
    go_wp2_with fail
    go_end0
    exact ⟨rfl, vL, vO, by rw [HI.out]; exact H1.out⟩
  · obtain ⟨c, hc⟩ : ∃ c, L[j].b = c := ⟨_, rfl⟩
    have HI := Lib.hid (show imP R (L, O) q = (L.eraseIdx j, O ++ rotF (q : Int) c) from by
      unfold imP
      rw [hx, show (L, O).1.findIdx? (fun t => decide (t.a = (x : Int))) = some j from by rw [List.findIdx?_eq_some_iff_getElem]; exact ⟨hj, hyes, fun t htj => by have := hpre t (by omega) htj; simpa using this⟩]
      simp [List.getD, hj, hc])
    have HI1 := Lib.hid hi1
    have hcr := ht L[j] (List.getElem_mem hj)
    rw [hc] at hcr
    obtain ⟨gL, capL, rfl⟩ := Go.Joins.ownsRow_form H0.out.left (by omega)
    have cc : (w.alloc (.cells #[.int .i64 (q : Int)] 3)).cell? ⟨gL, j * 2 + 1, none⟩ = some (.int .i64 c) := by
      refine own_cellAt H0.out.left ?_
      rw [flat_get E2.len L j 1 hj (by omega)]
      simp [E2.cs, hc]
    have hgL := Lib.hid (H0.out.apL gL rfl)
    have hj1 : (j : Int) < (L.length : Int) := by omega
    have hj0 : (0 : Int) ≤ (j : Int) := by omega
    clear hpre hyes hi1 hx hc
    go_enter Try.func72, Try.ntmps72
    go_wp2_with fail
    refine (slices_IndexFunc_Term _ _ _ Eg.out _ L _ hRd.out hP.out).mono ?_; rintro e w1 ⟨rfl, hb1⟩; rw [HI1.out]
    have H1 := Lib.hid (H0.out.call hb1)
    replace q0 := below_cell hb1 rfl q0
    replace cc := below_cell hb1 rfl cc
    clear hb1 c1 H0 hRd hP
    go_wp2_with fail
    have HD := Lib.hid (H1.out.call (show Below w1.heap.size w1 w1.drew from (by repeat (first | exact Below.refl _ _ | assumption | refine Below.drew ?_ | refine below_drewN ?_ _ | refine Below.alloc ?_ (by first | omega | (simp <;> omega)) _ | refine Below.setCell ?_ (by first | omega | (simp <;> omega)) _ | refine Below.trans ?_ (Below.mono (by assumption) (by first | omega | (simp <;> omega)))))))
    have k0 := HD.out.cO
    have k1 := HD.out.cL
    have fO := HD.out.fO
    replace q0 := cell_drew q0
    replace cc := cell_drew cc
    obtain ⟨aO, cO, rfl⟩ := own_form HD.out.out
    clear H1
    refine AnyB.begin (S := (fun w' => w'.cell? ⟨bO, 0, none⟩ = some (.slice aO O.length cO) ∧ w'.cell? ⟨w.heap.size, 0, none⟩ = some (.int .i64 (q : Int)) ∧ w'.cell? ⟨bL, 0, none⟩ = some (.slice (some ⟨gL, 0, none⟩) L.length capL) ∧ w'.cell? ⟨gL, j * 2 + 1, none⟩ = some (.int .i64 c))) [9] (by kernel_rfl) ?_ (fun hHeld0 => ?_)
    · ((try dsimp only); (first | exact ⟨k0, q0, k1, cc⟩))
    refine AnyB.take (i := 0) (oi := _) (v := ?_) (by simp only [List.getElem?_toArray, List.getElem?_cons_zero, List.getElem?_cons_succ]; rfl) (by kernel_rfl) (by kernel_rfl) (by kernel_rfl) (by kernel_rfl) (by kernel_rfl) (by intro _ _ _ h; exact h) (Or.inl ⟨by rfl, ?_⟩) (by assumption) ?_
    rotate_left
    · (intro w hSw; (try dsimp only at hSw); go_simp; (try (with_reducible rfl)))
    try simp only [Act.put, List.setIfInBounds_toArray, List.set_cons_zero, List.set_cons_succ]
    refine AnyB.take (i := 1) (oi := _) (v := ?_) (by simp only [List.getElem?_toArray, List.getElem?_cons_zero, List.getElem?_cons_succ]; rfl) (by kernel_rfl) (by kernel_rfl) (by kernel_rfl) (by kernel_rfl) (by kernel_rfl) (by intro _ _ _ h; exact h) (Or.inl ⟨by rfl, ?_⟩) (by assumption) ?_
    rotate_left
    · (intro w hSw; (try dsimp only at hSw); go_simp; (try (with_reducible rfl)))
    try simp only [Act.put, List.setIfInBounds_toArray, List.set_cons_zero, List.set_cons_succ]
    refine AnyB.take (i := 2) (oi := _) (v := ?_) (by simp only [List.getElem?_toArray, List.getElem?_cons_zero, List.getElem?_cons_succ]; rfl) (by kernel_rfl) (by kernel_rfl) (by kernel_rfl) (by kernel_rfl) (by kernel_rfl) (by intro _ _ _ h; exact h) (Or.inl ⟨by rfl, ?_⟩) (by assumption) ?_
    rotate_left
    · (intro w hSw; (try dsimp only at hSw); go_simp; (try (with_reducible rfl)))
    try simp only [Act.put, List.setIfInBounds_toArray, List.set_cons_zero, List.set_cons_succ]
    refine AnyB.takeQ (i := 3) (oi := _) (v := ?_) (by simp only [List.getElem?_toArray, List.getElem?_cons_zero, List.getElem?_cons_succ]; rfl) (by kernel_rfl) (by kernel_rfl) (by kernel_rfl) (by intro _ _ _ h; exact h) (Or.inl ⟨by rfl, ?_⟩) ?_
    rotate_left
    · (intro w hSw; (try dsimp only at hSw); go_simp; (try (with_reducible rfl)))
    try simp only [Act.put, List.setIfInBounds_toArray, List.set_cons_zero, List.set_cons_succ]
    refine AnyB.takeQ (i := 4) (oi := _) (v := ?_) (by simp only [List.getElem?_toArray, List.getElem?_cons_zero, List.getElem?_cons_succ]; rfl) (by kernel_rfl) (by kernel_rfl) (by kernel_rfl) (by intro _ _ _ h; exact h) (Or.inl ⟨by rfl, ?_⟩) ?_
    rotate_left
    · (intro w hSw; (try dsimp only at hSw); go_simp; (try (with_reducible rfl)))
    try simp only [Act.put, List.setIfInBounds_toArray, List.set_cons_zero, List.set_cons_succ]
    refine AnyB.takeQ (i := 5) (oi := _) (v := ?_) (by simp only [List.getElem?_toArray, List.getElem?_cons_zero, List.getElem?_cons_succ]; rfl) (by kernel_rfl) (by kernel_rfl) (by kernel_rfl) (by intro _ _ _ h; exact h) (Or.inl ⟨by rfl, ?_⟩) ?_
    rotate_left
    · (intro w hSw; (try dsimp only at hSw); go_simp; (try (with_reducible rfl)))
    try simp only [Act.put, List.setIfInBounds_toArray, List.set_cons_zero, List.set_cons_succ]
    refine AnyB.take (i := 6) (oi := _) (v := ?_) (by simp only [List.getElem?_toArray, List.getElem?_cons_zero, List.getElem?_cons_succ]; rfl) (by kernel_rfl) (by kernel_rfl) (by kernel_rfl) (by kernel_rfl) (by kernel_rfl) (by intro _ _ _ h; exact h) (Or.inl ⟨by rfl, ?_⟩) (by assumption) ?_
    rotate_left
    · (intro w hSw; (try dsimp only at hSw); go_simp; (try (with_reducible rfl)))
    try simp only [Act.put, List.setIfInBounds_toArray, List.set_cons_zero, List.set_cons_succ]
    refine AnyB.each (rs := [7]) (by kernel_rfl) (by simp) ?_
    refine EachB.cons rfl (fun K hK hB => ?_) ?_
    · skip
      (go_simp; go_at_call 75; refine (impl_rotation_any (q : Int) c _ hcr.1 hcr.2).mono ?_; rintro e w3 ⟨v3, rfl, ho3, hb3⟩; obtain ⟨a3, c3, rfl⟩ := ho3.forms; have RR := Lib.hid (Reads.of_rd ho3.rd); have H3 := Lib.hid (HD.out.call hb3); replace q0 := below_cell hb3 rfl q0; replace cc := below_cell hb3 rfl cc; clear hb3 ho3 HD k0 k1 fO; have k0 := H3.out.cO; have k1 := H3.out.cL; dsimp only)
      refine hK.out _ _ ?_ (fun hHeld1 => ?_)
      · ((try dsimp only); (first | exact ⟨k0, q0, k1, cc⟩))
      clear hB hK K hHeld0
      refine AnyB.each (rs := [8]) (by kernel_rfl) (by simp) ?_
      refine EachB.cons rfl (fun K hK hB => ?_) ?_
      · skip
        (refine step_append_any _ (by rfl) (.tmp 11) (.tmp 18) 29 (by rfl) B 58 i0 (.agg #[.int .i64 0, .int .i64 0, .int .i64 0]) 3 24 Try.underlying29 hi hz0 hz1 hz2 rfl (by omega) _ O.length _ (by rfl) H3.out.out w3.heap.size a3 (rotF (q : Int) c).length c3 _ (by rfl) RR.out (flat_one E3.one _) (by have := rotF_len (q : Int) c; unfold maxLen; omega) (by have := rotF_len (q : Int) c; omega) H3.out.lt.2.2.2.2 ?_; intro v4 w4 hown4 hg4 hat4; obtain ⟨a4, c4, rfl⟩ := own_form hown4; obtain ⟨d4, e4, l4, hST⟩ := PSt.appO H3.out rfl hown4 hg4 hat4; have H4 := Lib.hid hST; replace q0 := cell_grown hg4 q0 (fun e => by have h9 := hvq.out _ e; omega); replace cc := cell_grown hg4 cc (fun e => H3.out.apLO _ rfl e); clear hown4 hg4 hat4 hST H3 RR k0 k1; have k0 := d4; have k1 := l4)
        refine hK.out _ _ ?_ (fun hHeld2 => ?_)
        · ((try dsimp only); (first | exact ⟨k0, q0, k1, cc⟩))
        clear hB hK K hHeld1
        refine AnyB.each (rs := [9]) (by kernel_rfl) (by simp) ?_
        refine EachB.cons rfl (fun K hK hB => ?_) ?_
        · skip
          go_simp
          refine hB.out _ _ rfl ?_
          clear hB hK K
          refine AnyB.none (by kernel_rfl) ?_ _
          have k5 := H4.out.cL
          have f5 := H4.out.fL
          clear q0 cc k0 k1 d4 e4 l4
          go_wp2_with (go_at_call 76; refine (slices_Delete_Term gL L.length capL j B L _ H4.out.left hj (by omega)).mono ?_; rintro e w5 ⟨rfl, hown5, hg5⟩; obtain ⟨d5, e5, hS5⟩ := PSt.delL (L' := L.eraseIdx j) (v' := .slice (some ⟨gL, 0, none⟩) (L.length - 1) capL) H4.out (by rw [List.length_eraseIdx, if_pos hj]; exact hown5) hg5 rfl; have H5 := Lib.hid hS5; clear hown5 hg5 hS5 k5 f5)
          go_end0
          exact ⟨rfl, _, _, by rw [HI.out]; exact H5.out⟩
        exact EachB.nil
      exact EachB.nil
    exact EachB.nil
end Go.Proofs.Ytbcjligkjoimmaa
