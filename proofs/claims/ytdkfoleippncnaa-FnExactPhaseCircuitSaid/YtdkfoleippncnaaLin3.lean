/- A row added to another row: the reference's l12CX and the program's method added. -/
import Derived.Test.YtdkfoleippncnaaLin2
import Derived.BigRegion
namespace Go.Proofs.Ytdkfoleippncnaa
set_option linter.unusedSimpArgs false
set_option linter.unusedVariables false
set_option linter.unnecessarySimpa false
set_option maxRecDepth 200000
open Go.ChangeShapes Go.WideShapes Go.ChangeAt Go.RowKit

def cxN (L : List Nat) (a b : Nat) : List Nat := L.set b (L.getD b 0 ^^^ L.getD a 0)
theorem cxN_len (L : List Nat) (a b : Nat) : (cxN L a b).length = L.length := by simp [cxN]
def Small (L : List Nat) : Prop := ∀ x ∈ L, x ≤ 31
theorem Small.get {L : List Nat} (h : Small L) (i : Nat) : L.getD i 0 ≤ 31 := by
  by_cases hi : i < L.length
  · rw [getD_lt hi]; exact h _ (List.getElem_mem hi)
  · simp [List.getD, hi]
theorem xor_31 {x y : Nat} (hx : x ≤ 31) (hy : y ≤ 31) : x ^^^ y ≤ 31 := by
  have := Nat.xor_lt_two_pow (x := x) (y := y) (n := 5) (by omega) (by omega); omega
theorem Small.cx {L : List Nat} (h : Small L) (a b : Nat) : Small (cxN L a b) := by
  intro z hz
  rcases List.mem_or_eq_of_mem_set hz with h1 | rfl
  · exact h z h1
  · exact xor_31 (h.get _) (h.get _)
theorem OwnN.own {w : World} {base g n cap : Nat} {M : List Nat} (h : OwnN w base g n cap M) : OwnI w base (.slice (some ⟨g, 0, none⟩) n cap) (ints M) := by
  have hl := h.len; subst hl
  unfold OwnI; rw [ints_len]; exact h
set_option maxHeartbeats 1000000 in
theorem spec_l12CX_any (v : Value) (L : List Nat) (a b : Nat) (w : World) (h : RdI w v (ints L)) (hs : Small L) (ha : a < L.length) (hb : b < L.length) (hn : L.length ≤ 1048576) :
    Calls Try.prog 100 #[.agg #[v], .int .i64 (a : Int), .int .i64 (b : Int)] w fun e w' => ∃ v', e = .returned (.agg #[v']) ∧ OwnI w' w.heap.size v' (ints (cxN L a b)) ∧ Below w.heap.size w w' := by
  have H := Lib.hid h
  obtain ⟨A, c, rfl, _⟩ := h.form
  clear h
  have hxa := hs.get a
  have hxb := hs.get b
  have HS := Lib.hid hs; clear hs
  go_enter Try.func100, Try.ntmps100
  go_wp2_with fail
  refine (spec_l1Own_any _ (ints L) _ (Rd.below H.out (show Below w.heap.size w _ from (by repeat (first | exact Below.refl _ _ | assumption | refine Below.drew ?_ | refine below_drewN ?_ _ | refine Below.alloc ?_ (by first | omega | (simp <;> omega)) _ | refine Below.setCell ?_ (by first | omega | (simp <;> omega)) _ | refine Below.trans ?_ (Below.mono (by assumption) (by first | omega | (simp <;> omega)))))) rfl) (by rw [ints_len]; exact hn)).mono ?_; rintro e w1 ⟨v1, rfl, ho, hb1⟩
  obtain ⟨g, cap, rfl, hg0, hg1⟩ := own_ints ho (by omega)
  have own1 := Lib.hid (OwnN.of ho); clear ho
  obtain ⟨hc_hb1, hf_hb1⟩ := bcell hb1; have hz_hb1 := hb1.size; (try simp at hz_hb1); have hs0_hb1 : w.heap.size < w1.heap.size := (by omega); have hs1_hb1 : w.heap.size + 1 < w1.heap.size := (by omega)
  have own2 := Lib.hid (own1.out.below (show Below w1.heap.size w1 (w1.alloc (.cells #[.slice (some ⟨g, 0, none⟩) L.length cap] 51)) from (by repeat (first | exact Below.refl _ _ | assumption | refine Below.drew ?_ | refine below_drewN ?_ _ | refine Below.alloc ?_ (by first | omega | (simp <;> omega)) _ | refine Below.setCell ?_ (by first | omega | (simp <;> omega)) _ | refine Below.trans ?_ (Below.mono (by assumption) (by first | omega | (simp <;> omega)))))) rfl)
  obtain ⟨x, hx⟩ : ∃ x, x = L.getD a 0 := ⟨_, rfl⟩
  obtain ⟨y, hy⟩ : ∃ y, y = L.getD b 0 := ⟨_, rfl⟩
  have ca := own_int_cell own2.out a ha
  have cb := own_int_cell own2.out b hb
  have fb := own2.out.frz b
  rw [← hx] at ca hxa; rw [← hy] at cb hxb
  have hxo := bits_xor y x (by omega) (by omega)
  have hr : Hid (cxN L a b = L.set b (y ^^^ x)) := by show _ = _; rw [hx, hy]; rfl
  have HL := Lib.hid own2.out.len
  have i1 : (a : Int) < (L.length : Int) := by omega
  have i2 : (b : Int) < (L.length : Int) := by omega
  have i3 : (0 : Int) ≤ (a : Int) := by omega
  have i4 : (0 : Int) ≤ (b : Int) := by omega
  have hgs : g < w1.heap.size := hg1
  have hgn : w.heap.size + 2 ≤ g := by simpa using hg0
  clear hx hy own1 ha hb
  go_wp2_with fail
  have c7 : (w1.alloc (.cells #[.slice (some ⟨g, 0, none⟩) L.length cap] 51)).cell? ⟨w1.heap.size, 0, none⟩ = some (.slice (some ⟨g, 0, none⟩) L.length cap) := (by repeat (first | (refine Eq.trans (World.cell?_alloc_at _ _ _ _ ?hh) ?_; (case hh => (simp; done)); rfl) | refine cell_alloc_keep _ ?_))
  have r0 : (w1.alloc (.cells #[.slice (some ⟨g, 0, none⟩) L.length cap] 51)).cell? ⟨w.heap.size + 1, 0, none⟩ = some (.slice none 0 0) := cell_alloc_keep _ (below_cell hb1 rfl (by repeat (first | (refine Eq.trans (World.cell?_alloc_at _ _ _ _ ?hh) ?_; (case hh => (simp; done)); rfl) | refine cell_alloc_keep _ ?_)))
  have rf : (w1.alloc (.cells #[.slice (some ⟨g, 0, none⟩) L.length cap] 51)).frozen? ⟨w.heap.size + 1, 0, none⟩ = false := frozen_alloc_keep _ (below_cell hb1 rfl (by repeat (first | (refine Eq.trans (World.cell?_alloc_at _ _ _ _ ?hh) ?_; (case hh => (simp; done)); rfl) | refine cell_alloc_keep _ ?_))) (below_frz hb1 rfl (by simp) (by repeat (first | (refine World.frozen?_alloc_at _ _ _ _ ?hh; case hh => (simp; done)) | (refine frozen_alloc_lt _ ?hh ?_; case hh => first | omega | (simp <;> omega)))))
  have hne1 : g ≠ w1.heap.size := by omega
  have hne2 : g ≠ w.heap.size + 1 := by omega
  have hne3 : w1.heap.size ≠ w.heap.size + 1 := by omega
  have bW : Below w.heap.size w (w1.alloc (.cells #[.slice (some ⟨g, 0, none⟩) L.length cap] 51)) := (by repeat (first | exact Below.refl _ _ | assumption | refine Below.drew ?_ | refine below_drewN ?_ _ | refine Below.alloc ?_ (by first | omega | (simp <;> omega)) _ | refine Below.setCell ?_ (by first | omega | (simp <;> omega)) _ | refine Below.trans ?_ (Below.mono (by assumption) (by first | omega | (simp <;> omega)))))
  clear hc_hb1 hf_hb1 hb1
  generalize hW : w1.alloc (.cells #[.slice (some ⟨g, 0, none⟩) L.length cap] 51) = W at *
  have HW := Lib.hid hW; clear hW
  go_region
  go_wp2_with fail
  refine bodyPost_ret (v := .agg #[.slice (some ⟨g, 0, none⟩) L.length cap]) (by simp [results, Try.results100, go_sem, r0]) rfl ⟨_, rfl, ?_, ?_⟩
  · have o3 := (own2.out.below (show Below W.heap.size W W.drew from (by repeat (first | exact Below.refl _ _ | assumption | refine Below.drew ?_ | refine below_drewN ?_ _ | refine Below.alloc ?_ (by first | omega | (simp <;> omega)) _ | refine Below.setCell ?_ (by first | omega | (simp <;> omega)) _ | refine Below.trans ?_ (Below.mono (by assumption) (by first | omega | (simp <;> omega)))))) rfl).set b (y ^^^ x)
    rw [← hr.out] at o3
    exact OwnI.le (OwnI.set o3.own (by simp) _) (by simp; omega)
  · have hW2 : w.heap.size ≤ W.heap.size := bW.size
    exact (by repeat (first | exact Below.refl _ _ | assumption | refine Below.drew ?_ | refine below_drewN ?_ _ | refine Below.alloc ?_ (by first | omega | (simp <;> omega)) _ | refine Below.setCell ?_ (by first | omega | (simp <;> omega)) _ | refine Below.trans ?_ (Below.mono (by assumption) (by first | omega | (simp <;> omega)))))
end Go.Proofs.Ytdkfoleippncnaa
