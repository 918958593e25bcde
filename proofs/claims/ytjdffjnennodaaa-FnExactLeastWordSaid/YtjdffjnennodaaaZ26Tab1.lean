/- The identity tableau in the program and in the reference. -/
import Derived.Test.YtjdffjnennodaaaZ25StTableau
import Derived.Test.YtjdffjnennodaaaZ15Words
import Derived.Test.YtjdffjnennodaaaZ05M
import Derived.Test.YtjdffjnennodaaaZ10Two2
import Derived.Deep.RegionLaw
namespace Go.Proofs.Ytjdffjnennodaaa
set_option linter.unusedSimpArgs false
set_option linter.unusedVariables false
set_option linter.unnecessarySimpa false
set_option maxRecDepth 200000
open Go.ChangeShapes Go.WideShapes Go.ChangeAt Go.RowKit

def idX (n : Nat) : List E3 := (List.range n).map fun q : Nat => ⟨0, (2 : Int) ^ q, 0⟩
def idZ (n : Nat) : List E3 := (List.range n).map fun q : Nat => ⟨0, 0, (2 : Int) ^ q⟩
theorem idX_len (n : Nat) : (idX n).length = n := by simp [idX]
theorem idZ_len (n : Nat) : (idZ n).length = n := by simp [idZ]
theorem idX_succ (n : Nat) : idX (n + 1) = idX n ++ [⟨0, (2 : Int) ^ n, 0⟩] := by simp [idX, List.range_succ]
theorem idZ_succ (n : Nat) : idZ (n + 1) = idZ n ++ [⟨0, 0, (2 : Int) ^ n⟩] := by simp [idZ, List.range_succ]
def idT (n : Int) : Tab := ⟨n, idX n.toNat, idZ n.toNat⟩
/-- What a call has just laid into a block of its own reads. -/
theorem news_reads (w : World) (us : List Value) (t : TypeId) (sz m : Nat) (h : us.length = m * sz) : Reads (w.alloc (.cells us.toArray t)) (w.heap.size + 1) sz (some ⟨w.heap.size, 0, none⟩) m us :=
  ⟨h, fun _ => ⟨_, rfl, by simp, news_cells w us t⟩⟩
set_option maxHeartbeats 1000000 in
theorem spec_l7Identity_any (n : Int) (w : World) (h0 : 0 ≤ n) (h1 : n ≤ 60) :
    Calls Try.prog 53 #[.int .i64 n] w fun e w' => ∃ u0 u1, e = .returned (.agg #[.int .i64 n, u0, u1]) ∧ OwnE w' w.heap.size 62 u0 E3.cs 3 (idX n.toNat) ∧ OwnE w' w.heap.size 62 u1 E3.cs 3 (idZ n.toNat) ∧ Apart u0 u1 ∧ Below w.heap.size w w' := by
  obtain ⟨m, rfl⟩ := Int.eq_ofNat_of_zero_le h0
  rw [Int.toNat_natCast]
  obtain ⟨i0, hi, hz0, hz1, hz2⟩ := info_parts info_Pauli
  go_enter Try.func53, Try.ntmps53
  go_wp2_with fail
  go_loopw [4] (fun i wr => ∃ (k : Nat) (vx vz : Value), k ≤ m ∧ i = .int .i64 k ∧ wr.cell? ⟨w.heap.size + 1, 0, none⟩ = some (.int .i64 m) ∧ wr.cell? ⟨w.heap.size + 1, 1, none⟩ = some vx ∧ wr.cell? ⟨w.heap.size + 1, 2, none⟩ = some vz ∧ wr.frozen? ⟨w.heap.size + 1, 1, none⟩ = false ∧ wr.frozen? ⟨w.heap.size + 1, 2, none⟩ = false ∧ Hid (wr.ownsRow (w.heap.size + 2) 62 3 vx k ((idX k).flatMap E3.cs)) ∧ Hid (wr.ownsRow (w.heap.size + 2) 62 3 vz k ((idZ k).flatMap E3.cs)) ∧ Hid (Apart vx vz) ∧ Below (w.heap.size + 1) (w.alloc (.cells #[.int .i64 0, .slice none 0 0, .slice none 0 0] 30)) wr ∧ w.heap.size + 2 ≤ wr.heap.size) (fun i _ => m - (intOf i).toNat)
  case atStart => exact ⟨0, .slice none 0 0, .slice none 0 0, Nat.zero_le _, rfl, by simp, by simp, by simp, by simp, by simp, World.ownsRow_nil _ _ _ _, World.ownsRow_nil _ _ _ _, apart_nil _, (by repeat (first | exact Below.refl _ _ | assumption | refine Below.drew ?_ | refine below_drewN ?_ _ | refine Below.alloc ?_ (by first | omega | (simp <;> omega)) _ | refine Below.setCell ?_ (by first | omega | (simp <;> omega)) _ | refine Below.trans ?_ (Below.mono (by assumption) (by first | omega | (simp <;> omega))))), by simp⟩
  case round =>
    obtain ⟨k, vx, vz, hk, rfl, c0, c1, c2, f1, f2, hox, hoz, hap, hbel, hsz⟩ := hrel
    by_cases hlt : k < m
    · have i1 : (k : Int) < (m : Int) := by omega
      obtain ⟨p1, p2⟩ := pow_small k (by omega)
      have lx : Hid (∀ g, vx.ownBlock = some g → w.heap.size + 2 ≤ g ∧ g < wr.heap.size) := fun g hg => hox.out.lt g hg
      have lz : Hid (∀ g, vz.ownBlock = some g → w.heap.size + 2 ≤ g ∧ g < wr.heap.size) := fun g hg => hoz.out.lt g hg
      have nx : vx.ownBlock ≠ some (w.heap.size + 1) := fun h => by have := lx.out _ h; omega
      have nz : vz.ownBlock ≠ some (w.heap.size + 1) := fun h => by have := lz.out _ h; omega
      have Nx := Lib.hid nx; have Nz := Lib.hid nz; clear nx nz
      go_wp2_with (first
        | (at_builtin; refine wpList_append_any _ rfl (.tmp 13) (.tmp 18) 28 rfl (w.heap.size + 2) 62 i0 (.agg #[.int .i64 0, .int .i64 0, .int .i64 0]) 3 24 Try.underlying28 hi hz0 hz1 hz2 rfl (by decide) vx k _ rfl (hox.out.alloc _) (wr.heap.size + 1) (some ⟨wr.heap.size, 0, none⟩) 1 1 (E3.cs ⟨0, 2 ^ k, 0⟩) rfl (news_reads wr (E3.cs ⟨0, 2 ^ k, 0⟩) 62 3 1 rfl) (E3.one _) (by unfold maxLen; omega) (by omega) (by simp; omega) ?_; intro vx' w1 hox1 hg1 hat1; obtain ⟨g1, cp1, rfl⟩ := Go.Joins.ownsRow_form hox1 (by omega); have hsz1 := hg1.size; (simp at hsz1); have d0 := cell_grown hg1 (cell_alloc_keep _ c0) Nx.out; have d1 := cell_grown hg1 (cell_alloc_keep _ c1) Nx.out; have d2 := cell_grown hg1 (cell_alloc_keep _ c2) Nx.out; have e1 := frz_grown hg1 (by simp; omega) (frozen_alloc_keep _ c1 f1) Nx.out; have e2 := frz_grown hg1 (by simp; omega) (frozen_alloc_keep _ c2 f2) Nx.out; have hoz1 := Lib.hid (ownsRow_setCell_below (own_other hg1 (hoz.out.alloc _) (fun g a b => hap.out g b a)) (show (⟨w.heap.size + 1, 1, none⟩ : Addr).block < w.heap.size + 2 from by simp) (.slice (some ⟨g1, 0, none⟩) (k + 1) cp1)); have hap1 := Lib.hid (apart_new hap.out.symm (fun g hg => (show g < wr.heap.size + 1 from by have := lz.out g hg; omega)) (by simpa using hat1)))
        | (at_builtin; go_must (refine wpList_append_any _ rfl (.tmp 22) (.tmp 27) 28 rfl (w.heap.size + 2) 62 i0 (.agg #[.int .i64 0, .int .i64 0, .int .i64 0]) 3 24 Try.underlying28 hi hz0 hz1 hz2 rfl (by decide) vz k _ rfl (hoz1.out.alloc _) (w1.heap.size + 1) (some ⟨w1.heap.size, 0, none⟩) 1 1 (E3.cs ⟨0, 0, 2 ^ k⟩) rfl (by have := news_reads (w1.setCell ⟨w.heap.size + 1, 1, none⟩ (.slice (some ⟨g1, 0, none⟩) (k + 1) cp1)) (E3.cs ⟨0, 0, 2 ^ k⟩) 62 3 1 rfl; simpa [E3.cs] using this) (E3.one _) (by unfold maxLen; omega) (by omega) (by simp; omega) ?_; intro vz' w2 hoz2 hg2 hat2; obtain ⟨g2, cp2, rfl⟩ := Go.Joins.ownsRow_form hoz2 (by omega); have hsz2 := hg2.size; (simp at hsz2); have Nz2 : vz.ownBlock ≠ some (w.heap.size + 1) := Nz.out; have b0 := cell_grown hg2 (cell_alloc_keep _ (cell_set_other d0)) Nz2; have b1 := cell_grown hg2 (cell_alloc_keep _ (World.cell?_setCell_same _ _ _ d1)) Nz2; have b2 := cell_grown hg2 (cell_alloc_keep _ (cell_set_other d2)) Nz2; have a1 := frz_grown hg2 (by simp; omega) (frozen_alloc_lt (b := w.heap.size + 1) (o := 1) _ (by simp; omega) (by rw [World.frozen?_setCell]; exact e1)) Nz2; have a2 := frz_grown hg2 (by simp; omega) (frozen_alloc_lt (b := w.heap.size + 1) (o := 2) _ (by simp; omega) (by rw [World.frozen?_setCell]; exact e2)) Nz2; clear Nz2)))
      go_roundw
      case rel =>
        have hoxA := ownsRow_setCell_below hox1 (show (⟨w.heap.size + 1, 1, none⟩ : Addr).block < w.heap.size + 2 from by simp) (.slice (some ⟨g1, 0, none⟩) (k + 1) cp1)
        have hoxB := own_other hg2 (hoxA.alloc _) (fun g a b => hap1.out g b a)
        have lx1 := hox1.lt
        have hapF := apart_new hap1.out.symm (H := w1.heap.size + 1) (fun g hg => by have := (lx1 g hg).2; omega) (by simpa using hat2)
        have bA : Below (w.heap.size + 1) (w.alloc (.cells #[.int .i64 0, .slice none 0 0, .slice none 0 0] 30)) (w1.setCell ⟨w.heap.size + 1, 1, none⟩ (.slice (some ⟨g1, 0, none⟩) (k + 1) cp1)) := Below.setCell (grown_below (hbel.alloc (by omega) _) (hox.out.alloc _) hg1 (by omega) (by simp; omega)) (by simp) _
        have bB := grown_below (bA.alloc (by simp; omega) (.cells #[.int .i64 0, .int .i64 0, .int .i64 (2 ^ k)] 62)) (hoz1.out.alloc _) hg2 (by omega) (by simp; omega)
        refine ⟨k + 1, _, _, by omega, by go_num, cell_set_other b0, cell_set_other b1, World.cell?_setCell_same _ _ _ b2, by rw [World.frozen?_setCell]; exact a1, by rw [World.frozen?_setCell]; exact a2, ?_, ?_, hapF, Below.setCell bB (by simp) _, by simp; omega⟩
        · show World.ownsRow _ _ _ _ _ _ _
          rw [idX_succ, List.flatMap_append]
          exact ownsRow_setCell_below hoxB (by simp) _
        · show World.ownsRow _ _ _ _ _ _ _
          rw [idZ_succ, List.flatMap_append]
          exact ownsRow_setCell_below hoz2 (by simp) _
      case measure => simp [intOf]; omega
    · have e : k = m := by omega
      subst e
      have r0 : wr.cell? ⟨w.heap.size, 0, none⟩ = some (.int .i64 0) := by rw [hbel.cell (p := ⟨w.heap.size, 0, none⟩) (by simp)]; exact (by repeat (first | (refine Eq.trans (World.cell?_alloc_at _ _ _ _ ?hh) ?_; (case hh => (simp; done)); rfl) | refine cell_alloc_keep _ ?_))
      have r1 : wr.cell? ⟨w.heap.size, 1, none⟩ = some (.slice none 0 0) := by rw [hbel.cell (p := ⟨w.heap.size, 1, none⟩) (by simp)]; exact (by repeat (first | (refine Eq.trans (World.cell?_alloc_at _ _ _ _ ?hh) ?_; (case hh => (simp; done)); rfl) | refine cell_alloc_keep _ ?_))
      have r2 : wr.cell? ⟨w.heap.size, 2, none⟩ = some (.slice none 0 0) := by rw [hbel.cell (p := ⟨w.heap.size, 2, none⟩) (by simp)]; exact (by repeat (first | (refine Eq.trans (World.cell?_alloc_at _ _ _ _ ?hh) ?_; (case hh => (simp; done)); rfl) | refine cell_alloc_keep _ ?_))
      have q0 : wr.frozen? ⟨w.heap.size, 0, none⟩ = false := by rw [hbel.frozen (p := ⟨w.heap.size, 0, none⟩) (by simp)]; exact (by repeat (first | (refine World.frozen?_alloc_at _ _ _ _ ?hh; case hh => (simp; done)) | (refine frozen_alloc_lt _ ?hh ?_; case hh => first | omega | (simp <;> omega))))
      have q1 : wr.frozen? ⟨w.heap.size, 1, none⟩ = false := by rw [hbel.frozen (p := ⟨w.heap.size, 1, none⟩) (by simp)]; exact (by repeat (first | (refine World.frozen?_alloc_at _ _ _ _ ?hh; case hh => (simp; done)) | (refine frozen_alloc_lt _ ?hh ?_; case hh => first | omega | (simp <;> omega))))
      have q2 : wr.frozen? ⟨w.heap.size, 2, none⟩ = false := by rw [hbel.frozen (p := ⟨w.heap.size, 2, none⟩) (by simp)]; exact (by repeat (first | (refine World.frozen?_alloc_at _ _ _ _ ?hh; case hh => (simp; done)) | (refine frozen_alloc_lt _ ?hh ?_; case hh => first | omega | (simp <;> omega))))
      obtain ⟨a9, cp9, rfl⟩ := own_form hox.out
      obtain ⟨b9, cq9, rfl⟩ := own_form hoz.out
      have hZ := box_set3 (.int .i64 (k : Int)) (.slice a9 k cp9) (.slice b9 k cq9) r0 r1 r2
      go_wp2_with fail
      refine bodyPost_ret (v := .agg #[.int .i64 (k : Int), .slice a9 k cp9, .slice b9 k cq9]) (by simp [results, Try.results53, go_sem, hZ]) rfl ⟨_, _, rfl, ?_, ?_, hap.out, (by repeat (first | exact Below.refl _ _ | assumption | refine Below.drew ?_ | refine below_drewN ?_ _ | refine Below.alloc ?_ (by first | omega | (simp <;> omega)) _ | refine Below.setCell ?_ (by first | omega | (simp <;> omega)) _ | refine Below.trans ?_ (Below.mono (by assumption) (by first | omega | (simp <;> omega)))))⟩
      · unfold OwnE; rw [idX_len]
        exact own_le (ownsRow_setCell_below (ownsRow_setCell_below (ownsRow_setCell_below hox.out (by simp) _) (by simp) _) (by simp) _) (by omega)
      · unfold OwnE; rw [idZ_len]
        exact own_le (ownsRow_setCell_below (ownsRow_setCell_below (ownsRow_setCell_below hoz.out (by simp) _) (by simp) _) (by simp) _) (by omega)
end Go.Proofs.Ytjdffjnennodaaa
