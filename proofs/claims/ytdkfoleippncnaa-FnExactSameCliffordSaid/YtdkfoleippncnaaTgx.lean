/- Tab1, Tab3a, Comp3, Ord0, EqPauli, OwnG, Same, Tab2, Tof2, Far, Gt0 in one text. -/
import Derived.Test.YtdkfoleippncnaaStTableau
import Derived.Test.YtdkfoleippncnaaWords
import Derived.Test.YtdkfoleippncnaaLin0
import Derived.Test.YtdkfoleippncnaaTwo2
import Derived.Test.YtdkfoleippncnaaInt1
import Derived.Test.YtdkfoleippncnaaComp2
import Derived.Test.YtdkfoleippncnaaImg3
import Derived.Test.YtdkfoleippncnaaTyPauli
import Derived.Test.YtdkfoleippncnaaCut1
import Derived.Test.YtdkfoleippncnaaSlice1
import Derived.Test.YtdkfoleippncnaaBrk
import Derived.Test.YtdkfoleippncnaaTof1
import Derived.Test.YtdkfoleippncnaaPau4
import Derived.Test.YtdkfoleippncnaaBits
import Derived.Deep.RegionLaw
import Derived.BigQuiet
import Derived.Deep.QuietTactic
import Derived.BigRegion
namespace Go.Proofs.Ytdkfoleippncnaa
set_option linter.unusedSimpArgs false
set_option linter.unusedVariables false
set_option linter.unnecessarySimpa false
set_option maxRecDepth 200000
open Go.ChangeShapes Go.WideShapes Go.ChangeAt Go.RowKit

def idX (n : Nat) : List E3 := (List.range n).map fun q : Nat => ⟨0, (2 : Int) ^ q, 0⟩
def idZ (n : Nat) : List E3 := (List.range n).map fun q : Nat => ⟨0, 0, (2 : Int) ^ q⟩
theorem idX_len (n : Nat) : (idX n).length = n := by simp [idX]
theorem idZ_len (n : Nat) : (idZ n).length = n := by simp [idZ]
theorem idX_succ (n : Nat) : idX (n + 1) = idX n ++ [⟨0, (2 : Int) ^ n, 0⟩] := by simp [idX, List.range_succ]
theorem idZ_succ (n : Nat) : idZ (n + 1) = idZ n ++ [⟨0, 0, (2 : Int) ^ n⟩] := by simp [idZ, List.range_succ]
def idT (n : Int) : Tab := ⟨n, idX n.toNat, idZ n.toNat⟩
/-- What a call has just laid into a block of its own reads. -/
theorem news_reads (w : World) (us : List Value) (t : TypeId) (sz m : Nat) (h : us.length = m * sz) : Reads (w.alloc (.cells us.toArray t)) (w.heap.size + 1) sz (some ⟨w.heap.size, 0, none⟩) m us :=
  ⟨h, fun _ => ⟨_, rfl, by simp, news_cells w us t⟩⟩
set_option maxHeartbeats 1000000 in
theorem spec_l7Identity_any (n : Int) (w : World) (h0 : 0 ≤ n) (h1 : n ≤ 60) :
    Calls Try.prog 85 #[.int .i64 n] w fun e w' => ∃ u0 u1, e = .returned (.agg #[.int .i64 n, u0, u1]) ∧ OwnE w' w.heap.size 121 u0 E3.cs 3 (idX n.toNat) ∧ OwnE w' w.heap.size 121 u1 E3.cs 3 (idZ n.toNat) ∧ Apart u0 u1 ∧ Below w.heap.size w w' := by
  obtain ⟨m, rfl⟩ := Int.eq_ofNat_of_zero_le h0
  rw [Int.toNat_natCast]
  obtain ⟨i0, hi, hz0, hz1, hz2⟩ := info_parts info_Pauli
  go_enter Try.func85, Try.ntmps85
  go_wp2_with fail
  go_loopw [4] (fun i wr => ∃ (k : Nat) (vx vz : Value), k ≤ m ∧ i = .int .i64 k ∧ wr.cell? ⟨w.heap.size + 1, 0, none⟩ = some (.int .i64 m) ∧ wr.cell? ⟨w.heap.size + 1, 1, none⟩ = some vx ∧ wr.cell? ⟨w.heap.size + 1, 2, none⟩ = some vz ∧ wr.frozen? ⟨w.heap.size + 1, 1, none⟩ = false ∧ wr.frozen? ⟨w.heap.size + 1, 2, none⟩ = false ∧ Hid (wr.ownsRow (w.heap.size + 2) 121 3 vx k ((idX k).flatMap E3.cs)) ∧ Hid (wr.ownsRow (w.heap.size + 2) 121 3 vz k ((idZ k).flatMap E3.cs)) ∧ Hid (Apart vx vz) ∧ Below (w.heap.size + 1) (w.alloc (.cells #[.int .i64 0, .slice none 0 0, .slice none 0 0] 79)) wr ∧ w.heap.size + 2 ≤ wr.heap.size) (fun i _ => m - (intOf i).toNat)
  case atStart => exact ⟨0, .slice none 0 0, .slice none 0 0, Nat.zero_le _, rfl, by simp, by simp, by simp, by simp, by simp, World.ownsRow_nil _ _ _ _, World.ownsRow_nil _ _ _ _, apart_nil _, (by repeat (first | exact Below.refl _ _ | assumption | refine Below.drew ?_ | refine below_drewN ?_ _ | refine Below.alloc ?_ (by first | omega | (simp <;> omega)) _ | refine Below.setCell ?_ (by first | omega | (simp <;> omega)) _ | refine Below.trans ?_ (Below.mono (by assumption) (by first | omega | (simp <;> omega))))), by simp⟩
  case round =>
    obtain ⟨k, vx, vz, hk, rfl, c0, c1, c2, f1, f2, hox, hoz, hap, hbel, hsz⟩ := hrel
    by_cases hlt : k < m
    · have i1 : (k : Int) < (m : Int) := by omega
      obtain ⟨p1, p2⟩ := pow_small k (by omega)
      have lx : Hid (∀ g, vx.ownBlock = some g → w.heap.size + 2 ≤ g ∧ g < wr.heap.size) := fun g hg => hox.out.lt g hg
      have lz : Hid (∀ g, vz.ownBlock = some g → w.heap.size + 2 ≤ g ∧ g < wr.heap.size) := fun g hg => hoz.out.lt g hg
      have nx : vx.ownBlock ≠ some (w.heap.size + 1) := fun h => by have := lx.out _ h; omega
      have nz : vz.ownBlock ≠ some (w.heap.size + 1) := fun h => by have := lz.out _ h; omega
      have Nx := Lib.hid nx; have Nz := Lib.hid nz; clear nx nz
      go_wp2_with (first
        | (at_builtin; refine wpList_append_any _ rfl (.tmp 13) (.tmp 18) 77 rfl (w.heap.size + 2) 121 i0 (.agg #[.int .i64 0, .int .i64 0, .int .i64 0]) 3 24 Try.underlying77 hi hz0 hz1 hz2 rfl (by decide) vx k _ rfl (hox.out.alloc _) (wr.heap.size + 1) (some ⟨wr.heap.size, 0, none⟩) 1 1 (E3.cs ⟨0, 2 ^ k, 0⟩) rfl (news_reads wr (E3.cs ⟨0, 2 ^ k, 0⟩) 121 3 1 rfl) (E3.one _) (by unfold maxLen; omega) (by omega) (by simp; omega) ?_; intro vx' w1 hox1 hg1 hat1; obtain ⟨g1, cp1, rfl⟩ := Go.Joins.ownsRow_form hox1 (by omega); have hsz1 := hg1.size; (simp at hsz1); have d0 := cell_grown hg1 (cell_alloc_keep _ c0) Nx.out; have d1 := cell_grown hg1 (cell_alloc_keep _ c1) Nx.out; have d2 := cell_grown hg1 (cell_alloc_keep _ c2) Nx.out; have e1 := frz_grown hg1 (by simp; omega) (frozen_alloc_keep _ c1 f1) Nx.out; have e2 := frz_grown hg1 (by simp; omega) (frozen_alloc_keep _ c2 f2) Nx.out; have hoz1 := Lib.hid (ownsRow_setCell_below (own_other hg1 (hoz.out.alloc _) (fun g a b => hap.out g b a)) (show (⟨w.heap.size + 1, 1, none⟩ : Addr).block < w.heap.size + 2 from by simp) (.slice (some ⟨g1, 0, none⟩) (k + 1) cp1)); have hap1 := Lib.hid (apart_new hap.out.symm (fun g hg => (show g < wr.heap.size + 1 from by have := lz.out g hg; omega)) (by simpa using hat1)))
        | (at_builtin; go_must (refine wpList_append_any _ rfl (.tmp 22) (.tmp 27) 77 rfl (w.heap.size + 2) 121 i0 (.agg #[.int .i64 0, .int .i64 0, .int .i64 0]) 3 24 Try.underlying77 hi hz0 hz1 hz2 rfl (by decide) vz k _ rfl (hoz1.out.alloc _) (w1.heap.size + 1) (some ⟨w1.heap.size, 0, none⟩) 1 1 (E3.cs ⟨0, 0, 2 ^ k⟩) rfl (by have := news_reads (w1.setCell ⟨w.heap.size + 1, 1, none⟩ (.slice (some ⟨g1, 0, none⟩) (k + 1) cp1)) (E3.cs ⟨0, 0, 2 ^ k⟩) 121 3 1 rfl; simpa [E3.cs] using this) (E3.one _) (by unfold maxLen; omega) (by omega) (by simp; omega) ?_; intro vz' w2 hoz2 hg2 hat2; obtain ⟨g2, cp2, rfl⟩ := Go.Joins.ownsRow_form hoz2 (by omega); have hsz2 := hg2.size; (simp at hsz2); have Nz2 : vz.ownBlock ≠ some (w.heap.size + 1) := Nz.out; have b0 := cell_grown hg2 (cell_alloc_keep _ (cell_set_other d0)) Nz2; have b1 := cell_grown hg2 (cell_alloc_keep _ (World.cell?_setCell_same _ _ _ d1)) Nz2; have b2 := cell_grown hg2 (cell_alloc_keep _ (cell_set_other d2)) Nz2; have a1 := frz_grown hg2 (by simp; omega) (frozen_alloc_lt (b := w.heap.size + 1) (o := 1) _ (by simp; omega) (by rw [World.frozen?_setCell]; exact e1)) Nz2; have a2 := frz_grown hg2 (by simp; omega) (frozen_alloc_lt (b := w.heap.size + 1) (o := 2) _ (by simp; omega) (by rw [World.frozen?_setCell]; exact e2)) Nz2; clear Nz2)))
      go_roundw
      case rel =>
        have hoxA := ownsRow_setCell_below hox1 (show (⟨w.heap.size + 1, 1, none⟩ : Addr).block < w.heap.size + 2 from by simp) (.slice (some ⟨g1, 0, none⟩) (k + 1) cp1)
        have hoxB := own_other hg2 (hoxA.alloc _) (fun g a b => hap1.out g b a)
        have lx1 := hox1.lt
        have hapF := apart_new hap1.out.symm (H := w1.heap.size + 1) (fun g hg => by have := (lx1 g hg).2; omega) (by simpa using hat2)
        have bA : Below (w.heap.size + 1) (w.alloc (.cells #[.int .i64 0, .slice none 0 0, .slice none 0 0] 79)) (w1.setCell ⟨w.heap.size + 1, 1, none⟩ (.slice (some ⟨g1, 0, none⟩) (k + 1) cp1)) := Below.setCell (grown_below (hbel.alloc (by omega) _) (hox.out.alloc _) hg1 (by omega) (by simp; omega)) (by simp) _
        have bB := grown_below (bA.alloc (by simp; omega) (.cells #[.int .i64 0, .int .i64 0, .int .i64 (2 ^ k)] 121)) (hoz1.out.alloc _) hg2 (by omega) (by simp; omega)
        refine ⟨k + 1, _, _, by omega, by go_num, cell_set_other b0, cell_set_other b1, World.cell?_setCell_same _ _ _ b2, by rw [World.frozen?_setCell]; exact a1, by rw [World.frozen?_setCell]; exact a2, ?_, ?_, hapF, Below.setCell bB (by simp) _, by simp; omega⟩
        · show World.ownsRow _ _ _ _ _ _ _
          rw [idX_succ, List.flatMap_append]
          exact ownsRow_setCell_below hoxB (by simp) _
        · show World.ownsRow _ _ _ _ _ _ _
          rw [idZ_succ, List.flatMap_append]
          exact ownsRow_setCell_below hoz2 (by simp) _
      case measure => simp [intOf]; omega
    · have e : k = m := by omega
      subst e
      have r0 : wr.cell? ⟨w.heap.size, 0, none⟩ = some (.int .i64 0) := by rw [hbel.cell (p := ⟨w.heap.size, 0, none⟩) (by simp)]; exact (by repeat (first | (refine Eq.trans (World.cell?_alloc_at _ _ _ _ ?hh) ?_; (case hh => (simp; done)); rfl) | refine cell_alloc_keep _ ?_))
      have r1 : wr.cell? ⟨w.heap.size, 1, none⟩ = some (.slice none 0 0) := by rw [hbel.cell (p := ⟨w.heap.size, 1, none⟩) (by simp)]; exact (by repeat (first | (refine Eq.trans (World.cell?_alloc_at _ _ _ _ ?hh) ?_; (case hh => (simp; done)); rfl) | refine cell_alloc_keep _ ?_))
      have r2 : wr.cell? ⟨w.heap.size, 2, none⟩ = some (.slice none 0 0) := by rw [hbel.cell (p := ⟨w.heap.size, 2, none⟩) (by simp)]; exact (by repeat (first | (refine Eq.trans (World.cell?_alloc_at _ _ _ _ ?hh) ?_; (case hh => (simp; done)); rfl) | refine cell_alloc_keep _ ?_))
      have q0 : wr.frozen? ⟨w.heap.size, 0, none⟩ = false := by rw [hbel.frozen (p := ⟨w.heap.size, 0, none⟩) (by simp)]; exact (by repeat (first | (refine World.frozen?_alloc_at _ _ _ _ ?hh; case hh => (simp; done)) | (refine frozen_alloc_lt _ ?hh ?_; case hh => first | omega | (simp <;> omega))))
      have q1 : wr.frozen? ⟨w.heap.size, 1, none⟩ = false := by rw [hbel.frozen (p := ⟨w.heap.size, 1, none⟩) (by simp)]; exact (by repeat (first | (refine World.frozen?_alloc_at _ _ _ _ ?hh; case hh => (simp; done)) | (refine frozen_alloc_lt _ ?hh ?_; case hh => first | omega | (simp <;> omega))))
      have q2 : wr.frozen? ⟨w.heap.size, 2, none⟩ = false := by rw [hbel.frozen (p := ⟨w.heap.size, 2, none⟩) (by simp)]; exact (by repeat (first | (refine World.frozen?_alloc_at _ _ _ _ ?hh; case hh => (simp; done)) | (refine frozen_alloc_lt _ ?hh ?_; case hh => first | omega | (simp <;> omega))))
      obtain ⟨a9, cp9, rfl⟩ := own_form hox.out
      obtain ⟨b9, cq9, rfl⟩ := own_form hoz.out
      have hZ := box_set3 (.int .i64 (k : Int)) (.slice a9 k cp9) (.slice b9 k cq9) r0 r1 r2
      go_wp2_with fail
      refine bodyPost_ret (v := .agg #[.int .i64 (k : Int), .slice a9 k cp9, .slice b9 k cq9]) (by simp [results, Try.results85, go_sem, hZ]) rfl ⟨_, _, rfl, ?_, ?_, hap.out, (by repeat (first | exact Below.refl _ _ | assumption | refine Below.drew ?_ | refine below_drewN ?_ _ | refine Below.alloc ?_ (by first | omega | (simp <;> omega)) _ | refine Below.setCell ?_ (by first | omega | (simp <;> omega)) _ | refine Below.trans ?_ (Below.mono (by assumption) (by first | omega | (simp <;> omega)))))⟩
      · unfold OwnE; rw [idX_len]
        exact own_le (ownsRow_setCell_below (ownsRow_setCell_below (ownsRow_setCell_below hox.out (by simp) _) (by simp) _) (by simp) _) (by omega)
      · unfold OwnE; rw [idZ_len]
        exact own_le (ownsRow_setCell_below (ownsRow_setCell_below (ownsRow_setCell_below hoz.out (by simp) _) (by simp) _) (by simp) _) (by omega)
end Go.Proofs.Ytdkfoleippncnaa
namespace Go.Proofs.Ytdkfoleippncnaa
set_option linter.unusedSimpArgs false
set_option linter.unusedVariables false
set_option linter.unnecessarySimpa false
set_option maxRecDepth 200000
open Go.ChangeShapes Go.WideShapes Go.ChangeAt Go.RowKit

/-- What a function that answers a tableau and 'ok' leaves. -/
def TabPost (w : World) (r : Option Tab) (e : Ending) (w' : World) : Prop :=
  ∃ u0 u1, e = .returned (.tuple #[.agg #[.int .i64 (r.getD Tab.zero).n, u0, u1], .bool r.isSome]) ∧ OwnE w' w.heap.size 121 u0 E3.cs 3 (r.getD Tab.zero).xs ∧ OwnE w' w.heap.size 121 u1 E3.cs 3 (r.getD Tab.zero).zs ∧ Apart u0 u1 ∧ Below w.heap.size w w'
def idTab (n : Int) : Option Tab := if inB n 1 5 then some (idT n) else none
theorem idTab_len (n : Int) : ((idTab n).getD Tab.zero).xs.length ≤ 1000000 ∧ ((idTab n).getD Tab.zero).zs.length ≤ 1000000 := by
  unfold idTab; split
  · next h =>
    have h2 : 1 ≤ n ∧ n ≤ 5 := by simpa [inB] using h
    simp [idT, idX_len, idZ_len]; omega
  · simp [Tab.zero]
theorem ownE_nil (w : World) (base : Nat) (t : TypeId) : OwnE w base t (.slice none 0 0) E3.cs 3 [] := World.ownsRow_nil _ _ _ _
theorem TabPost.none {w w' : World} {r : Option Tab} (hr : r = none) (hb : Below w.heap.size w w') : TabPost w r (.returned (.tuple #[.agg #[.int .i64 0, .slice none 0 0, .slice none 0 0], .bool false])) w' := by
  subst hr; exact ⟨_, _, rfl, ownE_nil _ _ _, ownE_nil _ _ _, apart_nil _, hb⟩
theorem TabPost.some {w w' : World} {r : Option Tab} {t : Tab} {u0 u1 : Value} (hr : r = some t) (h0 : OwnE w' w.heap.size 121 u0 E3.cs 3 t.xs) (h1 : OwnE w' w.heap.size 121 u1 E3.cs 3 t.zs) (ha : Apart u0 u1) (hb : Below w.heap.size w w') : TabPost w r (.returned (.tuple #[.agg #[.int .i64 t.n, u0, u1], .bool true])) w' := by
  subst hr; exact ⟨_, _, rfl, h0, h1, ha, hb⟩
end Go.Proofs.Ytdkfoleippncnaa
namespace Go.Proofs.Ytdkfoleippncnaa
set_option linter.unusedSimpArgs false
set_option linter.unusedVariables false
set_option linter.unnecessarySimpa false
set_option maxRecDepth 200000
open Go.ChangeShapes Go.WideShapes Go.ChangeAt Go.RowKit

noncomputable def cmpG (d1 d2 : Tab) : Option Tab := if TabOk d1 ∧ TabOk d2 ∧ d1.n = d2.n then some ⟨d1.n, pes (compL imgN (d2.xs.map tn) (d2.zs.map tn) d1.n.toNat (d1.xs.map tn)), pes (compL imgN (d2.xs.map tn) (d2.zs.map tn) d1.n.toNat (d1.zs.map tn))⟩ else none
theorem cmpG_some {d1 d2 : Tab} (h1 : TabOk d1) (h2 : TabOk d2) (h3 : d1.n = d2.n) : cmpG d1 d2 = some ⟨d1.n, pes (compL imgN (d2.xs.map tn) (d2.zs.map tn) d1.n.toNat (d1.xs.map tn)), pes (compL imgN (d2.xs.map tn) (d2.zs.map tn) d1.n.toNat (d1.zs.map tn))⟩ := if_pos ⟨h1, h2, h3⟩
theorem cmpG_len (d1 d2 : Tab) : ((cmpG d1 d2).getD Tab.zero).xs.length ≤ 1000000 ∧ ((cmpG d1 d2).getD Tab.zero).zs.length ≤ 1000000 := by
  unfold cmpG; split
  · next h =>
    obtain ⟨⟨a1, a2⟩, a3, a4, _⟩ := h.1
    simp [pes, compL]; omega
  · simp [Tab.zero]
theorem compL_same {n : Nat} {X Z : List PN} (hn : n ≤ 5) {L : List PN} (h : PLok L) (hl : ∀ a ∈ L, a.x < 2 ^ n) : compL imgS X Z n L = compL imgN X Z n L := by
  unfold compL
  apply List.map_congr_left
  intro a ha
  exact img_same X Z (h.all a ha).p (hl a ha) (by omega)
theorem tab_lt {d : Tab} {m : Nat} (h : TabOk d) (hm : d.n = (m : Int)) : (∀ a ∈ d.xs.map tn, a.x < 2 ^ m) ∧ (∀ a ∈ d.zs.map tn, a.x < 2 ^ m) := by
  obtain ⟨⟨h1, h2⟩, h3, h4, h5, _⟩ := h
  constructor
  · intro a ha
    obtain ⟨g, hg, rfl⟩ := List.mem_map.1 ha
    obtain ⟨i, hi, rfl⟩ := List.mem_iff_getElem.1 hg
    have h6 := (h5 i (by omega)).1
    have e : (d.xs ++ d.zs).getD i ⟨0, 0, 0⟩ = d.xs[i] := by simp [List.getD, List.getElem?_append_left hi, hi]
    rw [e] at h6
    exact pau_lt (by omega) h6 hm rfl
  · intro a ha
    obtain ⟨g, hg, rfl⟩ := List.mem_map.1 ha
    obtain ⟨i, hi, rfl⟩ := List.mem_iff_getElem.1 hg
    have h6 := (h5 (d.xs.length + i) (by omega)).1
    have e : (d.xs ++ d.zs).getD (d.xs.length + i) ⟨0, 0, 0⟩ = d.zs[i] := by simp [List.getD, List.getElem?_append_right, hi]
    rw [e] at h6
    exact pau_lt (by omega) h6 hm rfl
end Go.Proofs.Ytdkfoleippncnaa
namespace Go.Proofs.Ytdkfoleippncnaa
set_option linter.unusedSimpArgs false
set_option linter.unusedVariables false
set_option linter.unnecessarySimpa false
set_option maxRecDepth 200000
open Go.ChangeShapes Go.WideShapes Go.ChangeAt Go.RowKit

/-- Operators whose masks lie below 2^n. -/
structure LtL (n : Nat) (L : List PN) : Prop where
  ok : PLok L
  lt : ∀ a ∈ L, a.x < 2 ^ n ∧ a.z < 2 ^ n
theorem LtL.get {n : Nat} {L : List PN} (h : LtL n L) (i : Nat) : (L.getD i ⟨0, 0, 0⟩).x < 2 ^ n ∧ (L.getD i ⟨0, 0, 0⟩).z < 2 ^ n := by
  by_cases hi : i < L.length
  · have e : L.getD i ⟨0, 0, 0⟩ = L[i] := by simp [List.getD, hi]
    rw [e]; exact h.lt _ (List.getElem_mem hi)
  · have e : L.getD i ⟨0, 0, 0⟩ = ⟨0, 0, 0⟩ := by simp [List.getD, hi]
    rw [e]; exact ⟨Nat.two_pow_pos n, Nat.two_pow_pos n⟩
theorem mulN_lt {n : Nat} {a b : PN} (ha : a.x < 2 ^ n ∧ a.z < 2 ^ n) (hb : b.x < 2 ^ n ∧ b.z < 2 ^ n) : (mulN a b).x < 2 ^ n ∧ (mulN a b).z < 2 ^ n :=
  ⟨Nat.xor_lt_two_pow ha.1 hb.1, Nat.xor_lt_two_pow ha.2 hb.2⟩
theorem imgN_lt {n : Nat} {X Z : List PN} (hX : LtL n X) (hZ : LtL n Z) (p : PN) : ∀ k, (imgN X Z p k).x < 2 ^ n ∧ (imgN X Z p k).z < 2 ^ n
  | 0 => ⟨Nat.two_pow_pos n, Nat.two_pow_pos n⟩
  | k + 1 => by
    have ih := imgN_lt hX hZ p k
    unfold imgN
    dsimp only
    split
    · split
      · exact mulN_lt (mulN_lt ih (hX.get k)) (hZ.get k)
      · exact mulN_lt ih (hZ.get k)
    · split
      · exact mulN_lt ih (hX.get k)
      · exact ih
theorem LtL.comp {n : Nat} {X Z L : List PN} (hX : LtL n X) (hZ : LtL n Z) : LtL n (compL imgN X Z n L) := by
  refine ⟨⟨fun a ha => ?_⟩, fun a ha => ?_⟩
  · obtain ⟨p, _, rfl⟩ := List.mem_map.1 ha; exact imgN_ok hX.ok hZ.ok n
  · obtain ⟨p, _, rfl⟩ := List.mem_map.1 ha; exact imgN_lt hX hZ p n
theorem compL_len (f : List PN → List PN → PN → Nat → PN) (X Z : List PN) (n : Nat) (L : List PN) : (compL f X Z n L).length = L.length := by simp [compL]
theorem TabOk.lt {d : Tab} {m : Nat} (h : TabOk d) (hm : d.n = (m : Int)) : LtL m (d.xs.map tn) ∧ LtL m (d.zs.map tn) := by
  obtain ⟨m2, hm2, _, _, _, _, _, _, okx, okz⟩ := h.parts
  obtain rfl : m2 = m := by omega
  obtain ⟨⟨h1, h2⟩, h3, h4, h5, _⟩ := h
  have key : ∀ g : E3, PauOk d.n g → (tn g).x < 2 ^ m2 ∧ (tn g).z < 2 ^ m2 := by
    intro g hg
    obtain ⟨_, ⟨b0, b1⟩, c0, c1⟩ := hg
    rw [hm2, Int.toNat_natCast] at b1 c1
    have e : (2 : Int) ^ m2 = ((2 ^ m2 : Nat) : Int) := by simp
    rw [e] at b1 c1
    have hp := Nat.two_pow_pos m2
    unfold tn; dsimp only
    generalize 2 ^ m2 = q at *
    omega
  refine ⟨⟨okx, fun a ha => ?_⟩, ⟨okz, fun a ha => ?_⟩⟩
  · obtain ⟨g, hg, rfl⟩ := List.mem_map.1 ha
    obtain ⟨i, hi, rfl⟩ := List.mem_iff_getElem.1 hg
    have h6 := (h5 i (by omega)).1
    have e : (d.xs ++ d.zs).getD i ⟨0, 0, 0⟩ = d.xs[i] := by simp [List.getD, List.getElem?_append_left hi, hi]
    rw [e] at h6
    exact key _ h6
  · obtain ⟨g, hg, rfl⟩ := List.mem_map.1 ha
    obtain ⟨i, hi, rfl⟩ := List.mem_iff_getElem.1 hg
    have h6 := (h5 (d.xs.length + i) (by omega)).1
    have e : (d.xs ++ d.zs).getD (d.xs.length + i) ⟨0, 0, 0⟩ = d.zs[i] := by simp [List.getD, List.getElem?_append_right, hi]
    rw [e] at h6
    exact key _ h6
theorem compL_samet {n : Nat} {X Z : List PN} (hn : n ≤ 5) {L : List PN} (h : LtL n L) : compL imgS X Z n L = compL imgN X Z n L :=
  compL_same hn h.ok (fun a ha => (h.lt a ha).1)
/-- The identity's images. -/
def idPX (n : Nat) : List PN := (List.range n).map fun q => ⟨0, 2 ^ q, 0⟩
def idPZ (n : Nat) : List PN := (List.range n).map fun q => ⟨0, 0, 2 ^ q⟩
theorem idPX_len (n : Nat) : (idPX n).length = n := by simp [idPX]
theorem idPZ_len (n : Nat) : (idPZ n).length = n := by simp [idPZ]
theorem idX_pes (n : Nat) : idX n = pes (idPX n) := by
  unfold idX pes idPX; rw [List.map_map]; apply List.map_congr_left; intro q _; simp [PN.e]
theorem idZ_pes (n : Nat) : idZ n = pes (idPZ n) := by
  unfold idZ pes idPZ; rw [List.map_map]; apply List.map_congr_left; intro q _; simp [PN.e]
theorem idPX_lt {n : Nat} (h : n ≤ 5) : LtL n (idPX n) := by
  refine ⟨⟨fun a ha => ?_⟩, fun a ha => ?_⟩
  all_goals
    obtain ⟨q, hq, rfl⟩ := List.mem_map.1 ha
    have hq := List.mem_range.1 hq
    have h2 : 2 ^ q < 2 ^ n := Nat.pow_lt_pow_right (by omega) hq
    have h3 : 2 ^ n ≤ 2 ^ 5 := Nat.pow_le_pow_right (by omega) h
  · exact ⟨by simp, by dsimp only; omega, by simp⟩
  · exact ⟨h2, Nat.two_pow_pos n⟩
theorem idPZ_lt {n : Nat} (h : n ≤ 5) : LtL n (idPZ n) := by
  refine ⟨⟨fun a ha => ?_⟩, fun a ha => ?_⟩
  all_goals
    obtain ⟨q, hq, rfl⟩ := List.mem_map.1 ha
    have hq := List.mem_range.1 hq
    have h2 : 2 ^ q < 2 ^ n := Nat.pow_lt_pow_right (by omega) hq
    have h3 : 2 ^ n ≤ 2 ^ 5 := Nat.pow_le_pow_right (by omega) h
  · exact ⟨by simp, by simp, by dsimp only; omega⟩
  · exact ⟨Nat.two_pow_pos n, h2⟩
theorem PN.e_inj {a b : PN} (h : a.e = b.e) : a = b := by
  unfold PN.e at h; injection h with h1 h2 h3
  exact PN.eq_of (by omega) (by omega) (by omega)
theorem pes_inj {L M : List PN} : pes L = pes M ↔ L = M := by
  constructor
  · intro h
    unfold pes at h
    exact List.map_inj_right (fun _ _ => PN.e_inj) |>.1 h
  · rintro rfl; rfl
/-- The power k + 1 of a tableau. -/
def powX (X Z : List PN) (n : Nat) : Nat → List PN
  | 0 => X
  | k + 1 => compL imgN X Z n (powX X Z n k)
def powZ (X Z : List PN) (n : Nat) : Nat → List PN
  | 0 => Z
  | k + 1 => compL imgN X Z n (powZ X Z n k)
theorem powX_len (X Z : List PN) (n : Nat) : ∀ k, (powX X Z n k).length = X.length
  | 0 => rfl
  | k + 1 => by unfold powX; rw [compL_len, powX_len X Z n k]
theorem powZ_len (X Z : List PN) (n : Nat) : ∀ k, (powZ X Z n k).length = Z.length
  | 0 => rfl
  | k + 1 => by unfold powZ; rw [compL_len, powZ_len X Z n k]
theorem powX_lt {X Z : List PN} {n : Nat} (hX : LtL n X) (hZ : LtL n Z) : ∀ k, LtL n (powX X Z n k)
  | 0 => hX
  | k + 1 => LtL.comp hX hZ
theorem powZ_lt {X Z : List PN} {n : Nat} (hX : LtL n X) (hZ : LtL n Z) : ∀ k, LtL n (powZ X Z n k)
  | 0 => hZ
  | k + 1 => LtL.comp hX hZ
/-- Is the power k + 1 the identity? -/
def ordAt (X Z : List PN) (n k : Nat) : Bool := decide (powX X Z n k = idPX n ∧ powZ X Z n k = idPZ n)
def OrdTo (X Z : List PN) (n k : Nat) : Prop := ∀ j, j < k → ordAt X Z n j = false
theorem OrdTo.next {X Z : List PN} {n k : Nat} (h : OrdTo X Z n k) (h2 : ordAt X Z n k = false) : OrdTo X Z n (k + 1) := by
  intro j hj
  by_cases e : j = k
  · subst e; exact h2
  · exact h j (by omega)
def ordN (X Z : List PN) (n : Nat) : Option Nat := (List.range 1000).find? (ordAt X Z n)
theorem ord_yes {X Z : List PN} {n k : Nat} (h : OrdTo X Z n k) (hk : k < 1000) (h2 : ordAt X Z n k = true) : ordN X Z n = some k := by
  unfold ordN
  rw [List.find?_range_eq_some]
  exact ⟨h2, List.mem_range.2 hk, fun j hj => by rw [h j hj]; rfl⟩
theorem ord_no {X Z : List PN} {n : Nat} (h : OrdTo X Z n 1000) : ordN X Z n = none := by
  unfold ordN
  rw [List.find?_eq_none]
  intro j hj
  rw [h j (List.mem_range.1 hj)]; simp
/-- What OrderOf answers. -/
noncomputable def ordG (d : Tab) : Option Int := if TabOk d then (ordN (d.xs.map tn) (d.zs.map tn) d.n.toNat).map (fun k => (k : Int) + 1) else none
end Go.Proofs.Ytdkfoleippncnaa
namespace Go.Proofs.Ytdkfoleippncnaa
set_option linter.unusedSimpArgs false
set_option linter.unusedVariables false
set_option linter.unnecessarySimpa false
set_option maxRecDepth 200000
open Go.ChangeShapes Go.WideShapes Go.ChangeAt Go.RowKit

theorem eqcase_Pauli (x y : E3) : ((x.a == y.a) = false) ∨ ((x.a == y.a) = true ∧ (x.b == y.b) = false) ∨ ((x.a == y.a) = true ∧ (x.b == y.b) = true ∧ (x.c == y.c) = false) ∨ ((x.a == y.a) = true ∧ (x.b == y.b) = true ∧ (x.c == y.c) = true) := by
  cases h0 : (x.a == y.a) <;>
  cases h1 : (x.b == y.b) <;>
  cases h2 : (x.c == y.c) <;> simp
set_option maxHeartbeats 4000000 in
theorem slices_Equal_Pauli (va vb : Value) (xs ys : List E3) (w : World) (ha : RdE w va E3.cs 3 xs) (hb : RdE w vb E3.cs 3 ys) :
    Calls Try.prog 93 #[va, vb] w fun e w' => e = .returned (.bool (decide (xs = ys))) ∧ Below w.heap.size w w' := by
  by_cases hl : xs.length = ys.length
  · rcases ha.cases0 E3.len with ⟨he, A, c, rfl⟩ | ⟨hpos, b, off, cap, rfl, hb1, hcap, hcm, hcs⟩
    · have h2 : ys = [] := List.eq_nil_of_length_eq_zero (by rw [← hl, he]; rfl)
      obtain ⟨A2, c2, rfl, _⟩ := hb.form
      subst he h2
      clear ha hb hl
      go_enter Try.func93, Try.ntmps93
      go_wp2_with fail
      refine wp_loop_rounds 1 ?_
      rw [rounds_succ]
      go_wp2_with fail
      go_ret
      exact ⟨rfl, (by repeat (first | exact Below.refl _ _ | assumption | refine Below.drew ?_ | refine below_drewN ?_ _ | refine Below.alloc ?_ (by first | omega | (simp <;> omega)) _ | refine Below.setCell ?_ (by first | omega | (simp <;> omega)) _ | refine Below.trans ?_ (Below.mono (by assumption) (by first | omega | (simp <;> omega)))))⟩
    · rcases hb.cases0 E3.len with ⟨he, _⟩ | ⟨_, b2, off2, cap2, rfl, hb2, hcap2, hcm2, hds⟩
      · rw [he] at hl; simp at hl; subst hl; simp at hpos
      have hc := Lib.hid hcs; have hd := Lib.hid hds
      clear ha hb hcs hds
      have n1 : ((xs.length : Int) != (ys.length : Int)) = false := by simp; omega
      go_enter Try.func93, Try.ntmps93
      go_wp2_with fail
      go_loopw [13] (fun i wr => ∃ k : Nat, k ≤ xs.length ∧ i = .int .i64 k ∧ Hid (xs.take k = ys.take k) ∧ Hid (Below w.heap.size w wr)) (fun i _ => xs.length - (intOf i).toNat)
      case atStart => exact ⟨0, Nat.zero_le _, rfl, (show _ = _ from rfl), (show Below _ _ _ from Below.refl _ _)⟩
      case round =>
        obtain ⟨k, hk, rfl, heq, hbel⟩ := hrel
        by_cases hlt : k < xs.length
        · have hlt2 : k < ys.length := by omega
          obtain ⟨x, hx⟩ : ∃ x, xs[k] = x := ⟨_, rfl⟩
          obtain ⟨y, hy⟩ : ∃ y, ys[k] = y := ⟨_, rfl⟩
          have q0 : wr.cell? ⟨b, off + k * 3, none⟩ = some (.int .i64 x.a) := (hbel.out.cell hb1).trans (by rw [← hx]; exact hc.out k hlt 0 _ (by omega) rfl)
          have q1 : wr.cell? ⟨b, off + k * 3 + 1, none⟩ = some (.int .i64 x.b) := (hbel.out.cell hb1).trans (by rw [← hx]; exact hc.out k hlt 1 _ (by omega) rfl)
          have q2 : wr.cell? ⟨b, off + k * 3 + 2, none⟩ = some (.int .i64 x.c) := (hbel.out.cell hb1).trans (by rw [← hx]; exact hc.out k hlt 2 _ (by omega) rfl)
          have r0 : wr.cell? ⟨b2, off2 + k * 3, none⟩ = some (.int .i64 y.a) := (hbel.out.cell hb2).trans (by rw [← hy]; exact hd.out k hlt2 0 _ (by omega) rfl)
          have r1 : wr.cell? ⟨b2, off2 + k * 3 + 1, none⟩ = some (.int .i64 y.b) := (hbel.out.cell hb2).trans (by rw [← hy]; exact hd.out k hlt2 1 _ (by omega) rfl)
          have r2 : wr.cell? ⟨b2, off2 + k * 3 + 2, none⟩ = some (.int .i64 y.c) := (hbel.out.cell hb2).trans (by rw [← hy]; exact hd.out k hlt2 2 _ (by omega) rfl)
          have i1 : (k : Int) < (xs.length : Int) := by omega
          have i2 : (k : Int) < (ys.length : Int) := by omega
          have i3 : (0 : Int) ≤ (k : Int) := by omega
          have HX := Lib.hid hx; have HY := Lib.hid hy
          clear hx hy
          rcases eqcase_Pauli x y with d0 | ⟨d0, d1⟩ | ⟨d0, d1, d2⟩ | ⟨d0, d1, d2⟩
          · go_wp2_with fail
            go_quiet (fail)
            go_wp2_with fail
            go_ret
            exact ⟨ret_bool (eqE_fail hlt hlt2 (by rw [HX.out, HY.out]; intro e; subst e; simp at d0)), Below.trans hbel.out (show Below w.heap.size wr _ from (by repeat (first | exact Below.refl _ _ | assumption | refine Below.drew ?_ | refine below_drewN ?_ _ | refine Below.alloc ?_ (by first | omega | (simp <;> omega)) _ | refine Below.setCell ?_ (by first | omega | (simp <;> omega)) _ | refine Below.trans ?_ (Below.mono (by assumption) (by first | omega | (simp <;> omega))))))⟩
          · go_wp2_with fail
            go_quiet (fail)
            go_wp2_with fail
            go_ret
            exact ⟨ret_bool (eqE_fail hlt hlt2 (by rw [HX.out, HY.out]; intro e; subst e; simp at d1)), Below.trans hbel.out (show Below w.heap.size wr _ from (by repeat (first | exact Below.refl _ _ | assumption | refine Below.drew ?_ | refine below_drewN ?_ _ | refine Below.alloc ?_ (by first | omega | (simp <;> omega)) _ | refine Below.setCell ?_ (by first | omega | (simp <;> omega)) _ | refine Below.trans ?_ (Below.mono (by assumption) (by first | omega | (simp <;> omega))))))⟩
          · go_wp2_with fail
            go_quiet (fail)
            go_wp2_with fail
            go_ret
            exact ⟨ret_bool (eqE_fail hlt hlt2 (by rw [HX.out, HY.out]; intro e; subst e; simp at d2)), Below.trans hbel.out (show Below w.heap.size wr _ from (by repeat (first | exact Below.refl _ _ | assumption | refine Below.drew ?_ | refine below_drewN ?_ _ | refine Below.alloc ?_ (by first | omega | (simp <;> omega)) _ | refine Below.setCell ?_ (by first | omega | (simp <;> omega)) _ | refine Below.trans ?_ (Below.mono (by assumption) (by first | omega | (simp <;> omega))))))⟩
          · go_wp2_with fail
            go_quiet (fail)
            go_wp2_with fail
            go_roundw
            case rel => exact ⟨k + 1, by omega, by go_num, eqE_step heq hlt hlt2 (by rw [HX.out, HY.out]; cases x; cases y; simp only [E3.mk.injEq]; exact ⟨LawfulBEq.eq_of_beq d0, LawfulBEq.eq_of_beq d1, LawfulBEq.eq_of_beq d2⟩), (show Below _ _ _ from Below.trans hbel.out (show Below w.heap.size wr _ from (by repeat (first | exact Below.refl _ _ | assumption | refine Below.drew ?_ | refine below_drewN ?_ _ | refine Below.alloc ?_ (by first | omega | (simp <;> omega)) _ | refine Below.setCell ?_ (by first | omega | (simp <;> omega)) _ | refine Below.trans ?_ (Below.mono (by assumption) (by first | omega | (simp <;> omega)))))))⟩
            case measure => simp [intOf]; omega
        · go_wp2_with fail
          go_ret
          exact ⟨ret_bool (eqE_end heq (by omega) (by omega)), hbel.out⟩
  · obtain ⟨A, c, rfl, _⟩ := ha.form
    obtain ⟨A2, c2, rfl, _⟩ := hb.form
    have HR := Lib.hid (show decide (xs = ys) = false from decide_eq_false fun h => hl (by rw [h]))
    have n1 : ((xs.length : Int) != (ys.length : Int)) = true := by simp; omega
    clear ha hb hl
    go_enter Try.func93, Try.ntmps93
    go_wp2_with fail
    go_ret
    exact ⟨ret_bool (by rw [HR.out]), (by repeat (first | exact Below.refl _ _ | assumption | refine Below.drew ?_ | refine below_drewN ?_ _ | refine Below.alloc ?_ (by first | omega | (simp <;> omega)) _ | refine Below.setCell ?_ (by first | omega | (simp <;> omega)) _ | refine Below.trans ?_ (Below.mono (by assumption) (by first | omega | (simp <;> omega)))))⟩
end Go.Proofs.Ytdkfoleippncnaa
namespace Go.Proofs.Ytdkfoleippncnaa
set_option linter.unusedSimpArgs false
set_option linter.unusedVariables false
set_option linter.unnecessarySimpa false
set_option maxRecDepth 200000
open Go.ChangeShapes Go.WideShapes Go.ChangeAt Go.RowKit

/-- A slice of three-cell structs of n elements in block g. -/
def OwnG (w : World) (base : Nat) (t : TypeId) (g n cap : Nat) (xs : List E3) : Prop := w.ownsRow base t 3 (.slice (some ⟨g, 0, none⟩) n cap) n (xs.flatMap E3.cs)
theorem OwnG.len {w : World} {base g n cap : Nat} {t : TypeId} {xs : List E3} (h : OwnG w base t g n cap xs) : xs.length = n := by
  have := h.1; rw [flat_len E3.len] at this; omega
theorem OwnG.of {w : World} {base g n cap : Nat} {t : TypeId} {xs : List E3} (h : OwnE w base t (.slice (some ⟨g, 0, none⟩) n cap) E3.cs 3 xs) (hl : xs.length = n) : OwnG w base t g n cap xs := by
  unfold OwnE at h; rw [hl] at h; exact h
theorem OwnG.own {w : World} {base g n cap : Nat} {t : TypeId} {xs : List E3} (h : OwnG w base t g n cap xs) : OwnE w base t (.slice (some ⟨g, 0, none⟩) n cap) E3.cs 3 xs := by
  have hl := h.len; unfold OwnE; rw [hl]; exact h
theorem OwnG.cell {w : World} {base g n cap : Nat} {t : TypeId} {xs : List E3} (h : OwnG w base t g n cap xs) (i : Nat) (hi : i < n) :
    w.cell? ⟨g, i * 3, none⟩ = some (.int .i64 (xs.getD i ⟨0, 0, 0⟩).a) ∧ w.cell? ⟨g, i * 3 + 1, none⟩ = some (.int .i64 (xs.getD i ⟨0, 0, 0⟩).b) ∧ w.cell? ⟨g, i * 3 + 2, none⟩ = some (.int .i64 (xs.getD i ⟨0, 0, 0⟩).c) := by
  have hl := h.len
  have e : xs.getD i ⟨0, 0, 0⟩ = xs[i] := by simp [List.getD, show i < xs.length by omega]
  have key : ∀ j u, j < 3 → (E3.cs xs[i])[j]? = some u → w.cell? ⟨g, i * 3 + j, none⟩ = some u := by
    intro j u hj hu
    have := World.ownsRow.cells h (g := g) rfl (i * 3 + j) u (by rw [flat_get E3.len xs i j (by omega) hj]; exact hu)
    rw [Addr.add_lit, Nat.zero_add] at this
    exact this
  rw [e]
  exact ⟨key 0 _ (by omega) rfl, key 1 _ (by omega) rfl, key 2 _ (by omega) rfl⟩
theorem OwnG.frz {w : World} {base g n cap : Nat} {t : TypeId} {xs : List E3} (h : OwnG w base t g n cap xs) (j : Nat) : w.frozen? ⟨g, j, none⟩ = false := World.ownsRow.frozenAt h j
theorem OwnG.lt {w : World} {base g n cap : Nat} {t : TypeId} {xs : List E3} (h : OwnG w base t g n cap xs) : base ≤ g ∧ g < w.heap.size := World.ownsRow.lt h g rfl
theorem OwnG.below {w w' : World} {base g n cap B : Nat} {t : TypeId} {xs : List E3} (h : OwnG w base t g n cap xs) (hb : Below B w w') (hB : B = w.heap.size) : OwnG w' base t g n cap xs := own_below h hb hB
theorem set_flat (e : E3) : ∀ (xs : List E3) (i : Nat), i < xs.length → (((xs.flatMap E3.cs).set (i * 3) (.int .i64 e.a)).set (i * 3 + 1) (.int .i64 e.b)).set (i * 3 + 2) (.int .i64 e.c) = (xs.set i e).flatMap E3.cs
  | [], _, h => by simp at h
  | x :: xs, 0, _ => by simp [E3.cs]
  | x :: xs, i + 1, h => by
    have ih := set_flat e xs i (by simpa using h)
    simp only [List.flatMap_cons, List.set_cons_succ]
    rw [← ih]
    have h3 : (E3.cs x).length = 3 := rfl
    rw [List.set_append_right _ _ (by rw [h3]; omega), List.set_append_right _ _ (by rw [h3]; omega), List.set_append_right _ _ (by rw [h3]; omega), h3]
    rw [show (i + 1) * 3 - 3 = i * 3 from by omega, show (i + 1) * 3 + 1 - 3 = i * 3 + 1 from by omega, show (i + 1) * 3 + 2 - 3 = i * 3 + 2 from by omega]
theorem OwnG.set {w : World} {base g n cap : Nat} {t : TypeId} {xs : List E3} (h : OwnG w base t g n cap xs) (i : Nat) (hi : i < n) (e : E3) :
    OwnG (((w.setCell ⟨g, i * 3, none⟩ (.int .i64 e.a)).setCell ⟨g, i * 3 + 1, none⟩ (.int .i64 e.b)).setCell ⟨g, i * 3 + 2, none⟩ (.int .i64 e.c)) base t g n cap (xs.set i e) := by
  have hl := h.len
  have h1 := (World.ownsRow.stored h (i * 3) (.int .i64 e.a)).1
  have h2 := (World.ownsRow.stored h1 (i * 3 + 1) (.int .i64 e.b)).1
  have h3 := (World.ownsRow.stored h2 (i * 3 + 2) (.int .i64 e.c)).1
  rw [set_flat e xs i (by omega)] at h3
  exact h3
/-- What a call has just laid into a block of its own reads. -/
theorem reads_news (w : World) (us : List Value) (t : TypeId) (sz m : Nat) (h : us.length = m * sz) : Reads (w.alloc (.cells us.toArray t)) (w.heap.size + 1) sz (some ⟨w.heap.size, 0, none⟩) m us :=
  ⟨h, fun _ => ⟨_, rfl, by simp, news_cells w us t⟩⟩
theorem below_set3 (w : World) (g a b c : Nat) (u v x : Value) : Below 0 w (((w.setCell ⟨g, a, none⟩ u).setCell ⟨g, b, none⟩ v).setCell ⟨g, c, none⟩ x) :=
  Below.setCell (p := ⟨g, c, none⟩) (Below.setCell (p := ⟨g, b, none⟩) (Below.setCell (p := ⟨g, a, none⟩) (Below.refl 0 w) (Nat.zero_le _) u) (Nat.zero_le _) v) (Nat.zero_le _) x
theorem grown_set3 {w0 w : World} {g : Nat} (h : w0.grownBy w (some g)) (hg : g < w0.heap.size) (a b c : Nat) (u v x : Value) : w0.grownBy (((w.setCell ⟨g, a, none⟩ u).setCell ⟨g, b, none⟩ v).setCell ⟨g, c, none⟩ x) (some g) :=
  have q := below_set3 w g a b c u v x
  ⟨q.os.trans h.os, q.tape.trans h.tape, q.output.trans h.output, Nat.le_trans h.size q.size, fun k hk hne => by
    have hkg : k ≠ g := fun e => hne (by rw [e])
    rw [Below.heap_setCell _ _ _ k hkg, Below.heap_setCell _ _ _ k hkg, Below.heap_setCell _ _ _ k hkg]; exact h.block k hk hne⟩
theorem grown_drew {w0 w : World} {r : Option Nat} (h : w0.grownBy w r) : w0.grownBy w.drew r := ⟨h.os, h.tape, h.output, h.size, h.block⟩
theorem grown_call {w0 w w' : World} {r : Option Nat} (h : w0.grownBy w r) (hb : Below w.heap.size w w') : w0.grownBy w' r :=
  ⟨hb.os.trans h.os, hb.tape.trans h.tape, hb.output.trans h.output, Nat.le_trans h.size hb.size, fun k hk hne => (hb.block k (Nat.lt_of_lt_of_le hk h.size)).trans (h.block k hk hne)⟩
theorem rd_set_ne {w : World} {g o n sz c n0 : Nat} {xs : List Value} {p : Addr} (h : Rd w (.slice (some ⟨g, o, none⟩) n c) n0 sz xs) (hne : g ≠ p.block) (u : Value) : Rd (w.setCell p u) (.slice (some ⟨g, o, none⟩) n c) n0 sz xs := by
  refine ⟨h.1, ?_⟩
  rcases h.2 with h0 | ⟨b, off, cap, hv, hb, h3, h4, h5⟩
  · exact .inl h0
  · refine .inr ⟨b, off, cap, hv, by simpa using hb, h3, h4, fun j v hj => ?_⟩
    injection hv with hv1 hv2 hv3
    injection hv1 with hv1
    injection hv1 with e1 e2 e3
    exact (World.cell?_setCell_other _ _ _ _ (fun e => hne (by rw [e, e1]))).trans (h5 j v hj)
theorem own_E3 {w : World} {base : Nat} {t : TypeId} {v : Value} {xs : List E3} {m : Nat} (h : OwnE w base t v E3.cs 3 xs) (hl : xs.length = m) (hm : 0 < m) : ∃ g cap, v = .slice (some ⟨g, 0, none⟩) m cap ∧ base ≤ g ∧ g < w.heap.size := by
  obtain ⟨g, cap, rfl⟩ := Go.Joins.ownsRow_form h (by omega)
  have := h.lt g rfl
  exact ⟨g, cap, by rw [hl], this.1, this.2⟩
end Go.Proofs.Ytdkfoleippncnaa
namespace Go.Proofs.Ytdkfoleippncnaa
set_option linter.unusedSimpArgs false
set_option linter.unusedVariables false
set_option linter.unnecessarySimpa false
set_option maxRecDepth 200000
open Go.ChangeShapes Go.WideShapes Go.ChangeAt Go.RowKit

theorem same_no1 {xs ys zs us : List E3} {m k : Nat} (hx : xs.length = m) (hy : ys.length = m) (hk : k < m) (he : ¬ xs.getD k ⟨0, 0, 0⟩ = ys.getD k ⟨0, 0, 0⟩) : false = decide (xs = ys ∧ zs = us) := by
  symm; rw [decide_eq_false_iff_not]; rintro ⟨rfl, _⟩; exact he rfl
theorem same_no2 {xs ys zs us : List E3} {m k : Nat} (hx : zs.length = m) (hy : us.length = m) (hk : k < m) (he : ¬ zs.getD k ⟨0, 0, 0⟩ = us.getD k ⟨0, 0, 0⟩) : false = decide (xs = ys ∧ zs = us) := by
  symm; rw [decide_eq_false_iff_not]; rintro ⟨_, rfl⟩; exact he rfl
def SameTo (xs ys : List E3) (k : Nat) : Prop := ∀ j, j < k → xs.getD j ⟨0, 0, 0⟩ = ys.getD j ⟨0, 0, 0⟩
theorem SameTo.next {xs ys : List E3} {k : Nat} (h : SameTo xs ys k) (h2 : xs.getD k ⟨0, 0, 0⟩ = ys.getD k ⟨0, 0, 0⟩) : SameTo xs ys (k + 1) := by
  intro j hj
  by_cases e : j = k
  · subst e; exact h2
  · exact h j (by omega)
theorem SameTo.all {xs ys : List E3} {m : Nat} (h : SameTo xs ys m) (hx : xs.length = m) (hy : ys.length = m) : xs = ys := by
  apply List.ext_getElem (by omega)
  intro i h1 h2
  have := h i (by omega)
  simpa [List.getD, h1, h2] using this
theorem E3.eq_of {x y : E3} (h : (x.a == y.a) = true) (h1 : (x.b == y.b) = true) (h2 : (x.c == y.c) = true) : x = y := by
  cases x; cases y; simp only [E3.mk.injEq]; exact ⟨LawfulBEq.eq_of_beq h, LawfulBEq.eq_of_beq h1, LawfulBEq.eq_of_beq h2⟩
theorem e3_at {w : World} {v : Value} {L : List E3} {m : Nat} (h : RdE w v E3.cs 3 L) (hm : L.length = m) : ∃ A c, v = .slice A m c ∧ Hid (∀ k, k < m → ∃ b off, A = some ⟨b, off, none⟩ ∧ b < w.heap.size ∧ w.cell? ⟨b, off + k * 3, none⟩ = some (.int .i64 (L.getD k ⟨0, 0, 0⟩).a) ∧ w.cell? ⟨b, off + k * 3 + 1, none⟩ = some (.int .i64 (L.getD k ⟨0, 0, 0⟩).b) ∧ w.cell? ⟨b, off + k * 3 + 2, none⟩ = some (.int .i64 (L.getD k ⟨0, 0, 0⟩).c)) := by
  subst hm
  rcases h.cases0 E3.len with ⟨he, A, c, rfl⟩ | ⟨hpos, b, off, cap, rfl, hb1, hcap, hcm, hcs⟩
  · exact ⟨A, c, by rw [he]; rfl, fun k hk => absurd hk (by rw [he]; simp)⟩
  · refine ⟨_, _, rfl, fun k hk => ⟨b, off, rfl, hb1, ?_⟩⟩
    have e : L.getD k ⟨0, 0, 0⟩ = L[k] := by simp [List.getD, hk]
    rw [e]
    exact ⟨hcs k hk 0 _ (by omega) rfl, hcs k hk 1 _ (by omega) rfl, hcs k hk 2 _ (by omega) rfl⟩
set_option maxHeartbeats 8000000 in
theorem spec_l8Same_any (m : Nat) (xs zs ys us : List E3) (v0 v1 u0 u1 : Value) (w : World) (hm : m ≤ 5) (lx : xs.length = m) (lz : zs.length = m) (ly : ys.length = m) (lu : us.length = m) (h0 : RdE w v0 E3.cs 3 xs) (h1 : RdE w v1 E3.cs 3 zs) (k0 : RdE w u0 E3.cs 3 ys) (k1 : RdE w u1 E3.cs 3 us) :
    Calls Try.prog 41 #[.agg #[.int .i64 (m : Int), v0, v1], .agg #[.int .i64 (m : Int), u0, u1]] w fun e w' => e = .returned (.bool (decide (xs = ys ∧ zs = us))) ∧ Below w.heap.size w w' := by
  obtain ⟨A, cA, rfl, HA⟩ := e3_at h0 lx
  obtain ⟨B, cB, rfl, HB⟩ := e3_at h1 lz
  obtain ⟨C, cC, rfl, HC⟩ := e3_at k0 ly
  obtain ⟨D, cD, rfl, HD⟩ := e3_at k1 lu
  have LX := Lib.hid lx; have LZ := Lib.hid lz; have LY := Lib.hid ly; have LU := Lib.hid lu
  clear h0 h1 k0 k1 lx lz ly lu
  go_enter Try.func41, Try.ntmps41
  go_wp2_with fail
  obtain ⟨W0, hW0⟩ : ∃ W0, W0 = ((w.alloc (.cells #[.int .i64 (m : Int), .slice A m cA, .slice B m cB] 79)).alloc (.cells #[.int .i64 (m : Int), .slice C m cC, .slice D m cD] 79)) := ⟨_, rfl⟩
  have BW := Lib.hid (show Below w.heap.size w W0 from by rw [hW0]; exact (by repeat (first | exact Below.refl _ _ | assumption | refine Below.drew ?_ | refine below_drewN ?_ _ | refine Below.alloc ?_ (by first | omega | (simp <;> omega)) _ | refine Below.setCell ?_ (by first | omega | (simp <;> omega)) _ | refine Below.trans ?_ (Below.mono (by assumption) (by first | omega | (simp <;> omega))))))
  have T0 := Lib.hid (show W0.cell? ⟨w.heap.size, 0, none⟩ = some (.int .i64 (m : Int)) from by rw [hW0]; exact (by repeat (first | (refine Eq.trans (World.cell?_alloc_at _ _ _ _ ?hh) ?_; (case hh => (simp; done)); rfl) | refine cell_alloc_keep _ ?_)))
  have T1 := Lib.hid (show W0.cell? ⟨w.heap.size, 1, none⟩ = some (.slice A m cA) from by rw [hW0]; exact (by repeat (first | (refine Eq.trans (World.cell?_alloc_at _ _ _ _ ?hh) ?_; (case hh => (simp; done)); rfl) | refine cell_alloc_keep _ ?_)))
  have T2 := Lib.hid (show W0.cell? ⟨w.heap.size, 2, none⟩ = some (.slice B m cB) from by rw [hW0]; exact (by repeat (first | (refine Eq.trans (World.cell?_alloc_at _ _ _ _ ?hh) ?_; (case hh => (simp; done)); rfl) | refine cell_alloc_keep _ ?_)))
  have S0 := Lib.hid (show W0.cell? ⟨w.heap.size + 1, 0, none⟩ = some (.int .i64 (m : Int)) from by rw [hW0]; exact (by repeat (first | (refine Eq.trans (World.cell?_alloc_at _ _ _ _ ?hh) ?_; (case hh => (simp; done)); rfl) | refine cell_alloc_keep _ ?_)))
  have S1 := Lib.hid (show W0.cell? ⟨w.heap.size + 1, 1, none⟩ = some (.slice C m cC) from by rw [hW0]; exact (by repeat (first | (refine Eq.trans (World.cell?_alloc_at _ _ _ _ ?hh) ?_; (case hh => (simp; done)); rfl) | refine cell_alloc_keep _ ?_)))
  have S2 := Lib.hid (show W0.cell? ⟨w.heap.size + 1, 2, none⟩ = some (.slice D m cD) from by rw [hW0]; exact (by repeat (first | (refine Eq.trans (World.cell?_alloc_at _ _ _ _ ?hh) ?_; (case hh => (simp; done)); rfl) | refine cell_alloc_keep _ ?_)))
  rw [← hW0]
  clear hW0
  go_loopw [5] (fun i wr => ∃ k : Nat, k ≤ m ∧ i = .int .i64 k ∧ Hid (SameTo xs ys k) ∧ Hid (SameTo zs us k) ∧ Hid (Below W0.heap.size W0 wr)) (fun i _ => m - (intOf i).toNat)
  case atStart => exact ⟨0, Nat.zero_le _, rfl, (show SameTo _ _ _ from fun q hq => absurd hq (Nat.not_lt_zero _)), (show SameTo _ _ _ from fun q hq => absurd hq (Nat.not_lt_zero _)), (show Below _ _ _ from Below.refl _ _)⟩
  case round =>
    obtain ⟨k, hk, rfl, hsx, hsz, hbel⟩ := hrel
    have t0 := below_cell hbel.out rfl T0.out
    have t1 := below_cell hbel.out rfl T1.out
    have t2 := below_cell hbel.out rfl T2.out
    have s0 := below_cell hbel.out rfl S0.out
    have s1 := below_cell hbel.out rfl S1.out
    have s2 := below_cell hbel.out rfl S2.out
    have bw := Lib.hid (show Below w.heap.size w wr from Below.trans BW.out (hbel.out.mono BW.out.size))
    by_cases hlt : k < m
    · have i1 : (k : Int) < (m : Int) := by omega
      have i2 : (0 : Int) ≤ (k : Int) := by omega
      obtain ⟨ga, offa, rfl, hga, a0, a1, a2⟩ := HA.out k hlt
      obtain ⟨gb, offb, rfl, hgb, b0, b1, b2⟩ := HB.out k hlt
      obtain ⟨gc, offc, rfl, hgc, c0, c1, c2⟩ := HC.out k hlt
      obtain ⟨gd, offd, rfl, hgd, d0, d1, d2⟩ := HD.out k hlt
      replace a0 := (bw.out.cell hga).trans a0; replace a1 := (bw.out.cell hga).trans a1; replace a2 := (bw.out.cell hga).trans a2
      replace b0 := (bw.out.cell hgb).trans b0; replace b1 := (bw.out.cell hgb).trans b1; replace b2 := (bw.out.cell hgb).trans b2
      replace c0 := (bw.out.cell hgc).trans c0; replace c1 := (bw.out.cell hgc).trans c1; replace c2 := (bw.out.cell hgc).trans c2
      replace d0 := (bw.out.cell hgd).trans d0; replace d1 := (bw.out.cell hgd).trans d1; replace d2 := (bw.out.cell hgd).trans d2
      have NX := Lib.hid (fun he => same_no1 (zs := zs) (us := us) (k := k) LX.out LY.out hlt he)
      have NZ := Lib.hid (fun he => same_no2 (xs := xs) (ys := ys) (k := k) LZ.out LU.out hlt he)
      have YX := Lib.hid (fun he => SameTo.next (k := k) hsx.out he)
      have YZ := Lib.hid (fun he => SameTo.next (k := k) hsz.out he)
      obtain ⟨x, hx⟩ : ∃ x, x = xs.getD k ⟨0, 0, 0⟩ := ⟨_, rfl⟩
      obtain ⟨z, hz⟩ : ∃ x, x = zs.getD k ⟨0, 0, 0⟩ := ⟨_, rfl⟩
      obtain ⟨y, hy⟩ : ∃ x, x = ys.getD k ⟨0, 0, 0⟩ := ⟨_, rfl⟩
      obtain ⟨u, hu⟩ : ∃ x, x = us.getD k ⟨0, 0, 0⟩ := ⟨_, rfl⟩
      rw [← hx] at a0 a1 a2 NX YX; rw [← hz] at b0 b1 b2 NZ YZ; rw [← hy] at c0 c1 c2 NX YX; rw [← hu] at d0 d1 d2 NZ YZ
      clear hx hz hy hu HA HB HC HD hsx hsz
      rcases eqcase_Pauli x y with q0 | ⟨q0, q1⟩ | ⟨q0, q1, q2⟩ | ⟨q0, q1, q2⟩
      · go_wp2_with fail
        go_quiet (fail)
        go_wp2_with fail
        go_ret
        exact ⟨ret_bool (NX.out (by intro e; subst e; simp at q0)), Below.trans BW.out ((show Below W0.heap.size W0 _ from Below.trans hbel.out (show Below W0.heap.size wr _ from (by repeat (first | exact Below.refl _ _ | assumption | refine Below.drew ?_ | refine below_drewN ?_ _ | refine Below.alloc ?_ (by first | omega | (simp <;> omega)) _ | refine Below.setCell ?_ (by first | omega | (simp <;> omega)) _ | refine Below.trans ?_ (Below.mono (by assumption) (by first | omega | (simp <;> omega))))))).mono BW.out.size)⟩
      · go_wp2_with fail
        go_quiet (fail)
        go_wp2_with fail
        go_ret
        exact ⟨ret_bool (NX.out (by intro e; subst e; simp at q1)), Below.trans BW.out ((show Below W0.heap.size W0 _ from Below.trans hbel.out (show Below W0.heap.size wr _ from (by repeat (first | exact Below.refl _ _ | assumption | refine Below.drew ?_ | refine below_drewN ?_ _ | refine Below.alloc ?_ (by first | omega | (simp <;> omega)) _ | refine Below.setCell ?_ (by first | omega | (simp <;> omega)) _ | refine Below.trans ?_ (Below.mono (by assumption) (by first | omega | (simp <;> omega))))))).mono BW.out.size)⟩
      · go_wp2_with fail
        go_quiet (fail)
        go_wp2_with fail
        go_ret
        exact ⟨ret_bool (NX.out (by intro e; subst e; simp at q2)), Below.trans BW.out ((show Below W0.heap.size W0 _ from Below.trans hbel.out (show Below W0.heap.size wr _ from (by repeat (first | exact Below.refl _ _ | assumption | refine Below.drew ?_ | refine below_drewN ?_ _ | refine Below.alloc ?_ (by first | omega | (simp <;> omega)) _ | refine Below.setCell ?_ (by first | omega | (simp <;> omega)) _ | refine Below.trans ?_ (Below.mono (by assumption) (by first | omega | (simp <;> omega))))))).mono BW.out.size)⟩
      · have EX := Lib.hid (YX.out (E3.eq_of q0 q1 q2))
        rcases eqcase_Pauli z u with p0 | ⟨p0, p1⟩ | ⟨p0, p1, p2⟩ | ⟨p0, p1, p2⟩
        · go_wp2_with fail
          go_quiet (fail)
          go_wp2_with fail
          go_ret
          exact ⟨ret_bool (NZ.out (by intro e; subst e; simp at p0)), Below.trans BW.out ((show Below W0.heap.size W0 _ from Below.trans hbel.out (show Below W0.heap.size wr _ from (by repeat (first | exact Below.refl _ _ | assumption | refine Below.drew ?_ | refine below_drewN ?_ _ | refine Below.alloc ?_ (by first | omega | (simp <;> omega)) _ | refine Below.setCell ?_ (by first | omega | (simp <;> omega)) _ | refine Below.trans ?_ (Below.mono (by assumption) (by first | omega | (simp <;> omega))))))).mono BW.out.size)⟩
        · go_wp2_with fail
          go_quiet (fail)
          go_wp2_with fail
          go_ret
          exact ⟨ret_bool (NZ.out (by intro e; subst e; simp at p1)), Below.trans BW.out ((show Below W0.heap.size W0 _ from Below.trans hbel.out (show Below W0.heap.size wr _ from (by repeat (first | exact Below.refl _ _ | assumption | refine Below.drew ?_ | refine below_drewN ?_ _ | refine Below.alloc ?_ (by first | omega | (simp <;> omega)) _ | refine Below.setCell ?_ (by first | omega | (simp <;> omega)) _ | refine Below.trans ?_ (Below.mono (by assumption) (by first | omega | (simp <;> omega))))))).mono BW.out.size)⟩
        · go_wp2_with fail
          go_quiet (fail)
          go_wp2_with fail
          go_ret
          exact ⟨ret_bool (NZ.out (by intro e; subst e; simp at p2)), Below.trans BW.out ((show Below W0.heap.size W0 _ from Below.trans hbel.out (show Below W0.heap.size wr _ from (by repeat (first | exact Below.refl _ _ | assumption | refine Below.drew ?_ | refine below_drewN ?_ _ | refine Below.alloc ?_ (by first | omega | (simp <;> omega)) _ | refine Below.setCell ?_ (by first | omega | (simp <;> omega)) _ | refine Below.trans ?_ (Below.mono (by assumption) (by first | omega | (simp <;> omega))))))).mono BW.out.size)⟩
        · have EZ := Lib.hid (YZ.out (E3.eq_of p0 p1 p2))
          go_wp2_with fail
          go_quiet (fail)
          go_wp2_with fail
          go_roundw
          case rel => exact ⟨k + 1, by omega, by go_num, EX.out, EZ.out, (show Below _ _ _ from Below.trans hbel.out (show Below W0.heap.size wr _ from (by repeat (first | exact Below.refl _ _ | assumption | refine Below.drew ?_ | refine below_drewN ?_ _ | refine Below.alloc ?_ (by first | omega | (simp <;> omega)) _ | refine Below.setCell ?_ (by first | omega | (simp <;> omega)) _ | refine Below.trans ?_ (Below.mono (by assumption) (by first | omega | (simp <;> omega)))))))⟩
          case measure => simp [intOf]; omega
    · have e : k = m := by omega
      have R := Lib.hid (show true = decide (xs = ys ∧ zs = us) from by
        subst e
        exact (decide_eq_true ⟨hsx.out.all LX.out LY.out, hsz.out.all LZ.out LU.out⟩).symm)
      clear e
      go_wp2_with fail
      (try go_quiet (fail))
      (try go_wp2_with fail)
      go_ret
      exact ⟨ret_bool R.out, bw.out⟩
set_option maxHeartbeats 4000000 in
theorem impl_equalTableaux_any (n : Int) (xs zs ys us : List E3) (v0 v1 u0 u1 : Value) (w : World) (h0 : RdE w v0 E3.cs 3 xs) (h1 : RdE w v1 E3.cs 3 zs) (k0 : RdE w u0 E3.cs 3 ys) (k1 : RdE w u1 E3.cs 3 us) :
    Calls Try.prog 45 #[.agg #[.int .i64 n, v0, v1], .agg #[.int .i64 n, u0, u1]] w fun e w' => e = .returned (.bool (decide (xs = ys ∧ zs = us))) ∧ Below w.heap.size w w' := by
  have H0 := Lib.hid h0; have H1 := Lib.hid h1; have K0 := Lib.hid k0; have K1 := Lib.hid k1
  obtain ⟨A, cA, rfl, _⟩ := h0.form
  obtain ⟨B, cB, rfl, _⟩ := h1.form
  obtain ⟨C, cC, rfl, _⟩ := k0.form
  obtain ⟨D, cD, rfl, _⟩ := k1.form
  clear h0 h1 k0 k1
  by_cases hx : xs = ys
  · have HX := Lib.hid (show decide (xs = ys) = true from decide_eq_true hx)
    have HR := Lib.hid (show decide (zs = us) = decide (xs = ys ∧ zs = us) from by simp [hx])
    clear hx
    go_enter Try.func45, Try.ntmps45
    go_wp2_with fail
    refine (slices_Equal_Pauli _ _ xs ys _ (Rd.below H0.out (show Below w.heap.size w _ from (by repeat (first | exact Below.refl _ _ | assumption | refine Below.drew ?_ | refine below_drewN ?_ _ | refine Below.alloc ?_ (by first | omega | (simp <;> omega)) _ | refine Below.setCell ?_ (by first | omega | (simp <;> omega)) _ | refine Below.trans ?_ (Below.mono (by assumption) (by first | omega | (simp <;> omega)))))) rfl) (Rd.below K0.out (show Below w.heap.size w _ from (by repeat (first | exact Below.refl _ _ | assumption | refine Below.drew ?_ | refine below_drewN ?_ _ | refine Below.alloc ?_ (by first | omega | (simp <;> omega)) _ | refine Below.setCell ?_ (by first | omega | (simp <;> omega)) _ | refine Below.trans ?_ (Below.mono (by assumption) (by first | omega | (simp <;> omega)))))) rfl)).mono ?_; rintro e w1 ⟨rfl, hb1⟩; rw [HX.out]
    obtain ⟨hc_hb1, hf_hb1⟩ := bcell hb1; have hz_hb1 := hb1.size; (try simp at hz_hb1); have hs0_hb1 : w.heap.size < w1.heap.size := (by omega); have hs1_hb1 : w.heap.size + 1 < w1.heap.size := (by omega)
    go_wp2_with fail
    refine (slices_Equal_Pauli _ _ zs us _ (Rd.below H1.out (show Below w.heap.size w _ from (by repeat (first | exact Below.refl _ _ | assumption | refine Below.drew ?_ | refine below_drewN ?_ _ | refine Below.alloc ?_ (by first | omega | (simp <;> omega)) _ | refine Below.setCell ?_ (by first | omega | (simp <;> omega)) _ | refine Below.trans ?_ (Below.mono (by assumption) (by first | omega | (simp <;> omega)))))) rfl) (Rd.below K1.out (show Below w.heap.size w _ from (by repeat (first | exact Below.refl _ _ | assumption | refine Below.drew ?_ | refine below_drewN ?_ _ | refine Below.alloc ?_ (by first | omega | (simp <;> omega)) _ | refine Below.setCell ?_ (by first | omega | (simp <;> omega)) _ | refine Below.trans ?_ (Below.mono (by assumption) (by first | omega | (simp <;> omega)))))) rfl)).mono ?_; rintro e w2 ⟨rfl, hb2⟩
    obtain ⟨hc_hb2, hf_hb2⟩ := bcell hb2; have hz_hb2 := hb2.size; (try simp at hz_hb2); have hs0_hb2 : w.heap.size < w2.heap.size := (by omega); have hs1_hb2 : w.heap.size + 1 < w2.heap.size := (by omega)
    go_wp2_with fail
    go_ret
    exact ⟨ret_bool HR.out, (by repeat (first | exact Below.refl _ _ | assumption | refine Below.drew ?_ | refine below_drewN ?_ _ | refine Below.alloc ?_ (by first | omega | (simp <;> omega)) _ | refine Below.setCell ?_ (by first | omega | (simp <;> omega)) _ | refine Below.trans ?_ (Below.mono (by assumption) (by first | omega | (simp <;> omega)))))⟩
  · have HX := Lib.hid (show decide (xs = ys) = false from decide_eq_false hx)
    have HR := Lib.hid (show false = decide (xs = ys ∧ zs = us) from by simp [hx])
    clear hx
    go_enter Try.func45, Try.ntmps45
    go_wp2_with fail
    refine (slices_Equal_Pauli _ _ xs ys _ (Rd.below H0.out (show Below w.heap.size w _ from (by repeat (first | exact Below.refl _ _ | assumption | refine Below.drew ?_ | refine below_drewN ?_ _ | refine Below.alloc ?_ (by first | omega | (simp <;> omega)) _ | refine Below.setCell ?_ (by first | omega | (simp <;> omega)) _ | refine Below.trans ?_ (Below.mono (by assumption) (by first | omega | (simp <;> omega)))))) rfl) (Rd.below K0.out (show Below w.heap.size w _ from (by repeat (first | exact Below.refl _ _ | assumption | refine Below.drew ?_ | refine below_drewN ?_ _ | refine Below.alloc ?_ (by first | omega | (simp <;> omega)) _ | refine Below.setCell ?_ (by first | omega | (simp <;> omega)) _ | refine Below.trans ?_ (Below.mono (by assumption) (by first | omega | (simp <;> omega)))))) rfl)).mono ?_; rintro e w1 ⟨rfl, hb1⟩; rw [HX.out]
    obtain ⟨hc_hb1, hf_hb1⟩ := bcell hb1; have hz_hb1 := hb1.size; (try simp at hz_hb1); have hs0_hb1 : w.heap.size < w1.heap.size := (by omega); have hs1_hb1 : w.heap.size + 1 < w1.heap.size := (by omega)
    go_wp2_with fail
    go_ret
    exact ⟨ret_bool HR.out, (by repeat (first | exact Below.refl _ _ | assumption | refine Below.drew ?_ | refine below_drewN ?_ _ | refine Below.alloc ?_ (by first | omega | (simp <;> omega)) _ | refine Below.setCell ?_ (by first | omega | (simp <;> omega)) _ | refine Below.trans ?_ (Below.mono (by assumption) (by first | omega | (simp <;> omega)))))⟩
end Go.Proofs.Ytdkfoleippncnaa
namespace Go.Proofs.Ytdkfoleippncnaa
set_option linter.unusedSimpArgs false
set_option linter.unusedVariables false
set_option linter.unnecessarySimpa false
set_option maxRecDepth 200000
open Go.ChangeShapes Go.WideShapes Go.ChangeAt Go.RowKit

attribute [local go_sem ↓] Go.wp_at_zero Go.wp_at_succ
set_option maxHeartbeats 8000000 in
theorem impl_identity_any (n : Int) (w : World) (h0 : 0 ≤ n) (h1 : n ≤ 60) :
    Calls Try.prog 90 #[.int .i64 n] w fun e w' => ∃ u0 u1, e = .returned (.agg #[.int .i64 n, u0, u1]) ∧ OwnE w' w.heap.size 121 u0 E3.cs 3 (idX n.toNat) ∧ OwnE w' w.heap.size 121 u1 E3.cs 3 (idZ n.toNat) ∧ Apart u0 u1 ∧ Below w.heap.size w w' := by
  obtain ⟨m, rfl⟩ := Int.eq_ofNat_of_zero_le h0
  rw [Int.toNat_natCast]
  obtain ⟨i0, hi, hz0, hz1, hz2⟩ := info_parts info_Pauli
  go_enter Try.func90, Try.ntmps90
  go_wp2_with fail
  go_loopw [8] (fun i wr => ∃ (k : Nat) (vx vz : Value), k ≤ m ∧ i = .int .i64 k ∧ wr.cell? ⟨w.heap.size + 1, 0, none⟩ = some (.int .i64 m) ∧ wr.cell? ⟨w.heap.size + 1, 1, none⟩ = some vx ∧ wr.cell? ⟨w.heap.size + 1, 2, none⟩ = some vz ∧ wr.frozen? ⟨w.heap.size + 1, 1, none⟩ = false ∧ wr.frozen? ⟨w.heap.size + 1, 2, none⟩ = false ∧ Hid (wr.ownsRow (w.heap.size + 2) 121 3 vx k ((idX k).flatMap E3.cs)) ∧ Hid (wr.ownsRow (w.heap.size + 2) 121 3 vz k ((idZ k).flatMap E3.cs)) ∧ Hid (Apart vx vz) ∧ Below (w.heap.size + 1) (w.alloc (.cells #[.int .i64 0, .slice none 0 0, .slice none 0 0] 79)) wr ∧ w.heap.size + 2 ≤ wr.heap.size) (fun i _ => m - (intOf i).toNat)
  case atStart => exact ⟨0, .slice none 0 0, .slice none 0 0, Nat.zero_le _, rfl, by simp, by simp, by simp, by simp, by simp, World.ownsRow_nil _ _ _ _, World.ownsRow_nil _ _ _ _, apart_nil _, (by repeat (first | exact Below.refl _ _ | assumption | refine Below.drew ?_ | refine below_drewN ?_ _ | refine Below.alloc ?_ (by first | omega | (simp <;> omega)) _ | refine Below.setCell ?_ (by first | omega | (simp <;> omega)) _ | refine Below.trans ?_ (Below.mono (by assumption) (by first | omega | (simp <;> omega))))), by simp⟩
  case round =>
    obtain ⟨k, vx, vz, hk, rfl, c0, c1, c2, f1, f2, hox, hoz, hap, hbel, hsz⟩ := hrel
    by_cases hlt : k < m
    · have i1 : (k : Int) < (m : Int) := by omega
      obtain ⟨p1, p2⟩ := pow_small k (by omega)
      have hw : IntKind.i64.wrap ((2 : Int) ^ k) = (2 : Int) ^ k := IntWalk.i64_in _ (by omega)
      go_wp2_with fail
      refine AnyB.begin (S := (fun w' => w'.cell? ⟨w.heap.size + 1, 1, none⟩ = some vx ∧ w'.cell? ⟨w.heap.size + 1, 2, none⟩ = some vz)) [15, 17] (by kernel_rfl) ?_ (fun hHeld0 => ?_)
      · ((try dsimp only); (first | exact ⟨c1, c2⟩ | (go_split_ands; exact ⟨cell_alloc_keep _ (by assumption), cell_alloc_keep _ (by assumption)⟩)))
      refine AnyB.takeQ (i := 0) (oi := _) (v := ?_) (by simp only [List.getElem?_toArray, List.getElem?_cons_zero, List.getElem?_cons_succ]; rfl) (by kernel_rfl) (by kernel_rfl) (by kernel_rfl) (by intro _ _ _ h; exact h) (Or.inl ⟨by rfl, ?_⟩) ?_
      rotate_left
      · (intro w hSw; (try dsimp only at hSw); go_simp; (try (with_reducible rfl)))
      try simp only [Act.put, List.setIfInBounds_toArray, List.set_cons_zero, List.set_cons_succ]
      refine AnyB.take (i := 1) (oi := _) (v := ?_) (by simp only [List.getElem?_toArray, List.getElem?_cons_zero, List.getElem?_cons_succ]; rfl) (by kernel_rfl) (by kernel_rfl) (by kernel_rfl) (by kernel_rfl) (by kernel_rfl) (by intro _ _ _ h; exact h) (Or.inl ⟨by rfl, ?_⟩) (by assumption) ?_
      rotate_left
      · (intro w hSw; (try dsimp only at hSw); go_simp; (try (with_reducible rfl)))
      try simp only [Act.put, List.setIfInBounds_toArray, List.set_cons_zero, List.set_cons_succ]
      refine AnyB.takeQ (i := 2) (oi := _) (v := ?_) (by simp only [List.getElem?_toArray, List.getElem?_cons_zero, List.getElem?_cons_succ]; rfl) (by kernel_rfl) (by kernel_rfl) (by kernel_rfl) (by intro _ _ _ h; exact h) (Or.inl ⟨by rfl, ?_⟩) ?_
      rotate_left
      · (intro w hSw; (try dsimp only at hSw); go_simp; (try (with_reducible rfl)))
      try simp only [Act.put, List.setIfInBounds_toArray, List.set_cons_zero, List.set_cons_succ]
      refine AnyB.takeQ (i := 3) (oi := _) (v := ?_) (by simp only [List.getElem?_toArray, List.getElem?_cons_zero, List.getElem?_cons_succ]; rfl) (by kernel_rfl) (by kernel_rfl) (by kernel_rfl) (by intro _ _ _ h; exact h) (Or.inl ⟨by rfl, ?_⟩) ?_
      rotate_left
      · (intro w hSw; (try dsimp only at hSw); go_simp; (try (with_reducible rfl)))
      try simp only [Act.put, List.setIfInBounds_toArray, List.set_cons_zero, List.set_cons_succ]
      refine AnyB.takeQ (i := 4) (oi := _) (v := ?_) (by simp only [List.getElem?_toArray, List.getElem?_cons_zero, List.getElem?_cons_succ]; rfl) (by kernel_rfl) (by kernel_rfl) (by kernel_rfl) (by intro _ _ _ h; exact h) (Or.inl ⟨by rfl, ?_⟩) ?_
      rotate_left
      · (intro w hSw; (try dsimp only at hSw); go_simp; (try (with_reducible rfl)))
      try simp only [Act.put, List.setIfInBounds_toArray, List.set_cons_zero, List.set_cons_succ]
      refine AnyB.takeQ (i := 7) (oi := _) (v := ?_) (by simp only [List.getElem?_toArray, List.getElem?_cons_zero, List.getElem?_cons_succ]; rfl) (by kernel_rfl) (by kernel_rfl) (by kernel_rfl) (by intro _ _ _ h; exact h) (Or.inl ⟨by rfl, ?_⟩) ?_
      rotate_left
      · (intro w hSw; (try dsimp only at hSw); go_simp; (try (with_reducible rfl)))
      try simp only [Act.put, List.setIfInBounds_toArray, List.set_cons_zero, List.set_cons_succ]
      refine AnyB.take (i := 8) (oi := _) (v := ?_) (by simp only [List.getElem?_toArray, List.getElem?_cons_zero, List.getElem?_cons_succ]; rfl) (by kernel_rfl) (by kernel_rfl) (by kernel_rfl) (by kernel_rfl) (by kernel_rfl) (by intro _ _ _ h; exact h) (Or.inl ⟨by rfl, ?_⟩) (by assumption) ?_
      rotate_left
      · (intro w hSw; (try dsimp only at hSw); go_simp; (try (with_reducible rfl)))
      try simp only [Act.put, List.setIfInBounds_toArray, List.set_cons_zero, List.set_cons_succ]
      refine AnyB.takeQ (i := 9) (oi := _) (v := ?_) (by simp only [List.getElem?_toArray, List.getElem?_cons_zero, List.getElem?_cons_succ]; rfl) (by kernel_rfl) (by kernel_rfl) (by kernel_rfl) (by intro _ _ _ h; exact h) (Or.inl ⟨by rfl, ?_⟩) ?_
      rotate_left
      · (intro w hSw; (try dsimp only at hSw); go_simp; (try (with_reducible rfl)))
      try simp only [Act.put, List.setIfInBounds_toArray, List.set_cons_zero, List.set_cons_succ]
      refine AnyB.takeQ (i := 10) (oi := _) (v := ?_) (by simp only [List.getElem?_toArray, List.getElem?_cons_zero, List.getElem?_cons_succ]; rfl) (by kernel_rfl) (by kernel_rfl) (by kernel_rfl) (by intro _ _ _ h; exact h) (Or.inl ⟨by rfl, ?_⟩) ?_
      rotate_left
      · (intro w hSw; (try dsimp only at hSw); go_simp; (try (with_reducible rfl)))
      try simp only [Act.put, List.setIfInBounds_toArray, List.set_cons_zero, List.set_cons_succ]
      refine AnyB.takeQ (i := 11) (oi := _) (v := ?_) (by simp only [List.getElem?_toArray, List.getElem?_cons_zero, List.getElem?_cons_succ]; rfl) (by kernel_rfl) (by kernel_rfl) (by kernel_rfl) (by intro _ _ _ h; exact h) (Or.inl ⟨by rfl, ?_⟩) ?_
      rotate_left
      · (intro w hSw; (try dsimp only at hSw); go_simp; (try (with_reducible rfl)))
      try simp only [Act.put, List.setIfInBounds_toArray, List.set_cons_zero, List.set_cons_succ]
      refine AnyB.each (rs := [5, 12]) (by kernel_rfl) (by simp) ?_
      refine EachB.cons rfl (fun K hK hB => ?_) ?_
      · skip
        go_simp
        refine hK.out _ _ ?_ (fun hHeld1 => ?_)
        · ((try dsimp only); (first | exact ⟨c1, c2⟩ | (go_split_ands; exact ⟨cell_alloc_keep _ (by assumption), cell_alloc_keep _ (by assumption)⟩)))
        clear hB hK K hHeld0
        refine AnyB.each (rs := [6, 12]) (by kernel_rfl) (by simp) ?_
        refine EachB.cons rfl (fun K hK hB => ?_) ?_
        · skip
          (refine step_append_lies _ (by rfl) (.tmp 12) (.tmp 16) 77 (by rfl) (w.heap.size + 2) 121 i0 (.agg #[.int .i64 0, .int .i64 0, .int .i64 0]) 3 24 Try.underlying77 hi hz0 hz1 hz2 rfl (by omega) vx k _ (by rfl) (own_below hox.out (by repeat (first | exact Below.refl _ _ | assumption | refine Below.drew ?_ | refine below_drewN ?_ _ | refine Below.alloc ?_ (by first | omega | (simp <;> omega)) _ | refine Below.setCell ?_ (by first | omega | (simp <;> omega)) _ | refine Below.trans ?_ (Below.mono (by assumption) (by first | omega | (simp <;> omega))))) rfl) _ 1 1 [.int .i64 0, .int .i64 (2 ^ k), .int .i64 0] (by rfl) (by rfl) (by repeat (first | ((with_reducible refine news_at _ _ _ _ ?_); (simp; done)) | (with_reducible refine news_drew ?_) | (with_reducible refine news_up _ ?_) | (with_reducible refine news_far hn2 (by simp) ?_))) (E3.one ⟨0, 2 ^ k, 0⟩) (by omega) (by unfold maxLen; omega) (by omega) (by first | omega | (simp; omega)) _ rfl ?_; intro g1 cp1 w1 hown1 hgr1 hat1 hlt1; obtain ⟨qo, qb, q1, q2, qc, qf, hn1⟩ := two_step (by repeat (first | exact Below.refl _ _ | assumption | refine Below.drew ?_ | refine below_drewN ?_ _ | refine Below.alloc ?_ (by first | omega | (simp <;> omega)) _ | refine Below.setCell ?_ (by first | omega | (simp <;> omega)) _ | refine Below.trans ?_ (Below.mono (by assumption) (by first | omega | (simp <;> omega))))) hox.out hoz.out hap.out hbel (by omega) hgr1; replace hap := Lib.hid (apart_app hap.out.symm (fun g hg => (Nat.lt_of_lt_of_le (hoz.out.lt g hg).2 q1)) hat1 (n := k + 1) (c := cp1)).symm; replace c0 := qc _ _ c0; replace c1 := qc _ _ c1; replace c2 := qc _ _ c2; replace f1 := qf _ f1; replace f2 := qf _ f2; replace hox := Lib.hid hown1; replace hoz := Lib.hid qo; replace hbel := qb; replace hsz := Nat.le_trans hsz (Nat.le_trans q1 q2); clear qo qb q1 q2 qc qf hown1 hgr1 hat1)
          refine hK.out _ _ ?_ (fun hHeld2 => ?_)
          · ((try dsimp only); (first | exact ⟨c1, c2⟩ | (go_split_ands; exact ⟨cell_alloc_keep _ (by assumption), cell_alloc_keep _ (by assumption)⟩)))
          clear hB hK K hHeld1
          refine AnyB.takeQ (i := 14) (oi := _) (v := ?_) (by simp only [List.getElem?_toArray, List.getElem?_cons_zero, List.getElem?_cons_succ]; rfl) (by kernel_rfl) (by kernel_rfl) (by kernel_rfl) (by intro _ _ _ h; exact h) (Or.inl ⟨by rfl, ?_⟩) ?_
          rotate_left
          · (intro w hSw; (try dsimp only at hSw); go_simp; (try (with_reducible rfl)))
          try simp only [Act.put, List.setIfInBounds_toArray, List.set_cons_zero, List.set_cons_succ]
          refine AnyB.each (rs := [12]) (by kernel_rfl) (by simp) ?_
          refine EachB.cons rfl (fun K hK hB => ?_) ?_
          · skip
            go_simp
            refine hK.out _ _ ?_ (fun hHeld3 => ?_)
            · ((try dsimp only); (first | exact ⟨c1, c2⟩ | (go_split_ands; exact ⟨cell_alloc_keep _ (by assumption), cell_alloc_keep _ (by assumption)⟩)))
            clear hB hK K hHeld2
            refine AnyB.each (rs := [13]) (by kernel_rfl) (by simp) ?_
            refine EachB.cons rfl (fun K hK hB => ?_) ?_
            · skip
              (refine step_append_lies _ (by rfl) (.tmp 19) (.tmp 23) 77 (by rfl) (w.heap.size + 2) 121 i0 (.agg #[.int .i64 0, .int .i64 0, .int .i64 0]) 3 24 Try.underlying77 hi hz0 hz1 hz2 rfl (by omega) vz k _ (by rfl) (own_below hoz.out (by repeat (first | exact Below.refl _ _ | assumption | refine Below.drew ?_ | refine below_drewN ?_ _ | refine Below.alloc ?_ (by first | omega | (simp <;> omega)) _ | refine Below.setCell ?_ (by first | omega | (simp <;> omega)) _ | refine Below.trans ?_ (Below.mono (by assumption) (by first | omega | (simp <;> omega))))) rfl) _ 1 1 [.int .i64 0, .int .i64 0, .int .i64 (2 ^ k)] (by rfl) (by rfl) (by repeat (first | ((with_reducible refine news_at _ _ _ _ ?_); (simp; done)) | (with_reducible refine news_drew ?_) | (with_reducible refine news_up _ ?_) | (with_reducible refine news_far hn1 (by simp) ?_))) (E3.one ⟨0, 0, 2 ^ k⟩) (by omega) (by unfold maxLen; omega) (by omega) (by first | omega | (simp; omega)) _ rfl ?_; intro g2 cp2 w2 hown2 hgr2 hat2 hlt2; obtain ⟨qo, qb, q1, q2, qc, qf, hn2⟩ := two_step (by repeat (first | exact Below.refl _ _ | assumption | refine Below.drew ?_ | refine below_drewN ?_ _ | refine Below.alloc ?_ (by first | omega | (simp <;> omega)) _ | refine Below.setCell ?_ (by first | omega | (simp <;> omega)) _ | refine Below.trans ?_ (Below.mono (by assumption) (by first | omega | (simp <;> omega))))) hoz.out hox.out hap.out.symm hbel (by omega) hgr2; replace hap := Lib.hid (apart_app hap.out (fun g hg => (Nat.lt_of_lt_of_le (hox.out.lt g hg).2 q1)) hat2 (n := k + 1) (c := cp2)); replace c0 := qc _ _ c0; replace c1 := qc _ _ c1; replace c2 := qc _ _ c2; replace f1 := qf _ f1; replace f2 := qf _ f2; replace hoz := Lib.hid hown2; replace hox := Lib.hid qo; replace hbel := qb; replace hsz := Nat.le_trans hsz (Nat.le_trans q1 q2); clear qo qb q1 q2 qc qf hown2 hgr2 hat2)
              refine hK.out _ _ ?_ (fun hHeld4 => ?_)
              · ((try dsimp only); (first | exact ⟨c1, c2⟩ | (go_split_ands; exact ⟨cell_alloc_keep _ (by assumption), cell_alloc_keep _ (by assumption)⟩)))
              clear hB hK K hHeld3
              refine AnyB.each (rs := [15]) (by kernel_rfl) (by simp) ?_
              refine EachB.cons rfl (fun K hK hB => ?_) ?_
              · skip
                go_simp
                refine hB.out _ _ rfl ?_
                clear hB hK K
                refine AnyB.takeQ (i := 16) (oi := _) (v := ?_) (by simp only [List.getElem?_toArray, List.getElem?_cons_zero, List.getElem?_cons_succ]; rfl) (by kernel_rfl) (by kernel_rfl) (by kernel_rfl) (by intro _ _ _ h; exact h) (Or.inl ⟨by rfl, ?_⟩) ?_
                rotate_left
                · (intro w hSw; (try dsimp only at hSw); go_simp; (try (with_reducible rfl)))
                try simp only [Act.put, List.setIfInBounds_toArray, List.set_cons_zero, List.set_cons_succ]
                refine AnyB.each (rs := [17]) (by kernel_rfl) (by simp) ?_
                refine EachB.cons rfl (fun K hK hB => ?_) ?_
                · skip
                  go_simp
                  refine hB.out _ _ rfl ?_
                  clear hB hK K
                  refine AnyB.none (by kernel_rfl) ?_ _
                  go_wp2_with fail
                  go_roundw
                  case rel =>
                    refine ⟨k + 1, .slice (some ⟨g1, 0, none⟩) (k + 1) cp1, .slice (some ⟨g2, 0, none⟩) (k + 1) cp2, by omega, by go_num, cell_set_other (cell_set_other c0), cell_set_other (World.cell?_setCell_same _ _ _ c1), World.cell?_setCell_same _ _ _ (cell_set_other c2), by rw [World.frozen?_setCell, World.frozen?_setCell]; exact f1, by rw [World.frozen?_setCell, World.frozen?_setCell]; exact f2, ?_, ?_, hap, Below.setCell (Below.setCell hbel (by simp) _) (by simp) _, by simp; omega⟩
                    · show World.ownsRow _ _ _ _ _ _ _
                      rw [idX_succ, List.flatMap_append]
                      exact ownsRow_setCell_below (ownsRow_setCell_below hox.out (by simp) _) (by simp) _
                    · show World.ownsRow _ _ _ _ _ _ _
                      rw [idZ_succ, List.flatMap_append]
                      exact ownsRow_setCell_below (ownsRow_setCell_below hoz.out (by simp) _) (by simp) _
                  case measure => simp [intOf]; omega
                exact EachB.nil
              exact EachB.nil
            exact EachB.nil
          exact EachB.nil
        refine EachB.cons rfl (fun K hK hB => ?_) ?_
        · skip
          go_simp
          refine hK.out _ _ ?_ (fun hHeld5 => ?_)
          · ((try dsimp only); (first | exact ⟨c1, c2⟩ | (go_split_ands; exact ⟨cell_alloc_keep _ (by assumption), cell_alloc_keep _ (by assumption)⟩)))
          clear hB hK K hHeld1
          refine AnyB.each (rs := [6]) (by kernel_rfl) (by simp) ?_
          refine EachB.cons rfl (fun K hK hB => ?_) ?_
          · skip
            (refine step_append_lies _ (by rfl) (.tmp 12) (.tmp 16) 77 (by rfl) (w.heap.size + 2) 121 i0 (.agg #[.int .i64 0, .int .i64 0, .int .i64 0]) 3 24 Try.underlying77 hi hz0 hz1 hz2 rfl (by omega) vx k _ (by rfl) (own_below hox.out (by repeat (first | exact Below.refl _ _ | assumption | refine Below.drew ?_ | refine below_drewN ?_ _ | refine Below.alloc ?_ (by first | omega | (simp <;> omega)) _ | refine Below.setCell ?_ (by first | omega | (simp <;> omega)) _ | refine Below.trans ?_ (Below.mono (by assumption) (by first | omega | (simp <;> omega))))) rfl) _ 1 1 [.int .i64 0, .int .i64 (2 ^ k), .int .i64 0] (by rfl) (by rfl) (by repeat (first | ((with_reducible refine news_at _ _ _ _ ?_); (simp; done)) | (with_reducible refine news_drew ?_) | (with_reducible refine news_up _ ?_) | (with_reducible refine news_far hn2 (by simp) ?_))) (E3.one ⟨0, 2 ^ k, 0⟩) (by omega) (by unfold maxLen; omega) (by omega) (by first | omega | (simp; omega)) _ rfl ?_; intro g1 cp1 w1 hown1 hgr1 hat1 hlt1; obtain ⟨qo, qb, q1, q2, qc, qf, hn1⟩ := two_step (by repeat (first | exact Below.refl _ _ | assumption | refine Below.drew ?_ | refine below_drewN ?_ _ | refine Below.alloc ?_ (by first | omega | (simp <;> omega)) _ | refine Below.setCell ?_ (by first | omega | (simp <;> omega)) _ | refine Below.trans ?_ (Below.mono (by assumption) (by first | omega | (simp <;> omega))))) hox.out hoz.out hap.out hbel (by omega) hgr1; replace hap := Lib.hid (apart_app hap.out.symm (fun g hg => (Nat.lt_of_lt_of_le (hoz.out.lt g hg).2 q1)) hat1 (n := k + 1) (c := cp1)).symm; replace c0 := qc _ _ c0; replace c1 := qc _ _ c1; replace c2 := qc _ _ c2; replace f1 := qf _ f1; replace f2 := qf _ f2; replace hox := Lib.hid hown1; replace hoz := Lib.hid qo; replace hbel := qb; replace hsz := Nat.le_trans hsz (Nat.le_trans q1 q2); clear qo qb q1 q2 qc qf hown1 hgr1 hat1)
            refine hK.out _ _ ?_ (fun hHeld6 => ?_)
            · ((try dsimp only); (first | exact ⟨c1, c2⟩ | (go_split_ands; exact ⟨cell_alloc_keep _ (by assumption), cell_alloc_keep _ (by assumption)⟩)))
            clear hB hK K hHeld5
            refine AnyB.takeQ (i := 14) (oi := _) (v := ?_) (by simp only [List.getElem?_toArray, List.getElem?_cons_zero, List.getElem?_cons_succ]; rfl) (by kernel_rfl) (by kernel_rfl) (by kernel_rfl) (by intro _ _ _ h; exact h) (Or.inl ⟨by rfl, ?_⟩) ?_
            rotate_left
            · (intro w hSw; (try dsimp only at hSw); go_simp; (try (with_reducible rfl)))
            try simp only [Act.put, List.setIfInBounds_toArray, List.set_cons_zero, List.set_cons_succ]
            refine AnyB.each (rs := [13]) (by kernel_rfl) (by simp) ?_
            refine EachB.cons rfl (fun K hK hB => ?_) ?_
            · skip
              (refine step_append_lies _ (by rfl) (.tmp 19) (.tmp 23) 77 (by rfl) (w.heap.size + 2) 121 i0 (.agg #[.int .i64 0, .int .i64 0, .int .i64 0]) 3 24 Try.underlying77 hi hz0 hz1 hz2 rfl (by omega) vz k _ (by rfl) (own_below hoz.out (by repeat (first | exact Below.refl _ _ | assumption | refine Below.drew ?_ | refine below_drewN ?_ _ | refine Below.alloc ?_ (by first | omega | (simp <;> omega)) _ | refine Below.setCell ?_ (by first | omega | (simp <;> omega)) _ | refine Below.trans ?_ (Below.mono (by assumption) (by first | omega | (simp <;> omega))))) rfl) _ 1 1 [.int .i64 0, .int .i64 0, .int .i64 (2 ^ k)] (by rfl) (by rfl) (by repeat (first | ((with_reducible refine news_at _ _ _ _ ?_); (simp; done)) | (with_reducible refine news_drew ?_) | (with_reducible refine news_up _ ?_) | (with_reducible refine news_far hn1 (by simp) ?_))) (E3.one ⟨0, 0, 2 ^ k⟩) (by omega) (by unfold maxLen; omega) (by omega) (by first | omega | (simp; omega)) _ rfl ?_; intro g2 cp2 w2 hown2 hgr2 hat2 hlt2; obtain ⟨qo, qb, q1, q2, qc, qf, hn2⟩ := two_step (by repeat (first | exact Below.refl _ _ | assumption | refine Below.drew ?_ | refine below_drewN ?_ _ | refine Below.alloc ?_ (by first | omega | (simp <;> omega)) _ | refine Below.setCell ?_ (by first | omega | (simp <;> omega)) _ | refine Below.trans ?_ (Below.mono (by assumption) (by first | omega | (simp <;> omega))))) hoz.out hox.out hap.out.symm hbel (by omega) hgr2; replace hap := Lib.hid (apart_app hap.out (fun g hg => (Nat.lt_of_lt_of_le (hox.out.lt g hg).2 q1)) hat2 (n := k + 1) (c := cp2)); replace c0 := qc _ _ c0; replace c1 := qc _ _ c1; replace c2 := qc _ _ c2; replace f1 := qf _ f1; replace f2 := qf _ f2; replace hoz := Lib.hid hown2; replace hox := Lib.hid qo; replace hbel := qb; replace hsz := Nat.le_trans hsz (Nat.le_trans q1 q2); clear qo qb q1 q2 qc qf hown2 hgr2 hat2)
              refine hK.out _ _ ?_ (fun hHeld7 => ?_)
              · ((try dsimp only); (first | exact ⟨c1, c2⟩ | (go_split_ands; exact ⟨cell_alloc_keep _ (by assumption), cell_alloc_keep _ (by assumption)⟩)))
              clear hB hK K hHeld6
              refine AnyB.each (rs := [15]) (by kernel_rfl) (by simp) ?_
              refine EachB.cons rfl (fun K hK hB => ?_) ?_
              · skip
                go_simp
                refine hB.out _ _ rfl ?_
                clear hB hK K
                refine AnyB.takeQ (i := 16) (oi := _) (v := ?_) (by simp only [List.getElem?_toArray, List.getElem?_cons_zero, List.getElem?_cons_succ]; rfl) (by kernel_rfl) (by kernel_rfl) (by kernel_rfl) (by intro _ _ _ h; exact h) (Or.inl ⟨by rfl, ?_⟩) ?_
                rotate_left
                · (intro w hSw; (try dsimp only at hSw); go_simp; (try (with_reducible rfl)))
                try simp only [Act.put, List.setIfInBounds_toArray, List.set_cons_zero, List.set_cons_succ]
                refine AnyB.each (rs := [17]) (by kernel_rfl) (by simp) ?_
                refine EachB.cons rfl (fun K hK hB => ?_) ?_
                · skip
                  go_simp
                  refine hB.out _ _ rfl ?_
                  clear hB hK K
                  refine AnyB.none (by kernel_rfl) ?_ _
                  go_wp2_with fail
                  go_roundw
                  case rel =>
                    refine ⟨k + 1, .slice (some ⟨g1, 0, none⟩) (k + 1) cp1, .slice (some ⟨g2, 0, none⟩) (k + 1) cp2, by omega, by go_num, cell_set_other (cell_set_other c0), cell_set_other (World.cell?_setCell_same _ _ _ c1), World.cell?_setCell_same _ _ _ (cell_set_other c2), by rw [World.frozen?_setCell, World.frozen?_setCell]; exact f1, by rw [World.frozen?_setCell, World.frozen?_setCell]; exact f2, ?_, ?_, hap, Below.setCell (Below.setCell hbel (by simp) _) (by simp) _, by simp; omega⟩
                    · show World.ownsRow _ _ _ _ _ _ _
                      rw [idX_succ, List.flatMap_append]
                      exact ownsRow_setCell_below (ownsRow_setCell_below hox.out (by simp) _) (by simp) _
                    · show World.ownsRow _ _ _ _ _ _ _
                      rw [idZ_succ, List.flatMap_append]
                      exact ownsRow_setCell_below (ownsRow_setCell_below hoz.out (by simp) _) (by simp) _
                  case measure => simp [intOf]; omega
                exact EachB.nil
              exact EachB.nil
            exact EachB.nil
          exact EachB.nil
        exact EachB.nil
      refine EachB.cons rfl (fun K hK hB => ?_) ?_
      · skip
        go_simp
        refine hK.out _ _ ?_ (fun hHeld8 => ?_)
        · ((try dsimp only); (first | exact ⟨c1, c2⟩ | (go_split_ands; exact ⟨cell_alloc_keep _ (by assumption), cell_alloc_keep _ (by assumption)⟩)))
        clear hB hK K hHeld0
        refine AnyB.each (rs := [5]) (by kernel_rfl) (by simp) ?_
        refine EachB.cons rfl (fun K hK hB => ?_) ?_
        · skip
          go_simp
          refine hK.out _ _ ?_ (fun hHeld9 => ?_)
          · ((try dsimp only); (first | exact ⟨c1, c2⟩ | (go_split_ands; exact ⟨cell_alloc_keep _ (by assumption), cell_alloc_keep _ (by assumption)⟩)))
          clear hB hK K hHeld8
          refine AnyB.each (rs := [6]) (by kernel_rfl) (by simp) ?_
          refine EachB.cons rfl (fun K hK hB => ?_) ?_
          · skip
            (refine step_append_lies _ (by rfl) (.tmp 12) (.tmp 16) 77 (by rfl) (w.heap.size + 2) 121 i0 (.agg #[.int .i64 0, .int .i64 0, .int .i64 0]) 3 24 Try.underlying77 hi hz0 hz1 hz2 rfl (by omega) vx k _ (by rfl) (own_below hox.out (by repeat (first | exact Below.refl _ _ | assumption | refine Below.drew ?_ | refine below_drewN ?_ _ | refine Below.alloc ?_ (by first | omega | (simp <;> omega)) _ | refine Below.setCell ?_ (by first | omega | (simp <;> omega)) _ | refine Below.trans ?_ (Below.mono (by assumption) (by first | omega | (simp <;> omega))))) rfl) _ 1 1 [.int .i64 0, .int .i64 (2 ^ k), .int .i64 0] (by rfl) (by rfl) (by repeat (first | ((with_reducible refine news_at _ _ _ _ ?_); (simp; done)) | (with_reducible refine news_drew ?_) | (with_reducible refine news_up _ ?_) | (with_reducible refine news_far hn2 (by simp) ?_))) (E3.one ⟨0, 2 ^ k, 0⟩) (by omega) (by unfold maxLen; omega) (by omega) (by first | omega | (simp; omega)) _ rfl ?_; intro g1 cp1 w1 hown1 hgr1 hat1 hlt1; obtain ⟨qo, qb, q1, q2, qc, qf, hn1⟩ := two_step (by repeat (first | exact Below.refl _ _ | assumption | refine Below.drew ?_ | refine below_drewN ?_ _ | refine Below.alloc ?_ (by first | omega | (simp <;> omega)) _ | refine Below.setCell ?_ (by first | omega | (simp <;> omega)) _ | refine Below.trans ?_ (Below.mono (by assumption) (by first | omega | (simp <;> omega))))) hox.out hoz.out hap.out hbel (by omega) hgr1; replace hap := Lib.hid (apart_app hap.out.symm (fun g hg => (Nat.lt_of_lt_of_le (hoz.out.lt g hg).2 q1)) hat1 (n := k + 1) (c := cp1)).symm; replace c0 := qc _ _ c0; replace c1 := qc _ _ c1; replace c2 := qc _ _ c2; replace f1 := qf _ f1; replace f2 := qf _ f2; replace hox := Lib.hid hown1; replace hoz := Lib.hid qo; replace hbel := qb; replace hsz := Nat.le_trans hsz (Nat.le_trans q1 q2); clear qo qb q1 q2 qc qf hown1 hgr1 hat1)
            refine hK.out _ _ ?_ (fun hHeld10 => ?_)
            · ((try dsimp only); (first | exact ⟨c1, c2⟩ | (go_split_ands; exact ⟨cell_alloc_keep _ (by assumption), cell_alloc_keep _ (by assumption)⟩)))
            clear hB hK K hHeld9
            refine AnyB.takeQ (i := 14) (oi := _) (v := ?_) (by simp only [List.getElem?_toArray, List.getElem?_cons_zero, List.getElem?_cons_succ]; rfl) (by kernel_rfl) (by kernel_rfl) (by kernel_rfl) (by intro _ _ _ h; exact h) (Or.inl ⟨by rfl, ?_⟩) ?_
            rotate_left
            · (intro w hSw; (try dsimp only at hSw); go_simp; (try (with_reducible rfl)))
            try simp only [Act.put, List.setIfInBounds_toArray, List.set_cons_zero, List.set_cons_succ]
            refine AnyB.each (rs := [13]) (by kernel_rfl) (by simp) ?_
            refine EachB.cons rfl (fun K hK hB => ?_) ?_
            · skip
              (refine step_append_lies _ (by rfl) (.tmp 19) (.tmp 23) 77 (by rfl) (w.heap.size + 2) 121 i0 (.agg #[.int .i64 0, .int .i64 0, .int .i64 0]) 3 24 Try.underlying77 hi hz0 hz1 hz2 rfl (by omega) vz k _ (by rfl) (own_below hoz.out (by repeat (first | exact Below.refl _ _ | assumption | refine Below.drew ?_ | refine below_drewN ?_ _ | refine Below.alloc ?_ (by first | omega | (simp <;> omega)) _ | refine Below.setCell ?_ (by first | omega | (simp <;> omega)) _ | refine Below.trans ?_ (Below.mono (by assumption) (by first | omega | (simp <;> omega))))) rfl) _ 1 1 [.int .i64 0, .int .i64 0, .int .i64 (2 ^ k)] (by rfl) (by rfl) (by repeat (first | ((with_reducible refine news_at _ _ _ _ ?_); (simp; done)) | (with_reducible refine news_drew ?_) | (with_reducible refine news_up _ ?_) | (with_reducible refine news_far hn1 (by simp) ?_))) (E3.one ⟨0, 0, 2 ^ k⟩) (by omega) (by unfold maxLen; omega) (by omega) (by first | omega | (simp; omega)) _ rfl ?_; intro g2 cp2 w2 hown2 hgr2 hat2 hlt2; obtain ⟨qo, qb, q1, q2, qc, qf, hn2⟩ := two_step (by repeat (first | exact Below.refl _ _ | assumption | refine Below.drew ?_ | refine below_drewN ?_ _ | refine Below.alloc ?_ (by first | omega | (simp <;> omega)) _ | refine Below.setCell ?_ (by first | omega | (simp <;> omega)) _ | refine Below.trans ?_ (Below.mono (by assumption) (by first | omega | (simp <;> omega))))) hoz.out hox.out hap.out.symm hbel (by omega) hgr2; replace hap := Lib.hid (apart_app hap.out (fun g hg => (Nat.lt_of_lt_of_le (hox.out.lt g hg).2 q1)) hat2 (n := k + 1) (c := cp2)); replace c0 := qc _ _ c0; replace c1 := qc _ _ c1; replace c2 := qc _ _ c2; replace f1 := qf _ f1; replace f2 := qf _ f2; replace hoz := Lib.hid hown2; replace hox := Lib.hid qo; replace hbel := qb; replace hsz := Nat.le_trans hsz (Nat.le_trans q1 q2); clear qo qb q1 q2 qc qf hown2 hgr2 hat2)
              refine hK.out _ _ ?_ (fun hHeld11 => ?_)
              · ((try dsimp only); (first | exact ⟨c1, c2⟩ | (go_split_ands; exact ⟨cell_alloc_keep _ (by assumption), cell_alloc_keep _ (by assumption)⟩)))
              clear hB hK K hHeld10
              refine AnyB.each (rs := [15]) (by kernel_rfl) (by simp) ?_
              refine EachB.cons rfl (fun K hK hB => ?_) ?_
              · skip
                go_simp
                refine hB.out _ _ rfl ?_
                clear hB hK K
                refine AnyB.takeQ (i := 16) (oi := _) (v := ?_) (by simp only [List.getElem?_toArray, List.getElem?_cons_zero, List.getElem?_cons_succ]; rfl) (by kernel_rfl) (by kernel_rfl) (by kernel_rfl) (by intro _ _ _ h; exact h) (Or.inl ⟨by rfl, ?_⟩) ?_
                rotate_left
                · (intro w hSw; (try dsimp only at hSw); go_simp; (try (with_reducible rfl)))
                try simp only [Act.put, List.setIfInBounds_toArray, List.set_cons_zero, List.set_cons_succ]
                refine AnyB.each (rs := [17]) (by kernel_rfl) (by simp) ?_
                refine EachB.cons rfl (fun K hK hB => ?_) ?_
                · skip
                  go_simp
                  refine hB.out _ _ rfl ?_
                  clear hB hK K
                  refine AnyB.none (by kernel_rfl) ?_ _
                  go_wp2_with fail
                  go_roundw
                  case rel =>
                    refine ⟨k + 1, .slice (some ⟨g1, 0, none⟩) (k + 1) cp1, .slice (some ⟨g2, 0, none⟩) (k + 1) cp2, by omega, by go_num, cell_set_other (cell_set_other c0), cell_set_other (World.cell?_setCell_same _ _ _ c1), World.cell?_setCell_same _ _ _ (cell_set_other c2), by rw [World.frozen?_setCell, World.frozen?_setCell]; exact f1, by rw [World.frozen?_setCell, World.frozen?_setCell]; exact f2, ?_, ?_, hap, Below.setCell (Below.setCell hbel (by simp) _) (by simp) _, by simp; omega⟩
                    · show World.ownsRow _ _ _ _ _ _ _
                      rw [idX_succ, List.flatMap_append]
                      exact ownsRow_setCell_below (ownsRow_setCell_below hox.out (by simp) _) (by simp) _
                    · show World.ownsRow _ _ _ _ _ _ _
                      rw [idZ_succ, List.flatMap_append]
                      exact ownsRow_setCell_below (ownsRow_setCell_below hoz.out (by simp) _) (by simp) _
                  case measure => simp [intOf]; omega
                exact EachB.nil
              exact EachB.nil
            exact EachB.nil
          exact EachB.nil
        exact EachB.nil
      exact EachB.nil
    · have e : k = m := by omega
      subst e
      have r0 : wr.cell? ⟨w.heap.size, 0, none⟩ = some (.int .i64 0) := by rw [hbel.cell (p := ⟨w.heap.size, 0, none⟩) (by simp)]; exact (by repeat (first | (refine Eq.trans (World.cell?_alloc_at _ _ _ _ ?hh) ?_; (case hh => (simp; done)); rfl) | refine cell_alloc_keep _ ?_))
      have r1 : wr.cell? ⟨w.heap.size, 1, none⟩ = some (.slice none 0 0) := by rw [hbel.cell (p := ⟨w.heap.size, 1, none⟩) (by simp)]; exact (by repeat (first | (refine Eq.trans (World.cell?_alloc_at _ _ _ _ ?hh) ?_; (case hh => (simp; done)); rfl) | refine cell_alloc_keep _ ?_))
      have r2 : wr.cell? ⟨w.heap.size, 2, none⟩ = some (.slice none 0 0) := by rw [hbel.cell (p := ⟨w.heap.size, 2, none⟩) (by simp)]; exact (by repeat (first | (refine Eq.trans (World.cell?_alloc_at _ _ _ _ ?hh) ?_; (case hh => (simp; done)); rfl) | refine cell_alloc_keep _ ?_))
      have q0 : wr.frozen? ⟨w.heap.size, 0, none⟩ = false := by rw [hbel.frozen (p := ⟨w.heap.size, 0, none⟩) (by simp)]; exact (by repeat (first | (refine World.frozen?_alloc_at _ _ _ _ ?hh; case hh => (simp; done)) | (refine frozen_alloc_lt _ ?hh ?_; case hh => first | omega | (simp <;> omega))))
      have q1 : wr.frozen? ⟨w.heap.size, 1, none⟩ = false := by rw [hbel.frozen (p := ⟨w.heap.size, 1, none⟩) (by simp)]; exact (by repeat (first | (refine World.frozen?_alloc_at _ _ _ _ ?hh; case hh => (simp; done)) | (refine frozen_alloc_lt _ ?hh ?_; case hh => first | omega | (simp <;> omega))))
      have q2 : wr.frozen? ⟨w.heap.size, 2, none⟩ = false := by rw [hbel.frozen (p := ⟨w.heap.size, 2, none⟩) (by simp)]; exact (by repeat (first | (refine World.frozen?_alloc_at _ _ _ _ ?hh; case hh => (simp; done)) | (refine frozen_alloc_lt _ ?hh ?_; case hh => first | omega | (simp <;> omega))))
      obtain ⟨a9, cp9, rfl⟩ := own_form hox.out
      obtain ⟨b9, cq9, rfl⟩ := own_form hoz.out
      have hZ := box_set3 (.int .i64 (k : Int)) (.slice a9 k cp9) (.slice b9 k cq9) r0 r1 r2
      go_wp2_with fail
      refine bodyPost_ret (v := .agg #[.int .i64 (k : Int), .slice a9 k cp9, .slice b9 k cq9]) (by simp [results, Try.results90, go_sem, hZ]) rfl ⟨_, _, rfl, ?_, ?_, hap.out, (by repeat (first | exact Below.refl _ _ | assumption | refine Below.drew ?_ | refine below_drewN ?_ _ | refine Below.alloc ?_ (by first | omega | (simp <;> omega)) _ | refine Below.setCell ?_ (by first | omega | (simp <;> omega)) _ | refine Below.trans ?_ (Below.mono (by assumption) (by first | omega | (simp <;> omega)))))⟩
      · unfold OwnE; rw [idX_len]
        exact own_le (ownsRow_setCell_below (ownsRow_setCell_below (ownsRow_setCell_below hox.out (by simp) _) (by simp) _) (by simp) _) (by omega)
      · unfold OwnE; rw [idZ_len]
        exact own_le (ownsRow_setCell_below (ownsRow_setCell_below (ownsRow_setCell_below hoz.out (by simp) _) (by simp) _) (by simp) _) (by omega)
end Go.Proofs.Ytdkfoleippncnaa
namespace Go.Proofs.Ytdkfoleippncnaa
set_option linter.unusedSimpArgs false
set_option linter.unusedVariables false
set_option linter.unnecessarySimpa false
set_option maxRecDepth 200000
open Go.ChangeShapes Go.WideShapes Go.ChangeAt Go.RowKit

/-- The images under a gate: of X operators. -/
def gtX (n k a b : Nat) : List PN :=
  if k = 1 then (idPX n).set a ⟨0, 0, 2 ^ a⟩ else
  if k = 3 then (idPX n).set a ⟨2, 2 ^ a, 0⟩ else
  if k = 4 then (idPX n).set a ⟨2, 2 ^ a, 0⟩ else
  if k = 5 then (idPX n).set a ⟨0, 2 ^ a, 2 ^ a⟩ else
  if k = 6 then (idPX n).set a ⟨2, 2 ^ a, 2 ^ a⟩ else
  if k = 9 then (idPX n).set a ⟨0, 2 ^ a ||| 2 ^ b, 0⟩ else
  if k = 10 then ((idPX n).set a ⟨0, 2 ^ a, 2 ^ b⟩).set b ⟨0, 2 ^ b, 2 ^ a⟩ else
  if k = 11 then ((idPX n).set a ⟨0, 2 ^ b, 0⟩).set b ⟨0, 2 ^ a, 0⟩ else idPX n
/-- And of Z operators. -/
def gtZ (n k a b : Nat) : List PN :=
  if k = 1 then (idPZ n).set a ⟨0, 2 ^ a, 0⟩ else
  if k = 2 then (idPZ n).set a ⟨2, 0, 2 ^ a⟩ else
  if k = 3 then (idPZ n).set a ⟨2, 0, 2 ^ a⟩ else
  if k = 9 then (idPZ n).set b ⟨0, 0, 2 ^ a ||| 2 ^ b⟩ else
  if k = 11 then ((idPZ n).set a ⟨0, 0, 2 ^ b⟩).set b ⟨0, 0, 2 ^ a⟩ else idPZ n
structure GtOk (n k a b : Nat) : Prop where
  kind : (k = 12 ∧ a = 0 ∧ b = 0) ∨ (9 ≤ k ∧ k ≤ 11 ∧ a ≠ b) ∨ (1 ≤ k ∧ k ≤ 6 ∧ b = 0)
  la : a < n
  lb : b < n
theorem gtX_len (n k a b : Nat) : (gtX n k a b).length = n := by
  unfold gtX
  simp only [apply_ite List.length, List.length_set, idPX_len, ite_self]
theorem gtZ_len (n k a b : Nat) : (gtZ n k a b).length = n := by
  unfold gtZ
  simp only [apply_ite List.length, List.length_set, idPZ_len, ite_self]
theorem LtL.set {n : Nat} {L : List PN} (h : LtL n L) (h5 : n ≤ 5) (i : Nat) {e : PN} (hp : e.p ≤ 3) (hx : e.x < 2 ^ n ∧ e.z < 2 ^ n) : LtL n (L.set i e) := by
  have h32 : 2 ^ n ≤ 2 ^ 5 := Nat.pow_le_pow_right (by omega) h5
  refine ⟨⟨fun a ha => ?_⟩, fun a ha => ?_⟩
  · rcases List.mem_or_eq_of_mem_set ha with ha | rfl
    · exact h.ok.all a ha
    · exact ⟨hp, by omega, by omega⟩
  · rcases List.mem_or_eq_of_mem_set ha with ha | rfl
    · exact h.lt a ha
    · exact hx
theorem gtX_lt {n k a b : Nat} (h5 : n ≤ 5) (h : GtOk n k a b) : LtL n (gtX n k a b) := by
  have pa : 2 ^ a < 2 ^ n := Nat.pow_lt_pow_right (by omega) h.la
  have pb : 2 ^ b < 2 ^ n := Nat.pow_lt_pow_right (by omega) h.lb
  have po : 2 ^ a ||| 2 ^ b < 2 ^ n := Nat.or_lt_two_pow pa pb
  have p0 := Nat.two_pow_pos n
  have hI := idPX_lt h5
  unfold gtX
  repeat (first | exact hI | exact (hI.set h5 _ (by dsimp only; omega) ⟨by first | exact pa | exact pb | exact po | exact p0, by first | exact pa | exact pb | exact p0⟩) | exact ((hI.set h5 _ (by dsimp only; omega) ⟨by first | exact pa | exact pb | exact p0, by first | exact pa | exact pb | exact p0⟩).set h5 _ (by dsimp only; omega) ⟨by first | exact pa | exact pb | exact p0, by first | exact pa | exact pb | exact p0⟩) | split)
theorem gtZ_lt {n k a b : Nat} (h5 : n ≤ 5) (h : GtOk n k a b) : LtL n (gtZ n k a b) := by
  have pa : 2 ^ a < 2 ^ n := Nat.pow_lt_pow_right (by omega) h.la
  have pb : 2 ^ b < 2 ^ n := Nat.pow_lt_pow_right (by omega) h.lb
  have po : 2 ^ a ||| 2 ^ b < 2 ^ n := Nat.or_lt_two_pow pa pb
  have p0 := Nat.two_pow_pos n
  have hI := idPZ_lt h5
  unfold gtZ
  repeat (first | exact hI | exact (hI.set h5 _ (by dsimp only; omega) ⟨by first | exact pa | exact pb | exact p0, by first | exact pa | exact pb | exact po | exact p0⟩) | exact ((hI.set h5 _ (by dsimp only; omega) ⟨by first | exact pa | exact pb | exact p0, by first | exact pa | exact pb | exact p0⟩).set h5 _ (by dsimp only; omega) ⟨by first | exact pa | exact pb | exact p0, by first | exact pa | exact pb | exact p0⟩) | split)
/-- The tableau of the first k gates. -/
def tofX (n : Nat) (gs : List E3) : Nat → List PN
  | 0 => idPX n
  | k + 1 => compL imgN (gtX n (gs.getD k ⟨0, 0, 0⟩).a.toNat (gs.getD k ⟨0, 0, 0⟩).b.toNat (gs.getD k ⟨0, 0, 0⟩).c.toNat) (gtZ n (gs.getD k ⟨0, 0, 0⟩).a.toNat (gs.getD k ⟨0, 0, 0⟩).b.toNat (gs.getD k ⟨0, 0, 0⟩).c.toNat) n (tofX n gs k)
def tofZ (n : Nat) (gs : List E3) : Nat → List PN
  | 0 => idPZ n
  | k + 1 => compL imgN (gtX n (gs.getD k ⟨0, 0, 0⟩).a.toNat (gs.getD k ⟨0, 0, 0⟩).b.toNat (gs.getD k ⟨0, 0, 0⟩).c.toNat) (gtZ n (gs.getD k ⟨0, 0, 0⟩).a.toNat (gs.getD k ⟨0, 0, 0⟩).b.toNat (gs.getD k ⟨0, 0, 0⟩).c.toNat) n (tofZ n gs k)
theorem tofX_0 (n : Nat) (gs : List E3) : tofX n gs 0 = idPX n := rfl
theorem tofZ_0 (n : Nat) (gs : List E3) : tofZ n gs 0 = idPZ n := rfl
theorem tofX_succ (n : Nat) {gs : List E3} {k kk a b : Nat} (_ : k < gs.length) (hg : gs.getD k ⟨0, 0, 0⟩ = ⟨(kk : Int), (a : Int), (b : Int)⟩) : tofX n gs (k + 1) = compL imgN (gtX n kk a b) (gtZ n kk a b) n (tofX n gs k) := by
  show compL _ _ _ _ _ = _
  rw [hg]; simp
theorem tofZ_succ (n : Nat) {gs : List E3} {k kk a b : Nat} (_ : k < gs.length) (hg : gs.getD k ⟨0, 0, 0⟩ = ⟨(kk : Int), (a : Int), (b : Int)⟩) : tofZ n gs (k + 1) = compL imgN (gtX n kk a b) (gtZ n kk a b) n (tofZ n gs k) := by
  show compL _ _ _ _ _ = _
  rw [hg]; simp
theorem tofX_len (n : Nat) (gs : List E3) : ∀ k, (tofX n gs k).length = n
  | 0 => idPX_len n
  | k + 1 => by unfold tofX; rw [compL_len, tofX_len n gs k]
theorem tofZ_len (n : Nat) (gs : List E3) : ∀ k, (tofZ n gs k).length = n
  | 0 => idPZ_len n
  | k + 1 => by unfold tofZ; rw [compL_len, tofZ_len n gs k]
theorem clif_nat {d : Circ} (h : clifB d = true) : ∃ n : Nat, d.n = (n : Int) ∧ 1 ≤ n ∧ n ≤ 5 := by
  obtain ⟨⟨⟨h1, h2⟩, _⟩, _⟩ := clif_parts h
  exact ⟨d.n.toNat, by omega, by omega, by omega⟩
theorem clif_n {d : Circ} {n : Nat} (h : clifB d = true) (hn : d.n = (n : Int)) : 1 ≤ n ∧ n ≤ 5 := by
  obtain ⟨⟨⟨h1, h2⟩, _⟩, _⟩ := clif_parts h
  omega
theorem clif_gate {d : Circ} {n k : Nat} (h : clifB d = true) (hn : d.n = (n : Int)) (hk : k < d.gs.length) : ∃ kk a b : Nat, d.gs.getD k ⟨0, 0, 0⟩ = ⟨(kk : Int), (a : Int), (b : Int)⟩ ∧ GtOk n kk a b := by
  obtain ⟨⟨⟨h1, h2⟩, _, hg⟩, ht⟩ := clif_parts h
  have e : d.gs.getD k ⟨0, 0, 0⟩ = d.gs[k] := by simp [List.getD, hk]
  have h3 := hg d.gs[k] (List.getElem_mem hk)
  have h4 := ht d.gs[k] (List.getElem_mem hk)
  rw [e]
  generalize d.gs[k] = g at h3 h4
  obtain ⟨x, y, z⟩ := g
  have h5 := of_decide_eq_false h4
  unfold GateOk at h3
  dsimp only at h3 h5
  obtain ⟨kk, rfl⟩ : ∃ kk : Nat, x = (kk : Int) := ⟨x.toNat, by omega⟩
  obtain ⟨a, rfl⟩ : ∃ a : Nat, y = (a : Int) := ⟨y.toNat, by omega⟩
  obtain ⟨b, rfl⟩ : ∃ b : Nat, z = (b : Int) := ⟨z.toNat, by omega⟩
  refine ⟨kk, a, b, rfl, ?_, by omega, by omega⟩
  have hab : (a : Int) ≠ (b : Int) ↔ a ≠ b := by omega
  rw [hab] at h3
  omega
theorem compX_lt {n : Nat} (h5 : n ≤ 5) {X Z L : List PN} (hX : LtL n X) (hZ : LtL n Z) : LtL n (compL imgN X Z n L) := LtL.comp hX hZ
theorem tCount_no {d : Circ} (h : circB d = false) : tCount d = 0 := by unfold tCount; rw [h]; rfl
theorem tCount_pos {d : Circ} (h : (tCount d == 0) = false) : 0 < tCount d := by
  have h1 : ¬ tCount d = 0 := by simpa using h
  have h2 : 0 ≤ tCount d := by unfold tCount; split <;> omega
  omega
theorem tof_lt {d : Circ} {n : Nat} (h : clifB d = true) (hn : d.n = (n : Int)) : ∀ k, k ≤ d.gs.length → LtL n (tofX n d.gs k) ∧ LtL n (tofZ n d.gs k)
  | 0, _ => ⟨idPX_lt (clif_n h hn).2, idPZ_lt (clif_n h hn).2⟩
  | k + 1, hk => by
    obtain ⟨kk, a, b, hg, hgt⟩ := clif_gate h hn (show k < d.gs.length by omega)
    rw [tofX_succ n (by omega) hg, tofZ_succ n (by omega) hg]
    exact ⟨LtL.comp (gtX_lt (clif_n h hn).2 hgt) (gtZ_lt (clif_n h hn).2 hgt), LtL.comp (gtX_lt (clif_n h hn).2 hgt) (gtZ_lt (clif_n h hn).2 hgt)⟩
/-- What TableauOf answers. -/
noncomputable def tofG (d : Circ) : Option Tab := if clifB d = true then some ⟨d.n, pes (tofX d.n.toNat d.gs d.gs.length), pes (tofZ d.n.toNat d.gs d.gs.length)⟩ else none
theorem tofG_len (d : Circ) : ((tofG d).getD Tab.zero).xs.length ≤ 1000000 ∧ ((tofG d).getD Tab.zero).zs.length ≤ 1000000 := by
  unfold tofG; split
  · next h =>
    obtain ⟨n, hn, _, h5⟩ := clif_nat h
    simp [pes_len, tofX_len, tofZ_len]; omega
  · simp [Tab.zero]
end Go.Proofs.Ytdkfoleippncnaa
namespace Go.Proofs.Ytdkfoleippncnaa
set_option linter.unusedSimpArgs false
set_option linter.unusedVariables false
set_option linter.unnecessarySimpa false
set_option maxRecDepth 200000
open Go.ChangeShapes Go.WideShapes Go.ChangeAt Go.RowKit

/-- All blocks but g are as they were. -/
structure Far (g : Nat) (w w' : World) : Prop where
  size : w.heap.size ≤ w'.heap.size
  block : ∀ k, k < w.heap.size → k ≠ g → w'.heap[k]? = w.heap[k]?
theorem Far.call {w w' : World} (h : Below w.heap.size w w') : Far w.heap.size w w' := ⟨h.size, fun k hk _ => h.block k hk⟩
theorem Far.alloc (w : World) (X : Obj) : Far w.heap.size w (w.alloc X) := Far.call (Below.alloc (Below.refl _ _) (Nat.le_refl _) X)
theorem Far.set (w : World) (g o : Nat) (v : Value) : Far g w (w.setCell ⟨g, o, none⟩ v) := by
  refine ⟨by simp, fun k _ hne => Below.heap_setCell _ _ _ _ (fun e => hne ?_)⟩
  first | exact e | exact e.symm
theorem Far.trans {g : Nat} {a b c : World} (h : Far g a b) (k : Far g b c) : Far g a c :=
  ⟨Nat.le_trans h.size k.size, fun i hi hne => (k.block i (Nat.lt_of_lt_of_le hi h.size) hne).trans (h.block i hi hne)⟩
def set3 (w : World) (g : Nat) (a b c : Value) : World := ((w.setCell ⟨g, 0, none⟩ a).setCell ⟨g, 1, none⟩ b).setCell ⟨g, 2, none⟩ c
theorem Far.set3 (w : World) (g : Nat) (a b c : Value) : Far g w (set3 w g a b c) := ((Far.set w g 0 a).trans (Far.set _ g 1 b)).trans (Far.set _ g 2 c)
theorem cell_far {g b o : Nat} {w w' : World} {v : Value} (h : w.cell? ⟨b, o, none⟩ = some v) (k : Far g w w') (hne : b ≠ g) : w'.cell? ⟨b, o, none⟩ = some v := by
  have hl := World.block_lt_of_cell? _ _ h
  rw [← h]; exact World.cell?_of_block (k.block b hl hne)
theorem frz_far {g b o : Nat} {w w' : World} (h : w.frozen? ⟨b, o, none⟩ = false) (k : Far g w w') (hl : b < w.heap.size) (hne : b ≠ g) : w'.frozen? ⟨b, o, none⟩ = false := by
  rw [← h]; exact World.frozen?_of_block (k.block b hl hne)
/-- A box of three cells. -/
structure Box3 (w : World) (g : Nat) (a b c : Value) : Prop where
  c0 : w.cell? ⟨g, 0, none⟩ = some a
  c1 : w.cell? ⟨g, 1, none⟩ = some b
  c2 : w.cell? ⟨g, 2, none⟩ = some c
  f0 : w.frozen? ⟨g, 0, none⟩ = false
  f1 : w.frozen? ⟨g, 1, none⟩ = false
  f2 : w.frozen? ⟨g, 2, none⟩ = false
theorem Box3.lt {w : World} {g : Nat} {a b c : Value} (h : Box3 w g a b c) : g < w.heap.size := World.block_lt_of_cell? _ _ h.c0
theorem Box3.far {w w' : World} {g g' : Nat} {a b c : Value} (h : Box3 w g a b c) (k : Far g' w w') (hne : g ≠ g') : Box3 w' g a b c :=
  ⟨cell_far h.c0 k hne, cell_far h.c1 k hne, cell_far h.c2 k hne, frz_far h.f0 k h.lt hne, frz_far h.f1 k h.lt hne, frz_far h.f2 k h.lt hne⟩
theorem Box3.call {w w' : World} {g : Nat} {a b c : Value} (h : Box3 w g a b c) (k : Below w.heap.size w w') : Box3 w' g a b c := h.far (Far.call k) (Nat.ne_of_lt h.lt)
theorem Box3.alloc {w : World} {g : Nat} {a b c : Value} (h : Box3 w g a b c) (X : Obj) : Box3 (w.alloc X) g a b c := h.far (Far.alloc w X) (Nat.ne_of_lt h.lt)
theorem Box3.drew {w : World} {g : Nat} {a b c : Value} (h : Box3 w g a b c) : Box3 w.drew g a b c := ⟨h.c0, h.c1, h.c2, h.f0, h.f1, h.f2⟩
theorem Box3.new (w : World) (a b c : Value) (t : TypeId) : Box3 (w.alloc (.cells #[a, b, c] t)) w.heap.size a b c :=
  ⟨new_cell w _ t 0 a rfl, new_cell w _ t 1 b rfl, new_cell w _ t 2 c rfl, new_frz w _ t 0, new_frz w _ t 1, new_frz w _ t 2⟩
theorem Box3.set {w : World} {g : Nat} {a b c : Value} (h : Box3 w g a b c) (x y z : Value) : Box3 (set3 w g x y z) g x y z := by
  obtain ⟨h0, h1, h2⟩ := box_set3 x y z h.c0 h.c1 h.c2
  exact ⟨h0, h1, h2, by unfold set3; simp only [World.frozen?_setCell]; exact h.f0, by unfold set3; simp only [World.frozen?_setCell]; exact h.f1, by unfold set3; simp only [World.frozen?_setCell]; exact h.f2⟩
/-- A row read over an act that touches another block. -/
theorem rd_far {w w' : World} {g q n sz c n0 : Nat} {xs : List Value} (h : Rd w (.slice (some ⟨g, 0, none⟩) n c) n0 sz xs) (k : Far q w w') (hne : g ≠ q) : Rd w' (.slice (some ⟨g, 0, none⟩) n c) n0 sz xs := by
  refine ⟨h.1, ?_⟩
  rcases h.2 with h0 | ⟨b, off, cap, hv, hb, h3, h4, h5⟩
  · exact .inl h0
  · refine .inr ⟨b, off, cap, hv, Nat.lt_of_lt_of_le hb k.size, h3, h4, fun j v hj => ?_⟩
    injection hv with hv1 hv2 hv3
    injection hv1 with hv1
    injection hv1 with e1 e2 e3
    exact cell_far (h5 j v hj) k (by rw [← e1]; exact hne)
theorem below_put3 {B g : Nat} {a w : World} (h : Below B a w) (hg : B ≤ g) (x y z : Value) : Below B a (set3 w g x y z) :=
  Below.setCell (Below.setCell (Below.setCell h hg _) hg _) hg _
end Go.Proofs.Ytdkfoleippncnaa
namespace Go.Proofs.Ytdkfoleippncnaa
set_option linter.unusedSimpArgs false
set_option linter.unusedVariables false
set_option linter.unnecessarySimpa false
set_option maxRecDepth 200000
open Go.ChangeShapes Go.WideShapes Go.ChangeAt Go.RowKit

theorem OwnG.farF {w w' : World} {base g n cap q : Nat} {t : TypeId} {xs : List E3} (h : OwnG w base t g n cap xs) (k : Far q w w') (hne : g ≠ q) : OwnG w' base t g n cap xs := by
  have hl := h.lt.2
  refine ⟨h.1, ?_⟩
  rcases h.2 with h0 | ⟨g', cap', cur, hv, hb, hg, r⟩
  · exact .inl h0
  · refine .inr ⟨g', cap', cur, hv, hb, ?_, r⟩
    injection hv with hv1 hv2 hv3
    injection hv1 with hv1
    injection hv1 with e1 e2 e3
    subst e1
    rw [k.block _ hl hne]; exact hg
def put3 (w : World) (g i : Nat) (e : E3) : World := ((w.setCell ⟨g, i * 3, none⟩ (.int .i64 e.a)).setCell ⟨g, i * 3 + 1, none⟩ (.int .i64 e.b)).setCell ⟨g, i * 3 + 2, none⟩ (.int .i64 e.c)
theorem Far.put3 (w : World) (g i : Nat) (e : E3) : Far g w (put3 w g i e) := ((Far.set w g _ _).trans (Far.set _ g _ _)).trans (Far.set _ g _ _)
theorem OwnG.ph {w : World} {base g n cap : Nat} {t : TypeId} {xs : List E3} (h : OwnG w base t g n cap xs) (i : Nat) (hi : i < n) (v : Int) :
    OwnG (w.setCell ⟨g, i * 3, none⟩ (.int .i64 v)) base t g n cap (xs.set i ⟨v, (xs.getD i ⟨0, 0, 0⟩).b, (xs.getD i ⟨0, 0, 0⟩).c⟩) := by
  have hl := h.len
  have h1 := (World.ownsRow.stored h (i * 3) (.int .i64 v)).1
  have e := set_flat ⟨v, (xs.getD i ⟨0, 0, 0⟩).b, (xs.getD i ⟨0, 0, 0⟩).c⟩ xs i (by omega)
  have hlen : (xs.flatMap E3.cs).length = xs.length * 3 := flat_len E3.len xs
  have g1 := flat_get E3.len xs i 1 (by omega) (by omega)
  have g2 := flat_get E3.len xs i 2 (by omega) (by omega)
  have ex : xs.getD i ⟨0, 0, 0⟩ = xs[i] := by simp [List.getD, show i < xs.length by omega]
  dsimp only at e
  rw [ex] at e ⊢
  have s1 : ((xs.flatMap E3.cs).set (i * 3) (.int .i64 v)).set (i * 3 + 1) (.int .i64 xs[i].b) = (xs.flatMap E3.cs).set (i * 3) (.int .i64 v) := by
    apply List.ext_getElem?
    intro j
    rw [List.getElem?_set]
    by_cases hj : i * 3 + 1 = j
    · subst hj
      rw [if_pos rfl, List.getElem?_set_ne (by omega), g1]
      simp [E3.cs, hlen]; omega
    · rw [if_neg hj]
  have s2 : ((xs.flatMap E3.cs).set (i * 3) (.int .i64 v)).set (i * 3 + 2) (.int .i64 xs[i].c) = (xs.flatMap E3.cs).set (i * 3) (.int .i64 v) := by
    apply List.ext_getElem?
    intro j
    rw [List.getElem?_set]
    by_cases hj : i * 3 + 2 = j
    · subst hj
      rw [if_pos rfl, List.getElem?_set_ne (by omega), g2]
      simp [E3.cs, hlen]; omega
    · rw [if_neg hj]
  rw [s1, s2] at e
  rw [e] at h1
  exact h1
/-- A block of the walk's own that is none of the tableau's. -/
structure Off (b gT g0 g1 g : Nat) : Prop where
  low : b + 2 ≤ g
  nT : g ≠ gT
  n0 : g ≠ g0
  n1 : g ≠ g1
/-- The walk's state: the gate's box, the answer's box, the tableau's box and its two rows. -/
structure GSt (W0 w : World) (b n k a c gT g0 p0 g1 p1 : Nat) (X Z : List E3) : Prop where
  P : Box3 w b (.int .i64 (k : Int)) (.int .i64 (a : Int)) (.int .i64 (c : Int))
  R : Box3 w (b + 1) (.int .i64 0) (.slice none 0 0) (.slice none 0 0)
  T : Box3 w gT (.int .i64 (n : Int)) (.slice (some ⟨g0, 0, none⟩) n p0) (.slice (some ⟨g1, 0, none⟩) n p1)
  O0 : OwnG w (b + 2) 121 g0 n p0 X
  O1 : OwnG w (b + 2) 121 g1 n p1 Z
  bw : Below b W0 w
  ne : g0 ≠ g1 ∧ g0 ≠ gT ∧ g1 ≠ gT
  lT : b + 2 ≤ gT
variable {W0 w w' : World} {b n k a c gT g0 p0 g1 p1 : Nat} {X Z : List E3}
theorem GSt.off (h : GSt W0 w b n k a c gT g0 p0 g1 p1 X Z) {g : Nat} (hg : w.heap.size ≤ g) : Off b gT g0 g1 g :=
  ⟨by have := h.R.lt; omega, by have := h.T.lt; omega, by have := h.O0.lt; omega, by have := h.O1.lt; omega⟩
theorem GSt.far (h : GSt W0 w b n k a c gT g0 p0 g1 p1 X Z) {q : Nat} (f : Far q w w') (hq : Off b gT g0 g1 q) (hb : Below b W0 w') : GSt W0 w' b n k a c gT g0 p0 g1 p1 X Z :=
  ⟨h.P.far f (by have := hq.low; omega), h.R.far f (by have := hq.low; omega), h.T.far f hq.nT.symm, h.O0.farF f hq.n0.symm, h.O1.farF f hq.n1.symm, hb, h.ne, h.lT⟩
theorem GSt.call (h : GSt W0 w b n k a c gT g0 p0 g1 p1 X Z) (hb : Below w.heap.size w w') : GSt W0 w' b n k a c gT g0 p0 g1 p1 X Z :=
  h.far (Far.call hb) (h.off (Nat.le_refl _)) (Below.trans h.bw (hb.mono (by have := h.P.lt; omega)))
theorem GSt.drew (h : GSt W0 w b n k a c gT g0 p0 g1 p1 X Z) : GSt W0 w.drew b n k a c gT g0 p0 g1 p1 X Z := h.call (Below.drew (Below.refl _ _))
theorem GSt.drewN (h : GSt W0 w b n k a c gT g0 p0 g1 p1 X Z) (j : Nat) : GSt W0 (w.drewN j) b n k a c gT g0 p0 g1 p1 X Z := h.call (below_drewN (Below.refl _ _) j)
theorem GSt.alloc (h : GSt W0 w b n k a c gT g0 p0 g1 p1 X Z) (o : Obj) : GSt W0 (w.alloc o) b n k a c gT g0 p0 g1 p1 X Z := h.call (Below.alloc (Below.refl _ _) (Nat.le_refl _) o)
theorem GSt.box (h : GSt W0 w b n k a c gT g0 p0 g1 p1 X Z) {g : Nat} (hg : Off b gT g0 g1 g) (x y z : Value) : GSt W0 (set3 w g x y z) b n k a c gT g0 p0 g1 p1 X Z :=
  h.far (Far.set3 w g x y z) hg (below_put3 h.bw (by have := hg.low; omega) x y z)
theorem below_putE {B g : Nat} {a w : World} (h : Below B a w) (hg : B ≤ g) (i : Nat) (e : E3) : Below B a (put3 w g i e) :=
  Below.setCell (Below.setCell (Below.setCell h hg _) hg _) hg _
theorem GSt.setX (h : GSt W0 w b n k a c gT g0 p0 g1 p1 X Z) (i : Nat) (hi : i < n) (e : E3) : GSt W0 (put3 w g0 i e) b n k a c gT g0 p0 g1 p1 (X.set i e) Z :=
  have f := Far.put3 w g0 i e
  have hl := h.O0.lt
  ⟨h.P.far f (by omega), h.R.far f (by omega), h.T.far f h.ne.2.1.symm, OwnG.set h.O0 i hi e, h.O1.farF f h.ne.1.symm, below_putE h.bw (by omega) i e, h.ne, h.lT⟩
theorem GSt.setZ (h : GSt W0 w b n k a c gT g0 p0 g1 p1 X Z) (i : Nat) (hi : i < n) (e : E3) : GSt W0 (put3 w g1 i e) b n k a c gT g0 p0 g1 p1 X (Z.set i e) :=
  have f := Far.put3 w g1 i e
  have hl := h.O1.lt
  ⟨h.P.far f (by omega), h.R.far f (by omega), h.T.far f h.ne.2.2.symm, h.O0.farF f h.ne.1, OwnG.set h.O1 i hi e, below_putE h.bw (by omega) i e, h.ne, h.lT⟩
theorem GSt.phX (h : GSt W0 w b n k a c gT g0 p0 g1 p1 X Z) (i : Nat) (hi : i < n) (v : Int) : GSt W0 (w.setCell ⟨g0, i * 3, none⟩ (.int .i64 v)) b n k a c gT g0 p0 g1 p1 (X.set i ⟨v, (X.getD i ⟨0, 0, 0⟩).b, (X.getD i ⟨0, 0, 0⟩).c⟩) Z :=
  have f := Far.set w g0 (i * 3) (.int .i64 v)
  have hl := h.O0.lt
  ⟨h.P.far f (by omega), h.R.far f (by omega), h.T.far f h.ne.2.1.symm, OwnG.ph h.O0 i hi v, h.O1.farF f h.ne.1.symm, Below.setCell h.bw (by dsimp only; omega) _, h.ne, h.lT⟩
theorem GSt.phZ (h : GSt W0 w b n k a c gT g0 p0 g1 p1 X Z) (i : Nat) (hi : i < n) (v : Int) : GSt W0 (w.setCell ⟨g1, i * 3, none⟩ (.int .i64 v)) b n k a c gT g0 p0 g1 p1 X (Z.set i ⟨v, (Z.getD i ⟨0, 0, 0⟩).b, (Z.getD i ⟨0, 0, 0⟩).c⟩) :=
  have f := Far.set w g1 (i * 3) (.int .i64 v)
  have hl := h.O1.lt
  ⟨h.P.far f (by omega), h.R.far f (by omega), h.T.far f h.ne.2.2.symm, h.O0.farF f h.ne.1, OwnG.ph h.O1 i hi v, Below.setCell h.bw (by dsimp only; omega) _, h.ne, h.lT⟩
/-- A box of the walk's own over the stores of the tableau. -/
theorem Box3.putE {x y z : Value} {g q : Nat} (h : Box3 w g x y z) (i : Nat) (e : E3) (hne : g ≠ q) : Box3 (put3 w q i e) g x y z := h.far (Far.put3 w q i e) hne
theorem Box3.ph {x y z : Value} {g q : Nat} (h : Box3 w g x y z) (i : Nat) (v : Value) (hne : g ≠ q) : Box3 (w.setCell ⟨q, i, none⟩ v) g x y z := h.far (Far.set w q i v) hne
/-- What the walk of a gate's tableau leaves. -/
def GPost (n : Nat) (w : World) (X Z : List E3) (e : Ending) (w' : World) : Prop :=
  ∃ r0 r1, e = .returned (.agg #[.int .i64 (n : Int), r0, r1]) ∧ OwnE w' w.heap.size 121 r0 E3.cs 3 X ∧ OwnE w' w.heap.size 121 r1 E3.cs 3 Z ∧ Apart r0 r1 ∧ Below w.heap.size w w'
theorem GSt.done {w0 w : World} {n k a c gT g0 p0 g1 p1 : Nat} {X Z : List E3} (h : GSt w0 w w0.heap.size n k a c gT g0 p0 g1 p1 X Z) (x y z : Value) :
    GPost n w0 X Z (.returned (.agg #[.int .i64 (n : Int), .slice (some ⟨g0, 0, none⟩) n p0, .slice (some ⟨g1, 0, none⟩) n p1])) (set3 w (w0.heap.size + 1) x y z) :=
  have f := Far.set3 w (w0.heap.size + 1) x y z
  have l0 := h.O0.lt
  have l1 := h.O1.lt
  ⟨_, _, rfl, OwnE.le (h.O0.farF f (by omega)).own (by omega), OwnE.le (h.O1.farF f (by omega)).own (by omega),
    fun g h0 h1 => h.ne.1 (by
      have e0 : some g0 = some g := h0
      have e1 : some g1 = some g := h1
      injection e0 with e0; injection e1 with e1; omega), below_put3 h.bw (by omega) x y z⟩
theorem GPost.eq {n : Nat} {w0 w : World} {X Z X' Z' : List E3} {e : Ending} (h : GPost n w0 X Z e w) (hx : X = X') (hz : Z = Z') : GPost n w0 X' Z' e w := by subst hx; subst hz; exact h
theorem idX_get {n a : Nat} (h : a < n) : (idX n).getD a ⟨0, 0, 0⟩ = ⟨0, (2 : Int) ^ a, 0⟩ := by unfold idX; simp [List.getD, h]
theorem idZ_get {n a : Nat} (h : a < n) : (idZ n).getD a ⟨0, 0, 0⟩ = ⟨0, 0, (2 : Int) ^ a⟩ := by unfold idZ; simp [List.getD, h]
theorem set_pes (L : List PN) (i p x z : Nat) : (pes L).set i ⟨(p : Int), (x : Int), (z : Int)⟩ = pes (L.set i ⟨p, x, z⟩) := by
  unfold pes; rw [List.map_set]; rfl
theorem E3set_get {L : List E3} {i : Nat} (h : i < L.length) (e : E3) : (L.set i e).getD i ⟨0, 0, 0⟩ = e := by simp [List.getD, h]
end Go.Proofs.Ytdkfoleippncnaa
