/- The program's phases: slices.Repeat over gates. -/
import Derived.Test.YtbcjligkjoimmaaZ25DelT
import Derived.Test.YtbcjligkjoimmaaZ02ElGate
import Derived.Test.YtbcjligkjoimmaaZ06TyGate
import Derived.Test.YtbcjligkjoimmaaShelf
import Derived.Deep.RegionLaw
import Derived.Test.YtbcjligkjoimmaaZ36M
import Derived.Test.YtbcjligkjoimmaaZ37M
import Derived.Test.YtbcjligkjoimmaaZ39Gr5
import Derived.Test.YtbcjligkjoimmaaZ41Gr8
import Derived.Test.YtbcjligkjoimmaaZ42M
namespace Go.Proofs.Ytbcjligkjoimmaa
set_option linter.unusedSimpArgs false
set_option linter.unusedVariables false
set_option linter.unnecessarySimpa false
set_option maxRecDepth 200000
open Go.ChangeShapes Go.WideShapes Go.ChangeAt Go.RowKit

section
variable {P : Program}
theorem run_copy_k (w : World) (dT sT ty elem : TypeId) (i : TypeInfo) (b o dLen dCap : Nat) (a : Addr) (sLen sCap m k : Nat) (cs : List Value)
    (hu : P.underlying dT = some (.slice elem)) (hq : P.info? elem = some i) (hi : i.size = k) (hm : m = Nat.min sLen dLen) (hn : cs.length = m * k)
    (hsrc : ∀ j v, cs[j]? = some v → w.cell? (a.add j) = some v) (hc : ∀ j, j < cs.length → (w.cell? ⟨b, o + j, none⟩).isSome = true) (hf : ∀ j, j < cs.length → w.frozen? ⟨b, o + j, none⟩ = false) (h1 : ∀ v ∈ cs, v.oneCell' = true) :
    (Builtin.copy_ #[dT, sT] ty #[.slice (some ⟨b, o, none⟩) dLen dCap, .slice (some a) sLen sCap]).run P w = .ok (goInt m) (w.setCells b o cs) := by
  have hl := run_loadCells_list (P := P) w a cs hsrc
  have hst := run_storeCells_cells (P := P) b o cs 0 w (by simpa using hc) (by simpa using hf) h1
  simp [Builtin.copy_, run_underlying hu, Builtin.lenOf, Builtin.firstCells, sizeOf, typeInfo, hq, hi, ← hm, ← hn, hl, hst]
theorem step_copy_k {ops : Array Oper} {o : Oper} {a : Act} {w : World} {K : Act → World → Prop} {Q : Exit → Act → World → Prop} {E : Prop} (hgd : o.guard = none) (d s : Operand) (dT sT : TypeId)
    (ho : o.op = .call { callee := .builtin .copy, args := #[d, s], argTypes := #[dT, sT] }) (elem : TypeId) (i : TypeInfo) (hu : P.underlying dT = some (.slice elem)) (hq : P.info? elem = some i) (k : Nat) (hi : i.size = k)
    (b of dLen dCap : Nat) (ad : Addr) (sLen sCap : Nat) (hd : a.eval d = .slice (some ⟨b, of, none⟩) dLen dCap) (hs : a.eval s = .slice (some ad) sLen sCap)
    (m : Nat) (cs : List Value) (hm : m = Nat.min sLen dLen) (hn : cs.length = m * k)
    (hsrc : ∀ j v, cs[j]? = some v → w.cell? (ad.add j) = some v) (hc : ∀ j, j < cs.length → (w.cell? ⟨b, of + j, none⟩).isSome = true) (hf : ∀ j, j < cs.length → w.frozen? ⟨b, of + j, none⟩ = false) (h1 : ∀ v ∈ cs, v.oneCell' = true)
    (h : K (a.put o.dst (goInt m)) (w.setCells b of cs)) :
    if Region.wanted o (yielded ops a.tmps) = true then Oper.wp P o a w K Q else E := by
  have hw : Region.wanted o (yielded ops a.tmps) = true := by simp [Region.wanted, hgd]
  rw [if_pos hw]
  have hrun := run_copy_k (P := P) w dT sT o.type elem i b of dLen dCap ad sLen sCap m k cs hu hq hi hm hn hsrc hc hf h1
  unfold Oper.wp
  simp [execOp, ho, resolve, invoke, builtin, hd, hs, hrun, Result.andThen]
  exact h
end
/-- j gates of the kind, then gates that are not set yet. -/
def repL (x : E3) (c j : Nat) : List E3 := List.replicate j x ++ List.replicate (c - j) ⟨0, 0, 0⟩
theorem repL_len (x : E3) {c j : Nat} (h : j ≤ c) : (repL x c j).length = c := by unfold repL; simp; omega
theorem repL_set (x : E3) {c j m : Nat} (h : j + m ≤ c) : setM ((repL x c j).flatMap E3.cs) (j * 3) ((List.replicate m x).flatMap E3.cs) = (repL x c (j + m)).flatMap E3.cs := by
  have hl : ((repL x c j).flatMap E3.cs).length = c * 3 := by rw [flat_len E3.len, repL_len x (by omega)]
  have hm : ((List.replicate m x).flatMap E3.cs).length = m * 3 := by rw [flat_len E3.len, List.length_replicate]
  rw [setM_eq _ _ _ (by rw [hl, hm]; omega), hm, ← Nat.add_mul, flat_take E3.len, flat_drop E3.len, ← List.flatMap_append, ← List.flatMap_append]
  congr 1
  unfold repL
  rw [List.take_append_of_le_length (by simp), List.take_of_length_le (by simp), List.drop_append]
  rw [List.drop_of_length_le (by simp), List.nil_append, List.length_replicate, List.drop_replicate, List.replicate_append_replicate, show c - j - (j + m - j) = c - (j + m) by omega]
theorem rep_take (x : E3) {c j m : Nat} (h : m ≤ j) (i : Nat) (v : Value) (hv : ((List.replicate m x).flatMap E3.cs)[i]? = some v) : ((repL x c j).flatMap E3.cs)[i]? = some v := by
  have hi := (List.getElem?_eq_some_iff.1 hv).1
  have e : (List.replicate m x).flatMap E3.cs = ((repL x c j).flatMap E3.cs).take (m * 3) := by
    rw [flat_take E3.len]
    congr 1
    unfold repL
    rw [List.take_append_of_le_length (by simpa using h), List.take_replicate, Nat.min_eq_left h]
  rw [e] at hv
  rw [List.getElem?_take] at hv
  split at hv
  · exact hv
  · cases hv
theorem made_gates (c : Nat) : (madeCells #[.int .i64 0, .int .i64 0, .int .i64 0] (c * 3)).toList = (List.replicate c (⟨0, 0, 0⟩ : E3)).flatMap E3.cs := by
  apply List.ext_getElem
  · rw [flat_len E3.len]; simp [size_madeCells]
  · intro i h1 h2
    have hz : ∀ v ∈ (List.replicate c (⟨0, 0, 0⟩ : E3)).flatMap E3.cs, v = .int .i64 0 := by
      intro v hv
      obtain ⟨x, hx, hv⟩ := List.mem_flatMap.1 hv
      rw [List.eq_of_mem_replicate hx] at hv
      simpa [E3.cs] using hv
    rw [hz _ (List.getElem_mem h2)]
    simp [madeCells, Value.cells]
    have : i % 3 < 3 := Nat.mod_lt _ (by omega)
    rcases (show i % 3 = 0 ∨ i % 3 = 1 ∨ i % 3 = 2 by omega) with e | e | e <;> rw [e] <;> rfl
theorem own_made (w : World) (c base : Nat) (t : TypeId) (hc : c ≤ 1000) (hb : base ≤ w.heap.size) :
    (w.alloc (.cells (madeCells #[.int .i64 0, .int .i64 0, .int .i64 0] (c * 3)) t)).ownsRow base t 3 (.slice (some ⟨w.heap.size, 0, none⟩) c c) c ((repL ⟨12, 0, 0⟩ c 0).flatMap E3.cs) := by
  have e : repL ⟨12, 0, 0⟩ c 0 = List.replicate c ⟨0, 0, 0⟩ := by simp [repL]
  rw [e]
  refine ⟨by rw [flat_len E3.len, List.length_replicate], .inr ⟨w.heap.size, c, madeCells #[.int .i64 0, .int .i64 0, .int .i64 0] (c * 3), rfl, hb, ?_, Nat.le_refl _, by unfold maxLen; omega, size_madeCells _ _, ?_⟩⟩
  · show (w.heap.push _)[w.heap.size]? = _
    simp
  · rw [made_gates, List.take_of_length_le (by rw [flat_len E3.len, List.length_replicate]; omega)]
theorem rep_one (n : Nat) (x : E3) : ∀ v ∈ (List.replicate n x).flatMap E3.cs, v.oneCell' = true := flat_one E3.one _
theorem own_there {w : World} {base g n cap : Nat} {T9 : TypeId} {xs : List E3} (h : w.ownsRow base T9 3 (.slice (some ⟨g, 0, none⟩) n cap) n (xs.flatMap E3.cs)) (j : Nat) (hj : j < n * 3) : (w.cell? ⟨g, j, none⟩).isSome = true ∧ w.frozen? ⟨g, j, none⟩ = false := by
  refine ⟨?_, World.ownsRow.frozenAt h j⟩
  have hl := h.1
  rw [own_cellAt h (j := j) (u := (xs.flatMap E3.cs)[j]'(by omega)) (List.getElem?_eq_getElem _)]; rfl
theorem grow_set {w0 w : World} {B g : Nat} (h : Below B w0 w) (hB : B ≤ w.heap.size) (hg : B ≤ g) {w' : World} (hw : w.grownBy w' (some g)) : Below B w0 w' := h.grown hw hB (fun k hk => by injection hk with hk; omega)
set_option maxHeartbeats 8000000 in
theorem slices_Repeat_Gate (xb c : Nat) (hc : c ≤ 7) (w : World) (x0 : w.cell? ⟨xb, 0, none⟩ = some (.int .i64 12)) (x1 : w.cell? ⟨xb, 1, none⟩ = some (.int .i64 0)) (x2 : w.cell? ⟨xb, 2, none⟩ = some (.int .i64 0)) :
    Calls Try.prog 79 #[.slice (some ⟨xb, 0, none⟩) 1 1, .int .i64 (c : Int)] w fun e w' => ∃ v, e = .returned v ∧ OwnE w' w.heap.size 58 v E3.cs 3 (List.replicate c ⟨12, 0, 0⟩) ∧ Below w.heap.size w w' := by
  obtain ⟨i0, hi, hz0, hz1, hz2⟩ := info_parts info_Gate
  have hmk : ∀ W : World, (Instr.makeSlice 29 (.int .i64 (c : Int)) (.int .i64 (c : Int))).run Try.prog W = .ok (.slice (some ⟨W.heap.size, 0, none⟩) c c) (W.alloc (.cells (madeCells #[.int .i64 0, .int .i64 0, .int .i64 0] (c * 3)) 58)) := fun W => by
    have h := run_make (P := Try.prog) W 29 58 i0 (.agg #[.int .i64 0, .int .i64 0, .int .i64 0]) Try.underlying29 hi hz0 .i64 .i64 (c : Int) (c : Int) (by omega) (by omega) (by rw [hz2]; omega) (by omega)
    rw [Int.toNat_natCast, hz1] at h
    exact h
  have O1 := own_made w c w.heap.size 58 (by omega) (Nat.le_refl _)
  have b1 : Below w.heap.size w (w.alloc (.cells (madeCells #[.int .i64 0, .int .i64 0, .int .i64 0] (c * 3)) 58)) := (by repeat (first | exact Below.refl _ _ | assumption | refine Below.drew ?_ | refine below_drewN ?_ _ | refine Below.alloc ?_ (by first | omega | (simp <;> omega)) _ | refine Below.setCell ?_ (by first | omega | (simp <;> omega)) _ | refine Below.trans ?_ (Below.mono (by assumption) (by first | omega | (simp <;> omega)))))
  replace x0 := cell_alloc_keep (.cells (madeCells #[.int .i64 0, .int .i64 0, .int .i64 0] (c * 3)) 58) x0
  replace x1 := cell_alloc_keep (.cells (madeCells #[.int .i64 0, .int .i64 0, .int .i64 0] (c * 3)) 58) x1
  replace x2 := cell_alloc_keep (.cells (madeCells #[.int .i64 0, .int .i64 0, .int .i64 0] (c * 3)) 58) x2
  obtain ⟨m1, hm1⟩ : ∃ m1, m1 = Nat.min 1 c := ⟨_, rfl⟩
  have hm1' : m1 ≤ 1 ∧ m1 ≤ c ∧ (c = 0 ∨ m1 = 1) := by
    have : Nat.min 1 c = min 1 c := rfl
    omega
  have hsrc : ∀ j v, ((List.replicate m1 (⟨12, 0, 0⟩ : E3)).flatMap E3.cs)[j]? = some v → (w.alloc (.cells (madeCells #[.int .i64 0, .int .i64 0, .int .i64 0] (c * 3)) 58)).cell? ((⟨xb, 0, none⟩ : Addr).add j) = some v := by
    intro j v hv
    rw [Addr.add_lit, Nat.zero_add]
    rcases (show m1 = 0 ∨ m1 = 1 by omega) with e | e
    · rw [e] at hv; simp at hv
    · rw [e] at hv
      match j, hv with
      | 0, hv => simp [E3.cs] at hv; subst hv; exact x0
      | 1, hv => simp [E3.cs] at hv; subst hv; exact x1
      | 2, hv => simp [E3.cs] at hv; subst hv; exact x2
  have hlen1 : ((List.replicate m1 (⟨12, 0, 0⟩ : E3)).flatMap E3.cs).length = m1 * 3 := by rw [flat_len E3.len, List.length_replicate]
  have hcp : ∀ ty, (Builtin.copy_ #[29, 29] ty #[.slice (some ⟨w.heap.size, 0, none⟩) c c, .slice (some ⟨xb, 0, none⟩) 1 1]).run Try.prog (w.alloc (.cells (madeCells #[.int .i64 0, .int .i64 0, .int .i64 0] (c * 3)) 58)) = .ok (goInt m1) ((w.alloc (.cells (madeCells #[.int .i64 0, .int .i64 0, .int .i64 0] (c * 3)) 58)).setCells w.heap.size 0 ((List.replicate m1 (⟨12, 0, 0⟩ : E3)).flatMap E3.cs)) :=
    fun ty => run_copy_k _ _ _ ty 58 i0 w.heap.size 0 c c _ 1 1 m1 3 _ Try.underlying29 hi hz1 hm1 hlen1 hsrc (fun j hj => by rw [Nat.zero_add]; exact (own_there O1 j (by omega)).1) (fun j hj => by rw [Nat.zero_add]; exact (own_there O1 j (by omega)).2) (rep_one _ _)
  obtain ⟨o2, g2⟩ := own_setCells ((List.replicate m1 (⟨12, 0, 0⟩ : E3)).flatMap E3.cs) 0 O1
  have e2 := repL_set ⟨12, 0, 0⟩ (c := c) (j := 0) (m := m1) (by omega)
  rw [Nat.zero_mul, Nat.zero_add] at e2
  rw [e2] at o2
  have O2 := Lib.hid o2
  have B2 := Lib.hid (grow_set b1 (by simp) (Nat.le_refl _) g2)
  clear O1 o2 g2 e2 b1 hsrc x0 x1 x2
  have hgi : goInt m1 = .int .i64 (m1 : Int) := rfl
  clear hm1
  go_enter Try.func79, Try.ntmps79
  go_wp2_with fail
  refine (show Calls Try.prog 95 #[.int .u64 ((1 : Nat) : Int), .int .u64 (c : Int)] _ _ from Try.bits_Mul 1 c (by omega) (by omega) _).mono ?_; rintro e w' ⟨rfl, rfl⟩
  rw [show 1 * c / 18446744073709551616 = 0 from by omega, show 1 * c % 18446744073709551616 = c from by omega]
  have q1 : ¬ (9223372036854775807 : Int) < (c : Int) := by omega
  have q2 : ¬ (0 : Int) < ((0 : Nat) : Int) := by omega
  go_wp2_with fail
  generalize hX : (w'.alloc (.cells (madeCells #[.int .i64 0, .int .i64 0, .int .i64 0] (c * 3)) 58)).setCells w'.heap.size 0 ((List.replicate m1 (⟨12, 0, 0⟩ : E3)).flatMap E3.cs) = X at *
  clear hX hcp
  go_loopw [8] (fun i wr => ∃ j : Nat, j ≤ c ∧ (c = 0 ∨ 1 ≤ j) ∧ i = .int .i64 j ∧ Hid (wr.ownsRow w'.heap.size 58 3 (.slice (some ⟨w'.heap.size, 0, none⟩) c c) c ((repL ⟨12, 0, 0⟩ c j).flatMap E3.cs)) ∧ Hid (Below w'.heap.size w' wr) ∧ w'.heap.size ≤ wr.heap.size) (fun i _ => c - (intOf i).toNat)
  case atStart => exact ⟨m1, hm1'.2.1, by omega, rfl, O2, B2, B2.out.size⟩
  case round =>
    clear O2 B2
    obtain ⟨j, hj, hc0, rfl, hO, hB, hsz⟩ := hrel
    by_cases hlt : j < c
    · have i1 : (j : Int) < (c : Int) := by omega
      have i0' : (0 : Int) ≤ (j : Int) := by omega
      have hne : ¬ c = j := by omega
      obtain ⟨m, hm⟩ : ∃ m, m = Nat.min j (c - j) := ⟨_, rfl⟩
      have hm' : m ≤ j ∧ j + m ≤ c ∧ 1 ≤ m := by
        have : Nat.min j (c - j) = min j (c - j) := rfl
        omega
      have OD := hO.out.drew
      have hcl : ((List.replicate m (⟨12, 0, 0⟩ : E3)).flatMap E3.cs).length = m * 3 := by rw [flat_len E3.len, List.length_replicate]
      have s1 := Lib.hid (fun (t : Nat) (v : Value) (hv : ((List.replicate m (⟨12, 0, 0⟩ : E3)).flatMap E3.cs)[t]? = some v) => show wr.drew.cell? ((⟨w'.heap.size, 0, none⟩ : Addr).add t) = some v from by rw [Addr.add_lit, Nat.zero_add]; exact own_cellAt OD (rep_take _ hm'.1 t v hv))
      have s2 := Lib.hid (fun (t : Nat) (ht : t < ((List.replicate m (⟨12, 0, 0⟩ : E3)).flatMap E3.cs).length) => own_there OD (j * 3 + t) (by rw [hcl] at ht; omega))
      obtain ⟨o2, g2⟩ := own_setCells ((List.replicate m (⟨12, 0, 0⟩ : E3)).flatMap E3.cs) (j * 3) OD
      rw [repL_set ⟨12, 0, 0⟩ hm'.2.1] at o2
      have O3 := Lib.hid o2
      have B3 := Lib.hid (grow_set (Below.drew hB.out) hsz (Nat.le_refl _) g2)
      have hcl2 := Lib.hid hcl
      have HMM := Lib.hid hm
      have z3 := Lib.hid (show w'.heap.size ≤ (wr.drew.setCells w'.heap.size (j * 3) ((List.replicate m (⟨12, 0, 0⟩ : E3)).flatMap E3.cs)).heap.size from Nat.le_trans hsz g2.size)
      clear o2 g2 hO hB OD hcl hm
      go_wp2_with fail
      go_region_law (refine step_copy_k rfl (.tmp 41) (.tmp 44) 29 29 rfl 58 i0 Try.underlying29 hi 3 hz1 w'.heap.size (j * 3) (c - j) (c - j) ⟨w'.heap.size, 0, none⟩ j c (by simp [Act.eval, Act.put]) (by simp [Act.eval, Act.put]) m ((List.replicate m (⟨12, 0, 0⟩ : E3)).flatMap E3.cs) HMM.out hcl2.out s1.out (fun t ht => (s2.out t ht).1) (fun t ht => (s2.out t ht).2) (rep_one _ _) ?_)
      simp only [Act.put, List.setIfInBounds_toArray, List.set_cons_zero, List.set_cons_succ, List.getElem_toArray, List.getElem_cons_zero, List.getElem_cons_succ]
      go_wp2_with fail
      have hw : IntKind.i64.wrap ((j : Int) + (m : Int)) = ((j + m : Nat) : Int) := by rw [IntWalk.i64_in _ (by omega)]; omega
      go_roundw
      case rel => exact ⟨j + m, hm'.2.1, by omega, by rw [← hw], O3, B3, z3.out⟩
      case measure => simp only [hw, intOf]; omega
    · have ej : j = c := by omega
      subst ej
      have i1 : ¬ (j : Int) < (j : Int) := by omega
      have e9 : repL (⟨12, 0, 0⟩ : E3) j j = List.replicate j ⟨12, 0, 0⟩ := by simp [repL]
      rw [e9] at hO
      go_wp2_with fail
      go_ret
      exact ⟨_, rfl, (show OwnE _ _ _ _ _ _ _ from by unfold OwnE; rw [List.length_replicate]; exact hO.out), hB.out⟩
theorem impl_phases_any (c : Nat) (hc : c ≤ 7) (w : World) :
    Calls Try.prog 34 #[.int .i64 (c : Int)] w fun e w' => ∃ v, e = .returned v ∧ OwnE w' w.heap.size 58 v E3.cs 3 (List.replicate c ⟨12, 0, 0⟩) ∧ Below w.heap.size w w' := by
  have x0 : (w.alloc (.cells #[.int .i64 12, .int .i64 0, .int .i64 0] 58)).cell? ⟨w.heap.size, 0, none⟩ = some (.int .i64 12) := (by repeat (first | (refine Eq.trans (World.cell?_alloc_at _ _ _ _ ?hh) ?_; (case hh => (simp; done)); rfl) | refine cell_alloc_keep _ ?_))
  have x1 : (w.alloc (.cells #[.int .i64 12, .int .i64 0, .int .i64 0] 58)).cell? ⟨w.heap.size, 1, none⟩ = some (.int .i64 0) := (by repeat (first | (refine Eq.trans (World.cell?_alloc_at _ _ _ _ ?hh) ?_; (case hh => (simp; done)); rfl) | refine cell_alloc_keep _ ?_))
  have x2 : (w.alloc (.cells #[.int .i64 12, .int .i64 0, .int .i64 0] 58)).cell? ⟨w.heap.size, 2, none⟩ = some (.int .i64 0) := (by repeat (first | (refine Eq.trans (World.cell?_alloc_at _ _ _ _ ?hh) ?_; (case hh => (simp; done)); rfl) | refine cell_alloc_keep _ ?_))
  have HR := Lib.hid (slices_Repeat_Gate w.heap.size c hc _ x0 x1 x2)
  clear x0 x1 x2
  go_enter Try.func34, Try.ntmps34
  go_wp2_with fail
  refine HR.out.mono ?_; rintro e w1 ⟨v, rfl, ho, hb1⟩
  have O1 := Lib.hid (OwnE.le ho (base' := w.heap.size) (by simp)); clear ho
  go_wp2_with fail
  go_ret
  exact ⟨_, rfl, O1.out, (by repeat (first | exact Below.refl _ _ | assumption | refine Below.drew ?_ | refine below_drewN ?_ _ | refine Below.alloc ?_ (by first | omega | (simp <;> omega)) _ | refine Below.setCell ?_ (by first | omega | (simp <;> omega)) _ | refine Below.trans ?_ (Below.mono (by assumption) (by first | omega | (simp <;> omega)))))⟩
end Go.Proofs.Ytbcjligkjoimmaa
namespace Go.Proofs.Ytbcjligkjoimmaa
set_option linter.unusedSimpArgs false
set_option linter.unusedVariables false
set_option linter.unnecessarySimpa false
set_option maxRecDepth 200000
open Go.ChangeShapes Go.WideShapes Go.ChangeAt Go.RowKit

variable {p : PP} {m : Nat} {v u : Value} {W : World}
theorem PnOk.nn (h : PnOk p m) : p.n.toNat = m := by have := h.n; omega
theorem PnOk.masks (h : PnOk p m) : p.ts.map (·.a) = ints (pnM p) := by
  unfold pnM ints
  rw [List.map_map]
  refine List.map_congr_left fun t ht => ?_
  obtain ⟨k, hk, rfl⟩ := List.getElem_of_mem ht
  have h2 := term_ok h.ts hk
  have e : p.ts.getD k ⟨0, 0⟩ = p.ts[k] := by simp [List.getD, hk]
  rw [e] at h2
  simp only [Function.comp_apply]
  omega
theorem impl_gray_p (h : PnOk p m) (hM : RdI W v (p.ts.map (·.a))) :
    Calls Try.prog 25 #[.int .i64 p.n, v] W fun e w' => ∃ u, e = .returned u ∧ OwnE w' W.heap.size 58 u E3.cs 3 (pnNet p) ∧ Below W.heap.size W w' := by
  rw [h.masks] at hM
  unfold pnNet
  rw [h.nn, h.n]
  exact impl_gray_any m v (pnM p) W hM h.sm h.m1 h.m5
theorem spec_l14Gray_p (h : PnOk p m) (hM : RdI W v (p.ts.map (·.a))) :
    Calls Try.prog 16 #[.int .i64 p.n, v] W fun e w' => ∃ u, e = .returned (.agg #[.int .i64 p.n, u]) ∧ OwnE w' W.heap.size 58 u E3.cs 3 (pnNet p) ∧ Below W.heap.size W w' := by
  rw [h.masks] at hM
  unfold pnNet
  rw [h.nn, h.n]
  exact spec_l14Gray_any m v (pnM p) W hM h.sm h.m1 h.m5
theorem lin_some {r : Option (List Int)} {zs : List Int} {e : Ending} {w' : World} (hr : r = some zs) (h : LinPost W r e w') : ∃ v, e = .returned (.tuple #[.agg #[v], .bool true]) ∧ OwnI w' W.heap.size v zs ∧ Below W.heap.size W w' := by
  subst hr; exact h
theorem impl_LinearOf_p (h : PnOk p m) (hN : RdE W v E3.cs 3 (pnNet p)) :
    Calls Try.prog 27 #[.agg #[.int .i64 p.n, v]] W fun e w' => ∃ u, e = .returned (.tuple #[.agg #[u], .bool true]) ∧ OwnI w' W.heap.size u (ints (pnR p)) ∧ Below W.heap.size W w' :=
  (impl_LinearOf_any v ⟨p.n, pnNet p⟩ W hN (by have := h.netl; dsimp only; omega)).mono fun _ _ => lin_some h.lo
theorem spec_LinearOf_p (h : PnOk p m) (hN : RdE W v E3.cs 3 (pnNet p)) :
    Calls Try.prog 17 #[.agg #[.int .i64 p.n, v]] W fun e w' => ∃ u, e = .returned (.tuple #[.agg #[u], .bool true]) ∧ OwnI w' W.heap.size u (ints (pnR p)) ∧ Below W.heap.size W w' :=
  (spec_LinearOf_any v ⟨p.n, pnNet p⟩ W hN (by have := h.netl; dsimp only; omega)).mono fun _ _ => lin_some h.lo
theorem impl_inverted_p (h : PnOk p m) (hR : RdI W v (ints (pnR p))) :
    Calls Try.prog 29 #[.agg #[v]] W fun e w' => ∃ u, e = .returned (.agg #[u]) ∧ OwnI w' W.heap.size u (ints (pnI p)) ∧ Below W.heap.size W w' := by
  have h9 := impl_inverted_any v (pnR p) W hR h.rs (by rw [h.rl]; exact h.m1) (by rw [h.rl]; exact h.m5)
  rw [h.rl] at h9
  unfold pnI
  rw [h.nn]
  exact h9
theorem spec_InvertLinear_p (h : PnOk p m) (hR : RdI W v (ints (pnR p))) :
    Calls Try.prog 18 #[.agg #[v]] W fun e w' => ∃ u, e = .returned (.tuple #[.agg #[u], .bool true]) ∧ OwnI w' W.heap.size u (ints (pnI p)) ∧ Below W.heap.size W w' :=
  (spec_InvertLinear_any v _ W hR (by rw [ints_len, h.rl]; have := h.m5; omega)).mono fun _ _ => lin_some h.inv
theorem impl_ComposeLinear_p (h : PnOk p m) (hI : RdI W v (ints (pnI p))) (hO : RdI W u p.out) :
    Calls Try.prog 28 #[.agg #[v], .agg #[u]] W fun e w' => ∃ x, e = .returned (.tuple #[.agg #[x], .bool true]) ∧ OwnI w' W.heap.size x (ints (pnT p)) ∧ Below W.heap.size W w' :=
  (impl_ComposeLinear_any v u _ _ W hI hO (by rw [ints_len, h.il]; have := h.m5; omega) (by rw [h.ol]; have := h.m5; omega)).mono fun _ _ => lin_some h.comp
theorem spec_l12Then_p (h : PnOk p m) (hI : RdI W v (ints (pnI p))) (hO : RdI W u p.out) :
    Calls Try.prog 20 #[.agg #[v], .agg #[u]] W fun e w' => ∃ x, e = .returned (.agg #[x]) ∧ OwnI w' W.heap.size x (ints (pnT p)) ∧ Below W.heap.size W w' := by
  rw [h.onat] at hO
  have ho := natL_len p.out
  have h1 := h.il; have h2 := h.ol; have h3 := h.m1; have h4 := h.m5
  exact spec_l12Then_any v u _ _ W hI hO h.is h.olt (by omega) (by omega) (by omega) (by omega)
theorem impl_synthesized_p (h : PnOk p m) (hT : RdI W v (ints (pnT p))) :
    Calls Try.prog 32 #[.agg #[v]] W fun e w' => ∃ u, e = .returned u ∧ OwnE w' W.heap.size 58 u E3.cs 3 (redG (pnT p)).reverse ∧ Below W.heap.size W w' :=
  impl_synthesized_any v _ W hT h.tsm (by rw [h.tl]; exact h.m1) (by rw [h.tl]; exact h.m5)
theorem spec_l12Synthesize_p (h : PnOk p m) (hT : RdI W v (ints (pnT p))) :
    Calls Try.prog 19 #[.agg #[v]] W fun e w' => ∃ u, e = .returned (.agg #[.int .i64 p.n, u]) ∧ OwnE w' W.heap.size 58 u E3.cs 3 (redG (pnT p)).reverse ∧ Below W.heap.size W w' := by
  have h9 := spec_l12Synthesize_any v _ W hT h.tsm (by rw [h.tl]; exact h.m1) (by rw [h.tl]; exact h.m5)
  rw [h.tl, ← h.n] at h9
  exact h9
theorem impl_placed_p (h : PnOk p m) (hF : RdE W v E3.cs 3 (pnFull p)) (hT : RdE W u E2.cs 2 p.ts) :
    Calls Try.prog 30 #[.int .i64 p.n, v, u] W fun e w' => ∃ x q, e = .returned (.tuple #[x, .bool q]) ∧ OwnE w' W.heap.size 58 x E3.cs 3 (pnEnd p) ∧ Below W.heap.size W w' := by
  have h9 := impl_placed_any m v u ⟨p.n, pnFull p⟩ p.ts W hF hT h.full h.n h.ts
  rw [← h.n] at h9
  refine h9.mono fun e w' ⟨x, he, ho, hb⟩ => ⟨x, _, he, ?_, hb⟩
  unfold pnEnd
  rw [h.nn]
  exact ho
theorem spec_l14Place_p (h : PnOk p m) (hF : RdE W v E3.cs 3 (pnFull p)) (hT : RdE W u E2.cs 2 p.ts) :
    Calls Try.prog 21 #[.agg #[.int .i64 p.n, v], u] W fun e w' => ∃ x, ∃ q : Nat, e = .returned (.tuple #[.agg #[.int .i64 p.n, x], .int .i64 (q : Int)]) ∧ OwnE w' W.heap.size 58 x E3.cs 3 (pnEnd p) ∧ Below W.heap.size W w' := by
  have h9 := spec_l14Place_any m v u ⟨p.n, pnFull p⟩ p.ts W hF hT h.full h.n h.ts
  rw [← h.n] at h9
  refine h9.mono fun e w' ⟨x, he, ho, hb⟩ => ⟨x, _, he, ?_, hb⟩
  unfold pnEnd
  rw [h.nn]
  exact ho
theorem impl_circuitIf_p (h : PnOk p m) (hok : ppB p = true) (hO : RdE W v E3.cs 3 (pnOut p)) :
    Calls Try.prog 33 #[.int .i64 p.n, v] W (CircPost W (phnG p)) := by
  have hl : (pnOut p).length ≤ 400 := (of_decide_eq_true h.circ : CircOk ⟨p.n, pnOut p⟩).2.1
  have h9 := impl_circuitIf_any p.n v (pnOut p) W hO (by omega)
  rw [show circIf p.n (pnOut p) = phnG p from by rw [phnG_some hok]; unfold circIf; rw [if_pos h.circ]] at h9
  exact h9
end Go.Proofs.Ytbcjligkjoimmaa
