/- slices.Delete at one place of a row of terms that the call owns; slices.Clone over terms. -/
import Derived.Test.YtbcjligkjoimmaaZ24M
import Derived.Test.YtbcjligkjoimmaaZ09Words
import Derived.Shelf.RegionOpenPlain
import Derived.WalkSpells
import Derived.Deep.LoopGhost
import Derived.Shelf.Abstract
import Derived.Lib.SliceRun
import Derived.Deep.RegionLaw
namespace Go.Proofs.Ytbcjligkjoimmaa
set_option linter.unusedSimpArgs false
set_option linter.unusedVariables false
set_option linter.unnecessarySimpa false
set_option maxRecDepth 200000
open Go.ChangeShapes Go.WideShapes Go.ChangeAt Go.RowKit

def setM (xs : List Value) : Nat → List Value → List Value
  | _, [] => xs
  | o, v :: r => setM (xs.set o v) (o + 1) r
theorem setM_eq : ∀ (vs xs : List Value) (o : Nat), o + vs.length ≤ xs.length → setM xs o vs = xs.take o ++ vs ++ xs.drop (o + vs.length)
  | [], xs, o, _ => by simp [setM]
  | v :: r, xs, o, h => by
    simp only [List.length_cons] at h
    unfold setM
    rw [setM_eq r (xs.set o v) (o + 1) (by rw [List.length_set]; omega)]
    have ho : o < xs.length := by omega
    have e1 : (xs.set o v).take (o + 1) = xs.take o ++ [v] := by
      rw [List.take_succ_eq_append_getElem (by rw [List.length_set]; exact ho), List.take_set_of_le (Nat.le_refl _)]
      simp
    rw [e1, List.drop_set_of_lt (by omega)]
    simp [Nat.add_assoc, Nat.add_comm 1]
theorem own_setCells {base g n cap sz : Nat} {t : TypeId} : ∀ (vs : List Value) (o : Nat) {w : World} {xs : List Value}, w.ownsRow base t sz (.slice (some ⟨g, 0, none⟩) n cap) n xs →
    (w.setCells g o vs).ownsRow base t sz (.slice (some ⟨g, 0, none⟩) n cap) n (setM xs o vs) ∧ w.grownBy (w.setCells g o vs) (some g)
  | [], o, w, xs, h => ⟨h, ⟨rfl, rfl, rfl, Nat.le_refl _, fun _ _ _ => rfl⟩⟩
  | v :: r, o, w, xs, h => by
    obtain ⟨h1, g1⟩ := World.ownsRow.stored h o v
    obtain ⟨h2, g2⟩ := own_setCells r (o + 1) h1
    exact ⟨h2, ⟨g2.os.trans g1.os, g2.tape.trans g1.tape, g2.output.trans g1.output, Nat.le_trans g1.size g2.size, fun k hk hn => (g2.block k (Nat.lt_of_lt_of_le hk g1.size) hn).trans (g1.block k hk hn)⟩⟩
/-- A row that is cut shorter. -/
theorem own_cut {w : World} {base g n m cap sz : Nat} {t : TypeId} {xs : List Value} (h : w.ownsRow base t sz (.slice (some ⟨g, 0, none⟩) n cap) n xs) (hm : m ≤ n) : w.ownsRow base t sz (.slice (some ⟨g, 0, none⟩) m cap) m (xs.take (m * sz)) := by
  obtain ⟨h0, h1⟩ := h
  have hle : m * sz ≤ n * sz := Nat.mul_le_mul_right _ hm
  refine ⟨by rw [List.length_take]; omega, ?_⟩
  rcases h1 with ⟨e, _⟩ | ⟨g', cap', cur, e, hb, hg, h2, h3, h4, h5⟩
  · cases e
  · injection e with e1 e2 e3; subst e3; injection e1 with e1; injection e1 with e1; subst e1
    refine .inr ⟨g, cap, cur, rfl, hb, hg, by omega, h3, h4, ?_⟩
    rw [← h5, List.take_take, Nat.min_eq_left hle]
theorem own_caps {w : World} {base g n cap sz : Nat} {t : TypeId} {xs : List Value} (h : w.ownsRow base t sz (.slice (some ⟨g, 0, none⟩) n cap) n xs) : n ≤ cap ∧ cap ≤ 9223372036854775807 := by
  rcases h.2 with ⟨e, _⟩ | ⟨g', cap', cur, e, _, _, h1, h2, _⟩
  · cases e
  · injection e with _ _ e3; subst e3; exact ⟨h1, by simpa [maxLen] using h2⟩
theorem own_cellAt {w : World} {base g n cap sz : Nat} {t : TypeId} {xs : List Value} (h : w.ownsRow base t sz (.slice (some ⟨g, 0, none⟩) n cap) n xs) {j : Nat} {u : Value} (hj : xs[j]? = some u) : w.cell? ⟨g, j, none⟩ = some u := by
  have := World.ownsRow.cells h (g := g) rfl j u hj
  rw [Addr.add_lit, Nat.zero_add] at this
  exact this
/-- clear of one element of two cells. -/
theorem run_clear2 {P : Program} (w : World) (t e ty : TypeId) (a b : Value) (ht : P.underlying t = some (.slice e)) (hv : ∀ w, (zeroValue e).run P w = .ok (.agg #[a, b]) w) (ha : a.oneCell' = true) (hb : b.oneCell' = true) (g o c : Nat)
    (h0 : (w.cell? ⟨g, o, none⟩).isSome = true) (h1 : (w.cell? ⟨g, o + 1, none⟩).isSome = true) (f0 : w.frozen? ⟨g, o, none⟩ = false) (f1 : w.frozen? ⟨g, o + 1, none⟩ = false) :
    (Builtin.clear_ #[t] ty #[.slice (some ⟨g, o, none⟩) 1 c]).run P w = .ok (.tuple #[]) (w.setCells g o [a, b]) := by
  have hzc : (Builtin.zeroCells (Value.agg #[a, b]).cells 1).toList = [a, b] := by
    simp [Builtin.zeroCells]
    apply List.ext_getElem
    · simp [Value.cells]
    · intro i h1 h2
      simp [Value.cells] at h1 ⊢
      match i, h1 with
      | 0, _ => rfl
      | 1, _ => rfl
  have hst := run_storeCells_cells (P := P) g o [a, b] 0 w (fun j hj => by
      rw [Nat.add_zero]
      match j, hj with
      | 0, _ => exact h0
      | 1, _ => exact h1) (fun j hj => by
      rw [Nat.add_zero]
      match j, hj with
      | 0, _ => exact f0
      | 1, _ => exact f1) (by intro v hv'; simp at hv'; rcases hv' with rfl | rfl <;> assumption)
  rw [Nat.add_zero] at hst
  simp [Builtin.clear_, run_underlying ht, hv, hzc, hst]
theorem zero_Term : ∀ w, (zeroValue 48).run Try.prog w = .ok (.agg #[.int .i64 0, .int .i64 0]) w := fun w => by kernel_rfl
theorem flat_take {α : Type} {f : α → List Value} {sz : Nat} (hf : ∀ x, (f x).length = sz) : ∀ (xs : List α) (k : Nat), (xs.flatMap f).take (k * sz) = (xs.take k).flatMap f
  | [], k => by simp
  | x :: xs, 0 => by simp
  | x :: xs, k + 1 => by
    rw [List.flatMap_cons, List.take_succ_cons, List.flatMap_cons, ← flat_take hf xs k, Nat.add_mul, Nat.one_mul, Nat.add_comm, List.take_append, hf, List.take_of_length_le (by rw [hf]; omega), Nat.add_sub_cancel_left]
theorem flat_drop {α : Type} {f : α → List Value} {sz : Nat} (hf : ∀ x, (f x).length = sz) : ∀ (xs : List α) (k : Nat), (xs.flatMap f).drop (k * sz) = (xs.drop k).flatMap f
  | [], k => by simp
  | x :: xs, 0 => by simp
  | x :: xs, k + 1 => by
    rw [List.flatMap_cons, List.drop_succ_cons, ← flat_drop hf xs k, Nat.add_mul, Nat.one_mul, Nat.add_comm, List.drop_append, hf, List.drop_of_length_le (by rw [hf]; omega), Nat.add_sub_cancel_left, List.nil_append]
theorem info_TermP : (Try.prog.info? 48).map (fun i => (i.zero, i.size, i.bytes)) = some (some (.agg #[.int .i64 0, .int .i64 0]), 2, 16) := by kernel_rfl
set_option maxHeartbeats 4000000 in
theorem slices_Delete_Term (g n cap j base : Nat) (ts : List E2) (w : World) (h : w.ownsRow base 48 2 (.slice (some ⟨g, 0, none⟩) n cap) n (ts.flatMap E2.cs)) (hj : j < n) (hn : n ≤ 1048576) :
    Calls Try.prog 76 #[.slice (some ⟨g, 0, none⟩) n cap, .int .i64 (j : Int), .int .i64 ((j : Int) + 1)] w fun e w' => e = .returned (.slice (some ⟨g, 0, none⟩) (n - 1) cap) ∧ w'.ownsRow base 48 2 (.slice (some ⟨g, 0, none⟩) (n - 1) cap) (n - 1) ((ts.eraseIdx j).flatMap E2.cs) ∧ w.grownBy w' (some g) := by
  obtain ⟨i0, hi, hz0, hz1, hz2⟩ := info_parts info_TermP
  have hlen : (ts.flatMap E2.cs).length = n * 2 := h.1
  have hl : ts.length = n := by rw [flat_len E2.len] at hlen; omega
  obtain ⟨hc1, hc2⟩ := own_caps h
  obtain ⟨C, hC⟩ : ∃ C, C = ts.flatMap E2.cs := ⟨_, rfl⟩
  have hCe : ts.eraseIdx j = ts.take j ++ ts.drop (j + 1) := List.eraseIdx_eq_take_drop_succ ts j
  have hE : (ts.eraseIdx j).flatMap E2.cs = C.take (j * 2) ++ C.drop ((j + 1) * 2) := by rw [hC, flat_take E2.len, flat_drop E2.len, ← List.flatMap_append, ← hCe]
  have hone : ∀ u ∈ C, u.oneCell' = true := by rw [hC]; exact flat_one E2.one ts
  rw [← hC] at h hlen
  clear hC hCe
  have hD := h.drew
  obtain ⟨news, hnews⟩ : ∃ news, news = C.drop ((j + 1) * 2) := ⟨_, rfl⟩
  have hnl : news.length = (n - (j + 1)) * 2 := by rw [hnews, List.length_drop, hlen]; omega
  obtain ⟨A, hA, hsrc⟩ : ∃ A : Addr, (if cap = j + 1 then some (⟨g, 0, none⟩ : Addr) else some ⟨g, (j + 1) * 2, none⟩) = some A ∧ Hid (∀ t u, news[t]? = some u → w.drew.cell? (A.add t) = some u) := by
    by_cases hcj : cap = j + 1
    · refine ⟨⟨g, 0, none⟩, by simp [hcj], fun t u hu => ?_⟩
      have h0 : news.length = 0 := by rw [hnl]; omega
      rw [List.length_eq_zero_iff.1 h0] at hu
      simp at hu
    · refine ⟨⟨g, (j + 1) * 2, none⟩, by simp [hcj], fun t u hu => ?_⟩
      rw [hnews, List.getElem?_drop] at hu
      rw [Addr.add_lit]
      exact own_cellAt hD hu
  have s1 : Hid (news.length = (n - (j + 1)) * 2) := hnl
  have s2 : Hid (∀ u ∈ news, u.oneCell' = true) := by
    show ∀ u ∈ news, _
    intro u hu
    rw [hnews] at hu
    exact hone u (List.mem_of_mem_drop hu)
  have there : ∀ (W : World) (X : List Value), X.length = n * 2 → W.ownsRow base 48 2 (.slice (some ⟨g, 0, none⟩) n cap) n X → ∀ t, t < n * 2 → (W.cell? ⟨g, t, none⟩).isSome = true ∧ W.frozen? ⟨g, t, none⟩ = false := by
    intro W X hX hW t ht
    refine ⟨?_, World.ownsRow.frozenAt hW t⟩
    rw [own_cellAt hW (j := t) (u := X[t]'(by omega)) (List.getElem?_eq_getElem _)]; rfl
  have s3 : Hid (∀ t, t < news.length → (w.drew.cell? ⟨g, 0 + j * 2 + t, none⟩).isSome = true ∧ w.drew.frozen? ⟨g, 0 + j * 2 + t, none⟩ = false) := by
    intro t ht
    exact there _ C hlen hD _ (by omega)
  obtain ⟨W1, hW1⟩ : ∃ W1, W1 = w.drew.setCells g (0 + j * 2) news := ⟨_, rfl⟩
  obtain ⟨o1, g1⟩ := own_setCells news (0 + j * 2) hD
  rw [← hW1] at o1 g1
  have l1 : (setM C (0 + j * 2) news).length = n * 2 := o1.1
  have hcl : ∀ ty, (Builtin.clear_ #[34] ty #[.slice (some ⟨g, (n - 1) * 2, none⟩) 1 (cap - (n - 1))]).run Try.prog W1 = .ok (.tuple #[]) (W1.setCells g ((n - 1) * 2) [.int .i64 0, .int .i64 0]) :=
    fun ty => run_clear2 W1 _ _ ty _ _ Try.underlying34 zero_Term rfl rfl g ((n - 1) * 2) _ (there W1 _ l1 o1 _ (by omega)).1 (there W1 _ l1 o1 _ (by omega)).1 (there W1 _ l1 o1 _ (by omega)).2 (there W1 _ l1 o1 _ (by omega)).2
  obtain ⟨o2, g2⟩ := own_setCells [.int .i64 0, .int .i64 0] ((n - 1) * 2) o1
  have o3 := own_cut o2 (Nat.sub_le n 1)
  have eX : (setM (setM C (0 + j * 2) news) ((n - 1) * 2) [.int .i64 0, .int .i64 0]).take ((n - 1) * 2) = (ts.eraseIdx j).flatMap E2.cs := by
    rw [hE, setM_eq _ _ _ (by rw [l1]; simp; omega), List.append_assoc, List.take_append_of_le_length (by rw [List.length_take, l1]; omega), List.take_take, Nat.min_self, setM_eq _ _ _ (by rw [hlen, hnl]; omega), Nat.zero_add, hnews]
    rw [List.take_append_of_le_length (by simp [hlen]; omega), List.take_of_length_le (by simp [hlen]; omega)]
  rw [eX] at o3
  have O3 := Lib.hid o3
  have G3 := Lib.hid (show w.grownBy (W1.setCells g ((n - 1) * 2) [.int .i64 0, .int .i64 0]) (some g) from ⟨g2.os.trans g1.os, g2.tape.trans g1.tape, g2.output.trans g1.output, Nat.le_trans g1.size g2.size, fun k hk hne => (g2.block k (Nat.lt_of_lt_of_le hk g1.size) hne).trans (g1.block k hk hne)⟩)
  have hW : Hid (W1 = w.drew.setCells g (0 + j * 2) news) := hW1
  have hjc : j ≤ cap := by omega
  have hjc1 : j + 1 ≤ cap := by omega
  have q1 : j + (n - (j + 1)) = n - 1 := by omega
  have q2 : n - (n - 1) = 1 := by omega
  have b0 : (0 : Int) ≤ (j : Int) + 1 := by omega
  have b1 : (j : Int) + 1 ≤ (n : Int) := by omega
  clear hW1 o1 g1 l1 o2 g2 o3 eX there hE hone h hD hnews hnl hl hlen
  go_enter Try.func76, Try.ntmps76
  go_wp2_with fail
  go_region_law (refine step_append_room rfl (.tmp 22) (.tmp 25) 34 rfl 48 i0 2 Try.underlying34 hi hz1 g 0 j cap (by simp [Act.eval, Act.put]) A (n - (j + 1)) (cap - (j + 1)) news (by simp [Act.eval, Act.put]; done) s1.out hsrc.out s2.out (by omega) s3.out ?_; rw [← hW.out])
  go_wp2_with fail

  go_ret
  exact ⟨rfl, O3.out, G3.out⟩
theorem slices_Clone_Term (v : Value) (ts : List E2) (w : World) (h : RdE w v E2.cs 2 ts) (hn : ts.length ≤ 1048576) :
    Calls Try.prog 71 #[v] w fun e w' => ∃ v', e = .returned v' ∧ OwnE w' w.heap.size 48 v' E2.cs 2 ts ∧ Below w.heap.size w w' := by
  obtain ⟨i0, hi, hz0, hz1, hz2⟩ := info_parts info_TermP
  obtain ⟨A, c, rfl, _⟩ := h.form
  rcases A with _ | ad
  · have h0 : ts = [] := by
      rcases h.cases0 E2.len with ⟨h0, _⟩ | ⟨_, b, off, cap, e, _⟩
      · exact h0
      · cases e
    subst h0
    have hq := fun (W : World) (n c n2 c2 : Nat) => Lib.run_eql_slice_nil (P := Try.prog) W 34 48 none n c n2 c2 Try.underlying34
    clear h
    go_enter Try.func71, Try.ntmps71
    go_wp2_with fail
    go_ret
    exact ⟨_, rfl, OwnE.nil _ _ _, (by repeat (first | exact Below.refl _ _ | assumption | refine Below.drew ?_ | refine below_drewN ?_ _ | refine Below.alloc ?_ (by first | omega | (simp <;> omega)) _ | refine Below.setCell ?_ (by first | omega | (simp <;> omega)) _ | refine Below.trans ?_ (Below.mono (by assumption) (by first | omega | (simp <;> omega)))))⟩
  · have HR := Lib.hid (Reads.below (Reads.of_rd h) (show Below w.heap.size w (w.alloc (.cells #[] 48)) from (by repeat (first | exact Below.refl _ _ | assumption | refine Below.drew ?_ | refine below_drewN ?_ _ | refine Below.alloc ?_ (by first | omega | (simp <;> omega)) _ | refine Below.setCell ?_ (by first | omega | (simp <;> omega)) _ | refine Below.trans ?_ (Below.mono (by assumption) (by first | omega | (simp <;> omega)))))))
    have hq := fun (W : World) (n c n2 c2 : Nat) => Lib.run_eql_slice_nil (P := Try.prog) W 34 48 (some ad) n c n2 c2 Try.underlying34
    clear h
    go_enter Try.func71, Try.ntmps71
    go_wp2_with (at_builtin; refine wpList_append_any _ rfl _ _ 34 rfl w.heap.size 48 i0 (.agg #[.int .i64 0, .int .i64 0]) 2 16 Try.underlying34 hi hz0 hz1 hz2 rfl (by decide) (.slice (some ⟨w.heap.size, 0, none⟩) 0 0) 0 [] rfl (own_lit0 (f := E2.cs) (sz := 2) w w.heap.size 48 w.heap.size rfl (Nat.le_refl _)) w.heap.size (some ad) ts.length c (ts.flatMap E2.cs) rfl HR.out (flat_one E2.one _) (by unfold maxLen; omega) (by omega) (by simp) ?_; intro v1 w1 hown1 hg1 hat1)
    go_ret
    refine ⟨v1, rfl, by simpa [OwnE] using hown1, ?_⟩
    exact Below.grown (show Below w.heap.size w (w.alloc (.cells #[] 48)) from (by repeat (first | exact Below.refl _ _ | assumption | refine Below.drew ?_ | refine below_drewN ?_ _ | refine Below.alloc ?_ (by first | omega | (simp <;> omega)) _ | refine Below.setCell ?_ (by first | omega | (simp <;> omega)) _ | refine Below.trans ?_ (Below.mono (by assumption) (by first | omega | (simp <;> omega)))))) hg1 (by simp) (fun k hk => by simp [Value.ownBlock] at hk; omega)
end Go.Proofs.Ytbcjligkjoimmaa
