/- The key of a tableau of one or two qubits (written by genkw.py). -/
import Derived.Test.YtjdffjnennodaaaZ33M
import Derived.Test.YtjdffjnennodaaaZ34Bw
import Derived.Test.YtjdffjnennodaaaZ21CatPauli
import Derived.Test.YtjdffjnennodaaaZ11Brk
import Derived.BigRegion
import Derived.BigQuiet
import Derived.Laws.IdiomCopy
import Derived.Deep.RegionLaw
namespace Go.Proofs.Ytjdffjnennodaaa
set_option linter.unusedSimpArgs false
set_option linter.unusedVariables false
set_option linter.unnecessarySimpa false
set_option maxRecDepth 200000
open Go.ChangeShapes Go.WideShapes Go.ChangeAt Go.RowKit

theorem Bw.there {w : World} {g : Nat} {us : List Value} (h : Bw w g us) (j : Nat) (hj : j < us.length) : (w.cell? ⟨g, j, none⟩).isSome = true := by
  rw [h.cs j us[j] (by simp [hj])]; rfl
section
variable {P : Program}
/-- copy of elements of k cells. -/
theorem run_copy_c (w : World) (dT sT ty elem : TypeId) (i : TypeInfo) (b o dLen dCap : Nat) (a : Addr) (sLen sCap m k : Nat) (cs : List Value)
    (hu : P.underlying dT = some (.slice elem)) (hq : P.info? elem = some i) (hi : i.size = k) (hm : m = Nat.min sLen dLen) (hn : cs.length = m * k)
    (hsrc : ∀ j v, cs[j]? = some v → w.cell? (a.add j) = some v) (hc : ∀ j, j < cs.length → (w.cell? ⟨b, o + j, none⟩).isSome = true) (hf : ∀ j, j < cs.length → w.frozen? ⟨b, o + j, none⟩ = false) (h1 : ∀ v ∈ cs, v.oneCell' = true) :
    (Builtin.copy_ #[dT, sT] ty #[.slice (some ⟨b, o, none⟩) dLen dCap, .slice (some a) sLen sCap]).run P w = .ok (goInt m) (w.setCells b o cs) := by
  have hl := run_loadCells_list (P := P) w a cs hsrc
  have hst := run_storeCells_cells (P := P) b o cs 0 w (by simpa using hc) (by simpa using hf) h1
  simp [Builtin.copy_, run_underlying hu, Builtin.lenOf, Builtin.firstCells, sizeOf, typeInfo, hq, hi, ← hm, ← hn, hl, hst]
theorem step_copy_c {ops : Array Oper} {o : Oper} {a : Act} {w : World} {K : Act → World → Prop} {Q : Exit → Act → World → Prop} {E : Prop} (hgd : o.guard = none) (d s : Operand) (dT sT : TypeId)
    (ho : o.op = .call { callee := .builtin .copy, args := #[d, s], argTypes := #[dT, sT] }) (elem : TypeId) (i : TypeInfo) (hu : P.underlying dT = some (.slice elem)) (hq : P.info? elem = some i) (k : Nat) (hi : i.size = k)
    (b of dLen dCap : Nat) (ad : Addr) (sLen sCap : Nat) (hd : a.eval d = .slice (some ⟨b, of, none⟩) dLen dCap) (hs : a.eval s = .slice (some ad) sLen sCap)
    (m : Nat) (cs : List Value) (hm : m = Nat.min sLen dLen) (hn : cs.length = m * k)
    (hsrc : ∀ j v, cs[j]? = some v → w.cell? (ad.add j) = some v) (hc : ∀ j, j < cs.length → (w.cell? ⟨b, of + j, none⟩).isSome = true) (hf : ∀ j, j < cs.length → w.frozen? ⟨b, of + j, none⟩ = false) (h1 : ∀ v ∈ cs, v.oneCell' = true)
    (h : K (a.put o.dst (goInt m)) (w.setCells b of cs)) :
    if Region.wanted o (yielded ops a.tmps) = true then Oper.wp P o a w K Q else E := by
  have hw : Region.wanted o (yielded ops a.tmps) = true := by simp [Region.wanted, hgd]
  rw [if_pos hw]
  have hrun := run_copy_c (P := P) w dT sT o.type elem i b of dLen dCap ad sLen sCap m k cs hu hq hi hm hn hsrc hc hf h1
  unfold Oper.wp
  simp [execOp, ho, resolve, invoke, builtin, hd, hs, hrun, Result.andThen]
  exact h
end
/-- A key: four operators. -/
abbrev kv (a b c d : PN) : Value := .agg #[.int .i64 (a.p : Int), .int .i64 (a.x : Int), .int .i64 (a.z : Int), .int .i64 (b.p : Int), .int .i64 (b.x : Int), .int .i64 (b.z : Int), .int .i64 (c.p : Int), .int .i64 (c.x : Int), .int .i64 (c.z : Int), .int .i64 (d.p : Int), .int .i64 (d.x : Int), .int .i64 (d.z : Int)]
set_option maxHeartbeats 16000000 in
theorem impl_keyOf_1 (a b : PN) (v0 v1 : Value) (w : World) (h0 : RdE w v0 E3.cs 3 (pes [a])) (h1 : RdE w v1 E3.cs 3 (pes [b])) :
    Calls Try.prog 43 #[.agg #[.int .i64 1, v0, v1]] w fun e w' => e = .returned (kv a b ⟨0, 0, 0⟩ ⟨0, 0, 0⟩) ∧ Below w.heap.size w w' := by
  obtain ⟨i0, hi, hz0, hz1, hz2⟩ := info_parts info_Pauli
  have H0 := Lib.hid h0
  have H1 := Lib.hid h1
  obtain ⟨A, cA, rfl⟩ : ∃ A c, v0 = .slice A 1 c := h0.form_any
  obtain ⟨A2, cB, rfl⟩ : ∃ A c, v1 = .slice A 1 c := h1.form_any
  clear h0 h1
  have X0 := Lib.hid ((((Sb.nil w).push [.int .i64 1, .slice A 1 cA, .slice A2 1 cB] 30 rfl).push [.int .i64 0, .int .i64 0, .int .i64 0, .int .i64 0, .int .i64 0, .int .i64 0, .int .i64 0, .int .i64 0, .int .i64 0, .int .i64 0, .int .i64 0, .int .i64 0] 76 (g := w.heap.size + 1) (by simp)).push [.int .i64 0, .int .i64 0, .int .i64 0, .int .i64 0, .int .i64 0, .int .i64 0, .int .i64 0, .int .i64 0, .int .i64 0, .int .i64 0, .int .i64 0, .int .i64 0] 76 (g := w.heap.size + 1 + 1) (by simp))
  go_enter Try.func43, Try.ntmps43
  go_wp2_with fail
  generalize (((w.alloc (.cells #[.int .i64 1, .slice A 1 cA, .slice A2 1 cB] 30)).alloc (.cells #[.int .i64 0, .int .i64 0, .int .i64 0, .int .i64 0, .int .i64 0, .int .i64 0, .int .i64 0, .int .i64 0, .int .i64 0, .int .i64 0, .int .i64 0, .int .i64 0] 76)).alloc (.cells #[.int .i64 0, .int .i64 0, .int .i64 0, .int .i64 0, .int .i64 0, .int .i64 0, .int .i64 0, .int .i64 0, .int .i64 0, .int .i64 0, .int .i64 0, .int .i64 0] 76)) = w1 at *
  obtain ⟨g5, hg5⟩ : ∃ g, w1.heap.size = g := ⟨_, rfl⟩
  have X := Lib.hid X0.out.drew
  have X5 := Lib.hid ((X0.out.push [.slice A 1 cA, .slice A2 1 cB] 28 hg5).drew)
  obtain ⟨⟨t0, t1, t2⟩, -⟩ := (X.out.at 2 rfl).c3
  clear X0
  refine AnyB.begin (S := (fun w' => w'.cell? ⟨w.heap.size, 1, none⟩ = some (.slice A 1 cA) ∧ w'.cell? ⟨w.heap.size, 2, none⟩ = some (.slice A2 1 cB))) [7] (by kernel_rfl) ?_ (fun hHeld0 => ?_)
  · ((try dsimp only); (exact ⟨t1, t2⟩))
  refine AnyB.takeQ (i := 0) (oi := _) (v := ?_) (by simp only [List.getElem?_toArray, List.getElem?_cons_zero, List.getElem?_cons_succ]; rfl) (by kernel_rfl) (by kernel_rfl) (by kernel_rfl) (by intro _ _ _ h; exact h) (Or.inl ⟨by rfl, ?_⟩) ?_
  rotate_left
  · (intro w hSw; (try dsimp only at hSw); go_simp; (try (with_reducible rfl)))
  try simp only [Act.put, List.setIfInBounds_toArray, List.set_cons_zero, List.set_cons_succ]
  refine AnyB.takeQ (i := 1) (oi := _) (v := ?_) (by simp only [List.getElem?_toArray, List.getElem?_cons_zero, List.getElem?_cons_succ]; rfl) (by kernel_rfl) (by kernel_rfl) (by kernel_rfl) (by intro _ _ _ h; exact h) (Or.inl ⟨by rfl, ?_⟩) ?_
  rotate_left
  · (intro w hSw; (try dsimp only at hSw); go_simp; (try (with_reducible rfl)))
  try simp only [Act.put, List.setIfInBounds_toArray, List.set_cons_zero, List.set_cons_succ]
  refine AnyB.take (i := 2) (oi := _) (v := ?_) (by simp only [List.getElem?_toArray, List.getElem?_cons_zero, List.getElem?_cons_succ]; rfl) (by kernel_rfl) (by kernel_rfl) (by kernel_rfl) (by kernel_rfl) (by kernel_rfl) (by intro _ _ _ h; exact h) (Or.inl ⟨by rfl, ?_⟩) (by assumption) ?_
  rotate_left
  · (intro w hSw; (try dsimp only at hSw); go_simp; (try (with_reducible rfl)))
  try simp only [Act.put, List.setIfInBounds_toArray, List.set_cons_zero, List.set_cons_succ]
  refine AnyB.takeQ (i := 3) (oi := _) (v := ?_) (by simp only [List.getElem?_toArray, List.getElem?_cons_zero, List.getElem?_cons_succ]; rfl) (by kernel_rfl) (by kernel_rfl) (by kernel_rfl) (by intro _ _ _ h; exact h) (Or.inl ⟨by rfl, ?_⟩) ?_
  rotate_left
  · (intro w hSw; (try dsimp only at hSw); go_simp; (try (with_reducible rfl)))
  try simp only [Act.put, List.setIfInBounds_toArray, List.set_cons_zero, List.set_cons_succ]
  refine AnyB.take (i := 4) (oi := _) (v := ?_) (by simp only [List.getElem?_toArray, List.getElem?_cons_zero, List.getElem?_cons_succ]; rfl) (by kernel_rfl) (by kernel_rfl) (by kernel_rfl) (by kernel_rfl) (by kernel_rfl) (by intro _ _ _ h; exact h) (Or.inl ⟨by rfl, ?_⟩) (by assumption) ?_
  rotate_left
  · (intro w hSw; (try dsimp only at hSw); go_simp; (try (with_reducible rfl)))
  try simp only [Act.put, List.setIfInBounds_toArray, List.set_cons_zero, List.set_cons_succ]
  refine AnyB.each (rs := [5]) (by kernel_rfl) (by simp) ?_
  refine EachB.cons rfl (fun K hK hB => ?_) ?_
  · skip
    (go_simp; clear t0 t1 t2 X; have X := X5; obtain ⟨⟨t0, t1, t2⟩, -⟩ := (X.out.at 3 rfl).c3; clear X5)
    refine hK.out _ _ ?_ (fun hHeld1 => ?_)
    · ((try dsimp only); (exact ⟨t1, t2⟩))
    clear hB hK K hHeld0
    refine AnyB.each (rs := [6]) (by kernel_rfl) (by simp) ?_
    refine EachB.cons rfl (fun K hK hB => ?_) ?_
    · skip
      (go_simp; go_at_call 37; refine (slices_Concat_Pauli g5 (.slice A 1 cA) (.slice A2 1 cB) (pes [a]) (pes [b]) _ (X.out.head.cs 0 _ rfl) (X.out.head.cs 1 _ rfl) (RdE.below H0.out X.out.bel rfl) (RdE.below H1.out X.out.bel rfl) (by simp [pes]) (by simp [pes]) (by simp [pes])).mono ?_; rintro e xA ⟨vc, rfl, ho, hxA⟩; obtain ⟨gc, cc, rfl⟩ : ∃ g c, vc = .slice (some ⟨g, 0, none⟩) 2 c := Go.Joins.ownsRow_form ho (by simp [pes]); replace X := Lib.hid ((X.out.call hxA).tail); clear hxA t0 t1 t2; obtain ⟨⟨t0, t1, t2⟩, -⟩ := (X.out.at 2 rfl).c3; have O := Lib.hid ho; clear ho; dsimp only)
      refine hK.out _ _ ?_ (fun hHeld2 => ?_)
      · ((try dsimp only); (exact ⟨t1, t2⟩))
      clear hB hK K hHeld1
      refine AnyB.each (rs := [7]) (by kernel_rfl) (by simp) ?_
      refine EachB.cons rfl (fun K hK hB => ?_) ?_
      · skip
        (refine step_copy_c rfl (.tmp 5) (.tmp 11) 28 28 rfl 62 i0 Try.underlying28 hi 3 hz1 (w.heap.size + 1 + 1) 0 4 4 ⟨gc, 0, none⟩ 2 cc rfl rfl 2 [.int .i64 (a.p : Int), .int .i64 (a.x : Int), .int .i64 (a.z : Int), .int .i64 (b.p : Int), .int .i64 (b.x : Int), .int .i64 (b.z : Int)] rfl rfl (fun j v hv => World.ownsRow.cells O.out rfl j v hv) (fun j hj => by rw [Nat.zero_add]; exact X.out.head.there j (Nat.lt_of_lt_of_le hj (by simp))) (fun j hj => by rw [Nat.zero_add]; exact X.out.head.fz j (Nat.lt_of_lt_of_le hj (by simp))) (by simp [Value.oneCell']) ?_; simp only [World.setCells, Nat.zero_add, Nat.reduceAdd]; replace X := Lib.hid (((((((X.out.set0 0 (.int .i64 (a.p : Int))).set0 1 (.int .i64 (a.x : Int))).set0 2 (.int .i64 (a.z : Int))).set0 3 (.int .i64 (b.p : Int))).set0 4 (.int .i64 (b.x : Int))).set0 5 (.int .i64 (b.z : Int)))))
        refine hB.out _ _ rfl ?_
        clear hB hK K
        refine AnyB.none (by kernel_rfl) ?_ _
        clear t0 t1 t2
        have B0 := X.out.head
        have B1 := X.out.at 1 rfl
        have k0 := B0.cs 0 _ rfl
        have k1 := B0.cs 1 _ rfl
        have k2 := B0.cs 2 _ rfl
        have k3 := B0.cs 3 _ rfl
        have k4 := B0.cs 4 _ rfl
        have k5 := B0.cs 5 _ rfl
        have k6 := B0.cs 6 _ rfl
        have k7 := B0.cs 7 _ rfl
        have k8 := B0.cs 8 _ rfl
        have k9 := B0.cs 9 _ rfl
        have k10 := B0.cs 10 _ rfl
        have k11 := B0.cs 11 _ rfl
        have c0 := B1.cs 0 _ rfl
        have f0 := B1.fz 0 (by decide)
        have c1 := B1.cs 1 _ rfl
        have f1 := B1.fz 1 (by decide)
        have c2 := B1.cs 2 _ rfl
        have f2 := B1.fz 2 (by decide)
        have c3 := B1.cs 3 _ rfl
        have f3 := B1.fz 3 (by decide)
        have c4 := B1.cs 4 _ rfl
        have f4 := B1.fz 4 (by decide)
        have c5 := B1.cs 5 _ rfl
        have f5 := B1.fz 5 (by decide)
        have c6 := B1.cs 6 _ rfl
        have f6 := B1.fz 6 (by decide)
        have c7 := B1.cs 7 _ rfl
        have f7 := B1.fz 7 (by decide)
        have c8 := B1.cs 8 _ rfl
        have f8 := B1.fz 8 (by decide)
        have c9 := B1.cs 9 _ rfl
        have f9 := B1.fz 9 (by decide)
        have c10 := B1.cs 10 _ rfl
        have f10 := B1.fz 10 (by decide)
        have c11 := B1.cs 11 _ rfl
        have f11 := B1.fz 11 (by decide)
        have S9 := Lib.hid (((((((((((((X.out.set1 0 (.int .i64 (a.p : Int))).set1 1 (.int .i64 (a.x : Int))).set1 2 (.int .i64 (a.z : Int))).set1 3 (.int .i64 (b.p : Int))).set1 4 (.int .i64 (b.x : Int))).set1 5 (.int .i64 (b.z : Int))).set1 6 (.int .i64 0)).set1 7 (.int .i64 0)).set1 8 (.int .i64 0)).set1 9 (.int .i64 0)).set1 10 (.int .i64 0)).set1 11 (.int .i64 0)))
        clear X B0 B1
        go_wp2_with fail
        clear k0 c0 f0 k1 c1 f1 k2 c2 f2 k3 c3 f3 k4 c4 f4 k5 c5 f5 k6 c6 f6 k7 c7 f7 k8 c8 f8 k9 c9 f9 k10 c10 f10 k11 c11 f11
        generalize ((((((((((((((((((xA.setCell ⟨w.heap.size + 1 + 1, 0, none⟩ (.int .i64 (a.p : Int))).setCell ⟨w.heap.size + 1 + 1, 1, none⟩ (.int .i64 (a.x : Int))).setCell ⟨w.heap.size + 1 + 1, 2, none⟩ (.int .i64 (a.z : Int))).setCell ⟨w.heap.size + 1 + 1, 3, none⟩ (.int .i64 (b.p : Int))).setCell ⟨w.heap.size + 1 + 1, 4, none⟩ (.int .i64 (b.x : Int))).setCell ⟨w.heap.size + 1 + 1, 5, none⟩ (.int .i64 (b.z : Int))).setCell ⟨w.heap.size + 1, 0, none⟩ (.int .i64 (a.p : Int))).setCell ⟨w.heap.size + 1, 1, none⟩ (.int .i64 (a.x : Int))).setCell ⟨w.heap.size + 1, 2, none⟩ (.int .i64 (a.z : Int))).setCell ⟨w.heap.size + 1, 3, none⟩ (.int .i64 (b.p : Int))).setCell ⟨w.heap.size + 1, 4, none⟩ (.int .i64 (b.x : Int))).setCell ⟨w.heap.size + 1, 5, none⟩ (.int .i64 (b.z : Int))).setCell ⟨w.heap.size + 1, 6, none⟩ (.int .i64 0)).setCell ⟨w.heap.size + 1, 7, none⟩ (.int .i64 0)).setCell ⟨w.heap.size + 1, 8, none⟩ (.int .i64 0)).setCell ⟨w.heap.size + 1, 9, none⟩ (.int .i64 0)).setCell ⟨w.heap.size + 1, 10, none⟩ (.int .i64 0)).setCell ⟨w.heap.size + 1, 11, none⟩ (.int .i64 0)) = w9 at *
        have B9 := S9.out.at 1 rfl
        have k0 := B9.cs 0 _ rfl
        have k1 := B9.cs 1 _ rfl
        have k2 := B9.cs 2 _ rfl
        have k3 := B9.cs 3 _ rfl
        have k4 := B9.cs 4 _ rfl
        have k5 := B9.cs 5 _ rfl
        have k6 := B9.cs 6 _ rfl
        have k7 := B9.cs 7 _ rfl
        have k8 := B9.cs 8 _ rfl
        have k9 := B9.cs 9 _ rfl
        have k10 := B9.cs 10 _ rfl
        have k11 := B9.cs 11 _ rfl
        refine bodyPost_ret (v := .agg #[.int .i64 (a.p : Int), .int .i64 (a.x : Int), .int .i64 (a.z : Int), .int .i64 (b.p : Int), .int .i64 (b.x : Int), .int .i64 (b.z : Int), .int .i64 0, .int .i64 0, .int .i64 0, .int .i64 0, .int .i64 0, .int .i64 0]) (by simp [results, Try.results43, go_sem, k0, k1, k2, k3, k4, k5, k6, k7, k8, k9, k10, k11]) rfl ⟨rfl, S9.out.bel⟩
      exact EachB.nil
    exact EachB.nil
  exact EachB.nil
set_option maxHeartbeats 16000000 in
theorem impl_keyOf_2 (a b c d : PN) (v0 v1 : Value) (w : World) (h0 : RdE w v0 E3.cs 3 (pes [a, b])) (h1 : RdE w v1 E3.cs 3 (pes [c, d])) :
    Calls Try.prog 43 #[.agg #[.int .i64 2, v0, v1]] w fun e w' => e = .returned (kv a b c d) ∧ Below w.heap.size w w' := by
  obtain ⟨i0, hi, hz0, hz1, hz2⟩ := info_parts info_Pauli
  have H0 := Lib.hid h0
  have H1 := Lib.hid h1
  obtain ⟨A, cA, rfl⟩ : ∃ A c, v0 = .slice A 2 c := h0.form_any
  obtain ⟨A2, cB, rfl⟩ : ∃ A c, v1 = .slice A 2 c := h1.form_any
  clear h0 h1
  have X0 := Lib.hid ((((Sb.nil w).push [.int .i64 2, .slice A 2 cA, .slice A2 2 cB] 30 rfl).push [.int .i64 0, .int .i64 0, .int .i64 0, .int .i64 0, .int .i64 0, .int .i64 0, .int .i64 0, .int .i64 0, .int .i64 0, .int .i64 0, .int .i64 0, .int .i64 0] 76 (g := w.heap.size + 1) (by simp)).push [.int .i64 0, .int .i64 0, .int .i64 0, .int .i64 0, .int .i64 0, .int .i64 0, .int .i64 0, .int .i64 0, .int .i64 0, .int .i64 0, .int .i64 0, .int .i64 0] 76 (g := w.heap.size + 1 + 1) (by simp))
  go_enter Try.func43, Try.ntmps43
  go_wp2_with fail
  generalize (((w.alloc (.cells #[.int .i64 2, .slice A 2 cA, .slice A2 2 cB] 30)).alloc (.cells #[.int .i64 0, .int .i64 0, .int .i64 0, .int .i64 0, .int .i64 0, .int .i64 0, .int .i64 0, .int .i64 0, .int .i64 0, .int .i64 0, .int .i64 0, .int .i64 0] 76)).alloc (.cells #[.int .i64 0, .int .i64 0, .int .i64 0, .int .i64 0, .int .i64 0, .int .i64 0, .int .i64 0, .int .i64 0, .int .i64 0, .int .i64 0, .int .i64 0, .int .i64 0] 76)) = w1 at *
  obtain ⟨g5, hg5⟩ : ∃ g, w1.heap.size = g := ⟨_, rfl⟩
  have X := Lib.hid X0.out.drew
  have X5 := Lib.hid ((X0.out.push [.slice A 2 cA, .slice A2 2 cB] 28 hg5).drew)
  obtain ⟨⟨t0, t1, t2⟩, -⟩ := (X.out.at 2 rfl).c3
  clear X0
  refine AnyB.begin (S := (fun w' => w'.cell? ⟨w.heap.size, 1, none⟩ = some (.slice A 2 cA) ∧ w'.cell? ⟨w.heap.size, 2, none⟩ = some (.slice A2 2 cB))) [7] (by kernel_rfl) ?_ (fun hHeld0 => ?_)
  · ((try dsimp only); (exact ⟨t1, t2⟩))
  refine AnyB.takeQ (i := 0) (oi := _) (v := ?_) (by simp only [List.getElem?_toArray, List.getElem?_cons_zero, List.getElem?_cons_succ]; rfl) (by kernel_rfl) (by kernel_rfl) (by kernel_rfl) (by intro _ _ _ h; exact h) (Or.inl ⟨by rfl, ?_⟩) ?_
  rotate_left
  · (intro w hSw; (try dsimp only at hSw); go_simp; (try (with_reducible rfl)))
  try simp only [Act.put, List.setIfInBounds_toArray, List.set_cons_zero, List.set_cons_succ]
  refine AnyB.takeQ (i := 1) (oi := _) (v := ?_) (by simp only [List.getElem?_toArray, List.getElem?_cons_zero, List.getElem?_cons_succ]; rfl) (by kernel_rfl) (by kernel_rfl) (by kernel_rfl) (by intro _ _ _ h; exact h) (Or.inl ⟨by rfl, ?_⟩) ?_
  rotate_left
  · (intro w hSw; (try dsimp only at hSw); go_simp; (try (with_reducible rfl)))
  try simp only [Act.put, List.setIfInBounds_toArray, List.set_cons_zero, List.set_cons_succ]
  refine AnyB.take (i := 2) (oi := _) (v := ?_) (by simp only [List.getElem?_toArray, List.getElem?_cons_zero, List.getElem?_cons_succ]; rfl) (by kernel_rfl) (by kernel_rfl) (by kernel_rfl) (by kernel_rfl) (by kernel_rfl) (by intro _ _ _ h; exact h) (Or.inl ⟨by rfl, ?_⟩) (by assumption) ?_
  rotate_left
  · (intro w hSw; (try dsimp only at hSw); go_simp; (try (with_reducible rfl)))
  try simp only [Act.put, List.setIfInBounds_toArray, List.set_cons_zero, List.set_cons_succ]
  refine AnyB.takeQ (i := 3) (oi := _) (v := ?_) (by simp only [List.getElem?_toArray, List.getElem?_cons_zero, List.getElem?_cons_succ]; rfl) (by kernel_rfl) (by kernel_rfl) (by kernel_rfl) (by intro _ _ _ h; exact h) (Or.inl ⟨by rfl, ?_⟩) ?_
  rotate_left
  · (intro w hSw; (try dsimp only at hSw); go_simp; (try (with_reducible rfl)))
  try simp only [Act.put, List.setIfInBounds_toArray, List.set_cons_zero, List.set_cons_succ]
  refine AnyB.take (i := 4) (oi := _) (v := ?_) (by simp only [List.getElem?_toArray, List.getElem?_cons_zero, List.getElem?_cons_succ]; rfl) (by kernel_rfl) (by kernel_rfl) (by kernel_rfl) (by kernel_rfl) (by kernel_rfl) (by intro _ _ _ h; exact h) (Or.inl ⟨by rfl, ?_⟩) (by assumption) ?_
  rotate_left
  · (intro w hSw; (try dsimp only at hSw); go_simp; (try (with_reducible rfl)))
  try simp only [Act.put, List.setIfInBounds_toArray, List.set_cons_zero, List.set_cons_succ]
  refine AnyB.each (rs := [5]) (by kernel_rfl) (by simp) ?_
  refine EachB.cons rfl (fun K hK hB => ?_) ?_
  · skip
    (go_simp; clear t0 t1 t2 X; have X := X5; obtain ⟨⟨t0, t1, t2⟩, -⟩ := (X.out.at 3 rfl).c3; clear X5)
    refine hK.out _ _ ?_ (fun hHeld1 => ?_)
    · ((try dsimp only); (exact ⟨t1, t2⟩))
    clear hB hK K hHeld0
    refine AnyB.each (rs := [6]) (by kernel_rfl) (by simp) ?_
    refine EachB.cons rfl (fun K hK hB => ?_) ?_
    · skip
      (go_simp; go_at_call 37; refine (slices_Concat_Pauli g5 (.slice A 2 cA) (.slice A2 2 cB) (pes [a, b]) (pes [c, d]) _ (X.out.head.cs 0 _ rfl) (X.out.head.cs 1 _ rfl) (RdE.below H0.out X.out.bel rfl) (RdE.below H1.out X.out.bel rfl) (by simp [pes]) (by simp [pes]) (by simp [pes])).mono ?_; rintro e xA ⟨vc, rfl, ho, hxA⟩; obtain ⟨gc, cc, rfl⟩ : ∃ g c, vc = .slice (some ⟨g, 0, none⟩) 4 c := Go.Joins.ownsRow_form ho (by simp [pes]); replace X := Lib.hid ((X.out.call hxA).tail); clear hxA t0 t1 t2; obtain ⟨⟨t0, t1, t2⟩, -⟩ := (X.out.at 2 rfl).c3; have O := Lib.hid ho; clear ho; dsimp only)
      refine hK.out _ _ ?_ (fun hHeld2 => ?_)
      · ((try dsimp only); (exact ⟨t1, t2⟩))
      clear hB hK K hHeld1
      refine AnyB.each (rs := [7]) (by kernel_rfl) (by simp) ?_
      refine EachB.cons rfl (fun K hK hB => ?_) ?_
      · skip
        (refine step_copy_c rfl (.tmp 5) (.tmp 11) 28 28 rfl 62 i0 Try.underlying28 hi 3 hz1 (w.heap.size + 1 + 1) 0 4 4 ⟨gc, 0, none⟩ 4 cc rfl rfl 4 [.int .i64 (a.p : Int), .int .i64 (a.x : Int), .int .i64 (a.z : Int), .int .i64 (b.p : Int), .int .i64 (b.x : Int), .int .i64 (b.z : Int), .int .i64 (c.p : Int), .int .i64 (c.x : Int), .int .i64 (c.z : Int), .int .i64 (d.p : Int), .int .i64 (d.x : Int), .int .i64 (d.z : Int)] rfl rfl (fun j v hv => World.ownsRow.cells O.out rfl j v hv) (fun j hj => by rw [Nat.zero_add]; exact X.out.head.there j (Nat.lt_of_lt_of_le hj (by simp))) (fun j hj => by rw [Nat.zero_add]; exact X.out.head.fz j (Nat.lt_of_lt_of_le hj (by simp))) (by simp [Value.oneCell']) ?_; simp only [World.setCells, Nat.zero_add, Nat.reduceAdd]; replace X := Lib.hid (((((((((((((X.out.set0 0 (.int .i64 (a.p : Int))).set0 1 (.int .i64 (a.x : Int))).set0 2 (.int .i64 (a.z : Int))).set0 3 (.int .i64 (b.p : Int))).set0 4 (.int .i64 (b.x : Int))).set0 5 (.int .i64 (b.z : Int))).set0 6 (.int .i64 (c.p : Int))).set0 7 (.int .i64 (c.x : Int))).set0 8 (.int .i64 (c.z : Int))).set0 9 (.int .i64 (d.p : Int))).set0 10 (.int .i64 (d.x : Int))).set0 11 (.int .i64 (d.z : Int)))))
        refine hB.out _ _ rfl ?_
        clear hB hK K
        refine AnyB.none (by kernel_rfl) ?_ _
        clear t0 t1 t2
        have B0 := X.out.head
        have B1 := X.out.at 1 rfl
        have k0 := B0.cs 0 _ rfl
        have k1 := B0.cs 1 _ rfl
        have k2 := B0.cs 2 _ rfl
        have k3 := B0.cs 3 _ rfl
        have k4 := B0.cs 4 _ rfl
        have k5 := B0.cs 5 _ rfl
        have k6 := B0.cs 6 _ rfl
        have k7 := B0.cs 7 _ rfl
        have k8 := B0.cs 8 _ rfl
        have k9 := B0.cs 9 _ rfl
        have k10 := B0.cs 10 _ rfl
        have k11 := B0.cs 11 _ rfl
        have c0 := B1.cs 0 _ rfl
        have f0 := B1.fz 0 (by decide)
        have c1 := B1.cs 1 _ rfl
        have f1 := B1.fz 1 (by decide)
        have c2 := B1.cs 2 _ rfl
        have f2 := B1.fz 2 (by decide)
        have c3 := B1.cs 3 _ rfl
        have f3 := B1.fz 3 (by decide)
        have c4 := B1.cs 4 _ rfl
        have f4 := B1.fz 4 (by decide)
        have c5 := B1.cs 5 _ rfl
        have f5 := B1.fz 5 (by decide)
        have c6 := B1.cs 6 _ rfl
        have f6 := B1.fz 6 (by decide)
        have c7 := B1.cs 7 _ rfl
        have f7 := B1.fz 7 (by decide)
        have c8 := B1.cs 8 _ rfl
        have f8 := B1.fz 8 (by decide)
        have c9 := B1.cs 9 _ rfl
        have f9 := B1.fz 9 (by decide)
        have c10 := B1.cs 10 _ rfl
        have f10 := B1.fz 10 (by decide)
        have c11 := B1.cs 11 _ rfl
        have f11 := B1.fz 11 (by decide)
        have S9 := Lib.hid (((((((((((((X.out.set1 0 (.int .i64 (a.p : Int))).set1 1 (.int .i64 (a.x : Int))).set1 2 (.int .i64 (a.z : Int))).set1 3 (.int .i64 (b.p : Int))).set1 4 (.int .i64 (b.x : Int))).set1 5 (.int .i64 (b.z : Int))).set1 6 (.int .i64 (c.p : Int))).set1 7 (.int .i64 (c.x : Int))).set1 8 (.int .i64 (c.z : Int))).set1 9 (.int .i64 (d.p : Int))).set1 10 (.int .i64 (d.x : Int))).set1 11 (.int .i64 (d.z : Int))))
        clear X B0 B1
        go_wp2_with fail
        clear k0 c0 f0 k1 c1 f1 k2 c2 f2 k3 c3 f3 k4 c4 f4 k5 c5 f5 k6 c6 f6 k7 c7 f7 k8 c8 f8 k9 c9 f9 k10 c10 f10 k11 c11 f11
        generalize ((((((((((((((((((((((((xA.setCell ⟨w.heap.size + 1 + 1, 0, none⟩ (.int .i64 (a.p : Int))).setCell ⟨w.heap.size + 1 + 1, 1, none⟩ (.int .i64 (a.x : Int))).setCell ⟨w.heap.size + 1 + 1, 2, none⟩ (.int .i64 (a.z : Int))).setCell ⟨w.heap.size + 1 + 1, 3, none⟩ (.int .i64 (b.p : Int))).setCell ⟨w.heap.size + 1 + 1, 4, none⟩ (.int .i64 (b.x : Int))).setCell ⟨w.heap.size + 1 + 1, 5, none⟩ (.int .i64 (b.z : Int))).setCell ⟨w.heap.size + 1 + 1, 6, none⟩ (.int .i64 (c.p : Int))).setCell ⟨w.heap.size + 1 + 1, 7, none⟩ (.int .i64 (c.x : Int))).setCell ⟨w.heap.size + 1 + 1, 8, none⟩ (.int .i64 (c.z : Int))).setCell ⟨w.heap.size + 1 + 1, 9, none⟩ (.int .i64 (d.p : Int))).setCell ⟨w.heap.size + 1 + 1, 10, none⟩ (.int .i64 (d.x : Int))).setCell ⟨w.heap.size + 1 + 1, 11, none⟩ (.int .i64 (d.z : Int))).setCell ⟨w.heap.size + 1, 0, none⟩ (.int .i64 (a.p : Int))).setCell ⟨w.heap.size + 1, 1, none⟩ (.int .i64 (a.x : Int))).setCell ⟨w.heap.size + 1, 2, none⟩ (.int .i64 (a.z : Int))).setCell ⟨w.heap.size + 1, 3, none⟩ (.int .i64 (b.p : Int))).setCell ⟨w.heap.size + 1, 4, none⟩ (.int .i64 (b.x : Int))).setCell ⟨w.heap.size + 1, 5, none⟩ (.int .i64 (b.z : Int))).setCell ⟨w.heap.size + 1, 6, none⟩ (.int .i64 (c.p : Int))).setCell ⟨w.heap.size + 1, 7, none⟩ (.int .i64 (c.x : Int))).setCell ⟨w.heap.size + 1, 8, none⟩ (.int .i64 (c.z : Int))).setCell ⟨w.heap.size + 1, 9, none⟩ (.int .i64 (d.p : Int))).setCell ⟨w.heap.size + 1, 10, none⟩ (.int .i64 (d.x : Int))).setCell ⟨w.heap.size + 1, 11, none⟩ (.int .i64 (d.z : Int))) = w9 at *
        have B9 := S9.out.at 1 rfl
        have k0 := B9.cs 0 _ rfl
        have k1 := B9.cs 1 _ rfl
        have k2 := B9.cs 2 _ rfl
        have k3 := B9.cs 3 _ rfl
        have k4 := B9.cs 4 _ rfl
        have k5 := B9.cs 5 _ rfl
        have k6 := B9.cs 6 _ rfl
        have k7 := B9.cs 7 _ rfl
        have k8 := B9.cs 8 _ rfl
        have k9 := B9.cs 9 _ rfl
        have k10 := B9.cs 10 _ rfl
        have k11 := B9.cs 11 _ rfl
        refine bodyPost_ret (v := .agg #[.int .i64 (a.p : Int), .int .i64 (a.x : Int), .int .i64 (a.z : Int), .int .i64 (b.p : Int), .int .i64 (b.x : Int), .int .i64 (b.z : Int), .int .i64 (c.p : Int), .int .i64 (c.x : Int), .int .i64 (c.z : Int), .int .i64 (d.p : Int), .int .i64 (d.x : Int), .int .i64 (d.z : Int)]) (by simp [results, Try.results43, go_sem, k0, k1, k2, k3, k4, k5, k6, k7, k8, k9, k10, k11]) rfl ⟨rfl, S9.out.bel⟩
      exact EachB.nil
    exact EachB.nil
  exact EachB.nil
end Go.Proofs.Ytjdffjnennodaaa
