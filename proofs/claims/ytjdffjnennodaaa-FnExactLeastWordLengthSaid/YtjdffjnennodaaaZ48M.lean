/- The lengths of the reference's search: plain and in memory. -/
import Derived.Test.YtjdffjnennodaaaZ44Kw9
import Derived.Test.YtjdffjnennodaaaZ45Gu2
import Derived.Test.YtjdffjnennodaaaZ47Inv3
import Derived.Test.YtjdffjnennodaaaZ18Comp2
namespace Go.Proofs.Ytjdffjnennodaaa
set_option linter.unusedSimpArgs false
set_option linter.unusedVariables false
set_option linter.unnecessarySimpa false
set_option maxRecDepth 200000
open Go.ChangeShapes Go.WideShapes Go.ChangeAt Go.RowKit Go.Maps

/-- What lies at a code: the length of the word of the queue's state with that code, and 1; 0 if there is none. -/
def farV (n : Nat) (Q : List (TT × List Nat)) (c : Nat) : Nat := match Q.find? (fun p => codeT n p.1 == c) with
  | some p => p.2.length + 1
  | none => 0
section
variable {n N j : Nat} {Q : List (TT × List Nat)} {x : TT} {w : List Nat}
theorem far_in (h1 : 1 ≤ n) (h2 : n ≤ 2) (h : InvT n N j Q) (hq : (x, w) ∈ Q) : farV n Q (codeT n x) = w.length + 1 := by
  unfold farV
  cases hf : Q.find? (fun p => codeT n p.1 == codeT n x) with
  | none =>
    have := List.find?_eq_none.1 hf (x, w) hq
    simp at this
  | some q =>
    have hm := List.mem_of_find?_eq_some hf
    have hc := List.find?_some hf
    simp only [beq_iff_eq] at hc
    have hs := h.sym h1 h2
    have e := code_inj h1 h2 (hs q hm) (hs (x, w) hq) hc
    dsimp only at e
    have a := h.mw q hm
    have b := h.mw (x, w) hq
    rw [e] at a
    dsimp only
    rw [MinW.inj (K8 n) a b]
theorem far_out (h1 : 1 ≤ n) (h2 : n ≤ 2) (h : InvT n N j Q) (hx : SymT n x) (hn : ¬ ∃ q ∈ Q, q.1 = x) : farV n Q (codeT n x) = 0 := by
  unfold farV
  cases hf : Q.find? (fun p => codeT n p.1 == codeT n x) with
  | none => rfl
  | some q =>
    have hm := List.mem_of_find?_eq_some hf
    have hc := List.find?_some hf
    simp only [beq_iff_eq] at hc
    exact absurd ⟨q, hm, code_inj h1 h2 (h.sym h1 h2 q hm) hx hc⟩ hn
theorem far_zero (h1 : 1 ≤ n) (h2 : n ≤ 2) (h : InvT n N j Q) (hx : SymT n x) : farV n Q (codeT n x) = 0 ↔ ¬ ∃ q ∈ Q, q.1 = x := by
  refine ⟨fun h0 hq => ?_, far_out h1 h2 h hx⟩
  obtain ⟨⟨y, u⟩, hm, rfl⟩ := hq
  rw [far_in h1 h2 h hm] at h0; omega
theorem far_add (h1 : 1 ≤ n) (h2 : n ≤ 2) (h : InvT n N j Q) (hx : SymT n x) (hn : ¬ ∃ q ∈ Q, q.1 = x) (c : Nat) : farV n (Q ++ [(x, w)]) c = if c = codeT n x then w.length + 1 else farV n Q c := by
  by_cases hc : c = codeT n x
  · subst hc
    rw [if_pos rfl]
    have h0 := far_out h1 h2 h hx hn
    unfold farV at h0 ⊢
    rw [List.find?_append]
    cases hf : Q.find? (fun p => codeT n p.1 == codeT n x) with
    | none => simp
    | some q => rw [hf] at h0; simp at h0
  · rw [if_neg hc]
    unfold farV
    rw [List.find?_append]
    have : List.find? (fun p : TT × List Nat => codeT n p.1 == c) [(x, w)] = none := by
      simp [List.find?, show (codeT n x == c) = false from by simp; exact fun e => hc e.symm]
    rw [this]
    cases Q.find? (fun p => codeT n p.1 == c) <;> rfl
end
/-- The 2^20 lengths in memory. -/
structure FarM (w : World) (g : Nat) (F : Nat → Nat) : Prop where
  lt : g < w.heap.size
  cs : ∀ c, c < 1048576 → w.cell? ⟨g, c, none⟩ = some (.int .i64 (F c : Int))
  fz : ∀ c, c < 1048576 → w.frozen? ⟨g, c, none⟩ = false
section
variable {w w' : World} {g : Nat} {F : Nat → Nat}
theorem FarM.of_block (h : FarM w g F) (hb : w'.heap[g]? = w.heap[g]?) (hs : w.heap.size ≤ w'.heap.size) : FarM w' g F := by
  refine ⟨Nat.lt_of_lt_of_le h.lt hs, fun c hc => ?_, fun c hc => ?_⟩
  · rw [← h.cs c hc]; unfold World.cell?; simp only [hb]
  · rw [← h.fz c hc]; unfold World.frozen?; simp only [hb]
theorem FarM.call (h : FarM w g F) (hb : Below w.heap.size w w') : FarM w' g F := h.of_block (hb.block g h.lt) hb.size
theorem FarM.callB {B : Nat} (h : FarM w g F) (hb : Below B w w') (hg : g < B) : FarM w' g F := h.of_block (hb.block g hg) hb.size
theorem FarM.kept {r : Option Nat} (h : FarM w g F) (hg : w.grownBy w' r) (hn : some g ≠ r) : FarM w' g F := h.of_block (hg.block g h.lt hn) hg.size
theorem FarM.drew (h : FarM w g F) : FarM w.drew g F := ⟨h.lt, h.cs, h.fz⟩
theorem FarM.other (h : FarM w g F) {g2 : Nat} (hne : g ≠ g2) (k : Nat) (u : Value) : FarM (w.setCell ⟨g2, k, none⟩ u) g F := h.kept (set_grown w g2 k u) (fun e => hne (by injection e))
theorem FarM.set (h : FarM w g F) {c : Nat} (hc : c < 1048576) (v : Nat) : FarM (w.setCell ⟨g, c, none⟩ (.int .i64 (v : Int))) g (fun k => if k = c then v else F k) := by
  have q := set_grown w g c (.int .i64 (v : Int))
  refine ⟨Nat.lt_of_lt_of_le h.lt q.size, fun k hk => ?_, fun k hk => ?_⟩
  · by_cases e : k = c
    · subst e; rw [if_pos rfl]; exact World.cell?_setCell_same _ _ _ (h.cs k hk)
    · rw [if_neg e, World.cell?_setCell_other]
      · exact h.cs k hk
      · intro e2; injection e2 with _ e3 _; exact e e3.symm
  · rw [World.frozen?_setCell]; exact h.fz k hk
theorem FarM.new {base : Nat} {xs : List Value} (h : w.ownsRow base 3 1 (.slice (some ⟨g, 0, none⟩) 1048576 1048576) 1048576 xs) (hz : ∀ c, c < 1048576 → xs[c]? = some (.int .i64 0)) : FarM w g (fun _ => 0) :=
  by
  refine ⟨(h.lt g rfl).2, fun c hc => ?_, fun c _ => World.ownsRow.frozenAt h c⟩
  have := World.ownsRow.cells h (g := g) rfl c _ (hz c hc)
  rw [Addr.add_lit, Nat.zero_add] at this
  exact this
theorem made_zero (N : Nat) : ∀ c, c < N → (madeCells #[.int .i64 0] (N * 1)).toList[c]? = some (.int .i64 0) := by
  intro c hc
  rw [Array.getElem?_toList]
  simp [madeCells, hc, Nat.mod_one]
end
section
variable {w w' : World} {n : Nat} {x : TT} {r0 r1 : Value}
theorem rootS_tr (h1 : 1 ≤ n) (h2 : n ≤ 2) (w : World) : Calls Try.prog 53 #[.int .i64 (n : Int)] w fun e w' => ∃ r0 r1, e = .returned (.agg #[.int .i64 (n : Int), r0, r1]) ∧ Tr w' n (idT2 n) r0 r1 ∧ Below w.heap.size w w' := by
  refine (spec_l7Identity_any (n : Int) w (by omega) (by omega)).mono ?_
  rintro e w' ⟨u0, u1, rfl, h0, h3, _, hb⟩
  rw [Int.toNat_natCast] at h0 h3
  rw [idX_pes] at h0
  rw [idZ_pes] at h3
  exact ⟨u0, u1, rfl, Tr.of (x := idT2 n) (id_sym h1 h2) h0 h3, hb⟩
theorem gateS_tr (h1 : 1 ≤ n) (h2 : n ≤ 2) {g : Nat} (hg : g < KK n) {k a b : Nat} (hl : ltr3 n g = (k, a, b)) (w : World) : Calls Try.prog 33 #[.int .i64 (n : Int), .agg #[.int .i64 (k : Int), .int .i64 (a : Int), .int .i64 (b : Int)]] w fun e w' => ∃ r0 r1, e = .returned (.agg #[.int .i64 (n : Int), r0, r1]) ∧ Tr w' n (gT n g) r0 r1 ∧ Below w.heap.size w w' := by
  have hk := ltr_ok h1 h2 hg
  have hs := (gate_sym h1 h2 hg).1
  unfold gT gX gZ at hs ⊢
  rw [hl] at hk hs ⊢
  refine (spec_l7Gate_any n k a b w hk h1 (by omega)).mono ?_
  rintro e w' ⟨r0, r1, rfl, h0, h3, _, hb⟩
  exact ⟨r0, r1, rfl, Tr.of (x := (gtX n k a b, gtZ n k a b)) hs h0 h3, hb⟩
theorem compS_tr (h2 : n ≤ 2) {y : TT} {u0 u1 : Value} (hx : SymT n x) (hy : SymT n y) (r : Tr w n x r0 r1) (s : Tr w n y u0 u1) : Calls Try.prog 31 #[.agg #[.int .i64 (n : Int), r0, r1], .agg #[.int .i64 (n : Int), u0, u1]] w fun e w' => ∃ q0 q1, e = .returned (.agg #[.int .i64 (n : Int), q0, q1]) ∧ Tr w' n (Go.Proofs.Ytjdffjnennodaaa.cmp n x y) q0 q1 ∧ Below w.heap.size w w' := by
  obtain ⟨a0, a1⟩ := r.rd hx
  obtain ⟨b0, b1⟩ := s.rd hy
  refine (spec_l7Then_any n x.1 x.2 y.1 y.2 r0 r1 u0 u1 w (by omega) hx.lx hx.lz hy.lx hy.lz hx.ltx.ok hx.ltz.ok hy.ltx.ok hy.ltz.ok a0 a1 b0 b1).mono ?_
  rintro e w' ⟨q0, q1, rfl, h0, h3, _, hb⟩
  rw [compL_samet (by omega) hx.ltx] at h0
  rw [compL_samet (by omega) hx.ltz] at h3
  exact ⟨q0, q1, rfl, Tr.of (x := Go.Proofs.Ytjdffjnennodaaa.cmp n x y) (SymT.cmp hx hy) h0 h3, hb⟩
theorem stepS_tr (h1 : 1 ≤ n) (h2 : n ≤ 2) {g : Nat} (hg : g < KK n) {u0 u1 : Value} (hx : SymT n x) (r : Tr w n x r0 r1) (s : Tr w n (gT n g) u0 u1) : Calls Try.prog 31 #[.agg #[.int .i64 (n : Int), r0, r1], .agg #[.int .i64 (n : Int), u0, u1]] w fun e w' => ∃ q0 q1, e = .returned (.agg #[.int .i64 (n : Int), q0, q1]) ∧ Tr w' n (stT n x g) q0 q1 ∧ Below w.heap.size w w' :=
  compS_tr h2 hx (gate_sym h1 h2 hg).1 r s
theorem invS_tr (h1 : 1 ≤ n) (h2 : n ≤ 2) {g : Nat} (hg : g < KK n) (r : Tr w n (gT n g) r0 r1) : Calls Try.prog 32 #[.agg #[.int .i64 (n : Int), r0, r1]] w fun e w' => ∃ q0 q1, e = .returned (.agg #[.int .i64 (n : Int), q0, q1]) ∧ Tr w' n (giT n g) q0 q1 ∧ Below w.heap.size w w' := by
  obtain ⟨s1, s2, _⟩ := gate_sym h1 h2 hg
  obtain ⟨a0, a1⟩ := r.rd s1
  refine (spec_l7Invert_any n (gX n g) (gZ n g) r0 r1 w s1 a0 a1).mono ?_
  rintro e w' ⟨q0, q1, rfl, h0, h3, _, hb⟩
  exact ⟨q0, q1, rfl, Tr.of (x := giT n g) s2 h0 h3, hb⟩
theorem backS_tr (h1 : 1 ≤ n) (h2 : n ≤ 2) {g : Nat} (hg : g < KK n) {u0 u1 : Value} (hx : SymT n x) (r : Tr w n (giT n g) u0 u1) (s : Tr w n x r0 r1) : Calls Try.prog 31 #[.agg #[.int .i64 (n : Int), u0, u1], .agg #[.int .i64 (n : Int), r0, r1]] w fun e w' => ∃ q0 q1, e = .returned (.agg #[.int .i64 (n : Int), q0, q1]) ∧ Tr w' n (bkT n x g) q0 q1 ∧ Below w.heap.size w w' :=
  compS_tr h2 (gate_sym h1 h2 hg).2.1 hx r s
theorem backS_rd (h1 : 1 ≤ n) (h2 : n ≤ 2) {g : Nat} (hg : g < KK n) {u0 u1 : Value} (hx : SymT n x) (r : Tr w n (giT n g) u0 u1) (b0 : RdE w r0 E3.cs 3 (pes x.1)) (b1 : RdE w r1 E3.cs 3 (pes x.2)) : Calls Try.prog 31 #[.agg #[.int .i64 (n : Int), u0, u1], .agg #[.int .i64 (n : Int), r0, r1]] w fun e w' => ∃ q0 q1, e = .returned (.agg #[.int .i64 (n : Int), q0, q1]) ∧ Tr w' n (bkT n x g) q0 q1 ∧ Below w.heap.size w w' := by
  have hi := (gate_sym h1 h2 hg).2.1
  obtain ⟨a0, a1⟩ := r.rd hi
  refine (spec_l7Then_any n (giT n g).1 (giT n g).2 x.1 x.2 u0 u1 r0 r1 w (by omega) hi.lx hi.lz hx.lx hx.lz hi.ltx.ok hi.ltz.ok hx.ltx.ok hx.ltz.ok a0 a1 b0 b1).mono ?_
  rintro e w' ⟨q0, q1, rfl, h0, h3, _, hb⟩
  rw [compL_samet (by omega) hi.ltx] at h0
  rw [compL_samet (by omega) hi.ltz] at h3
  exact ⟨q0, q1, rfl, Tr.of (x := Go.Proofs.Ytjdffjnennodaaa.cmp n (giT n g) x) (SymT.cmp hi hx) h0 h3, hb⟩
theorem back_sym (h1 : 1 ≤ n) (h2 : n ≤ 2) {g : Nat} (hg : g < KK n) (hx : SymT n x) : SymT n (bkT n x g) := SymT.cmp (gate_sym h1 h2 hg).2.1 hx
end
end Go.Proofs.Ytjdffjnennodaaa
namespace Go.Proofs.Ytjdffjnennodaaa
set_option linter.unusedSimpArgs false
set_option linter.unusedVariables false
set_option linter.unnecessarySimpa false
set_option maxRecDepth 200000
open Go.ChangeShapes Go.WideShapes Go.ChangeAt Go.RowKit Go.Maps

abbrev VP := Value × Value
def vcs (n : Nat) (m : VP) : List Value := [.int .i64 (n : Int), m.1, m.2]
structure Trs (w : World) (n : Nat) (Q : List (TT × List Nat)) (M : List VP) : Prop where
  len : M.length = Q.length
  get : ∀ (i : Nat) (p : TT × List Nat) (m : VP), Q[i]? = some p → M[i]? = some m → Tr w n p.1 m.1 m.2
section
variable {w w' : World} {n : Nat} {Q : List (TT × List Nat)} {M : List VP}
theorem Trs.kept (h : Trs w n Q M) {r : Option Nat} (hg : w.grownBy w' r) (hr : ∀ b, r = some b → ∀ cur, w.heap[b]? ≠ some (.cells cur 62) ∧ w.heap[b]? ≠ some (.cells cur 57)) : Trs w' n Q M := ⟨h.len, fun i p m hp hm => (h.get i p m hp hm).kept hg hr⟩
theorem Trs.call (h : Trs w n Q M) (hb : Below w.heap.size w w') : Trs w' n Q M := ⟨h.len, fun i p m hp hm => (h.get i p m hp hm).call hb⟩
theorem Trs.add (h : Trs w n Q M) {p : TT × List Nat} {m : VP} (h2 : Tr w n p.1 m.1 m.2) : Trs w n (Q ++ [p]) (M ++ [m]) := by
  refine ⟨by simp [h.len], fun i q k hq hk => ?_⟩
  by_cases hi : i < Q.length
  · rw [List.getElem?_append_left hi] at hq
    rw [List.getElem?_append_left (by rw [h.len]; exact hi)] at hk
    exact h.get i q k hq hk
  · rw [List.getElem?_append_right (by omega)] at hq
    rw [List.getElem?_append_right (by rw [h.len]; omega), h.len] at hk
    have hz : i - Q.length = 0 := by
      rcases Nat.eq_zero_or_pos (i - Q.length) with h0 | h0
      · exact h0
      · rw [List.getElem?_eq_none (by simp; omega)] at hq; cases hq
    rw [hz] at hq hk
    simp only [List.getElem?_cons_zero, Option.some.injEq] at hq hk
    subst hq; subst hk; exact h2
theorem ty_no {base k sz : Nat} {v : Value} {xs : List Value} (h : w.ownsRow base 30 sz v k xs) : ∀ b, v.ownBlock = some b → ∀ cur, w.heap[b]? ≠ some (.cells cur 62) ∧ w.heap[b]? ≠ some (.cells cur 57) := by
  intro b hb cur
  rcases h.2 with ⟨rfl, _⟩ | ⟨g, cap, c2, rfl, _, hg, _⟩
  · cases hb
  · have e2 : g = b := by injection hb
    subst e2
    rw [hg]
    refine ⟨fun h => ?_, fun h => ?_⟩ <;> (injection h with h; injection h with _ h; exact absurd h (by decide))
theorem int_no {g : Nat} {cur : Array Value} (h : w.heap[g]? = some (.cells cur 3)) : ∀ b, some g = some b → ∀ cur, w.heap[b]? ≠ some (.cells cur 62) ∧ w.heap[b]? ≠ some (.cells cur 57) := by
  intro b e cur2
  have e2 : g = b := by injection e
  subst e2
  rw [h]
  refine ⟨fun h => ?_, fun h => ?_⟩ <;> (injection h with h; injection h with _ h; exact absurd h (by decide))
end
/-- The lengths, and the type of their cells. -/
structure FarB (w : World) (g : Nat) (F : Nat → Nat) : Prop where
  m : FarM w g F
  ty : ∃ cur, w.heap[g]? = some (.cells cur 3)
section
variable {w w' : World} {g : Nat} {F : Nat → Nat}
theorem FarB.of_block (h : FarB w g F) (hb : w'.heap[g]? = w.heap[g]?) (hs : w.heap.size ≤ w'.heap.size) : FarB w' g F := ⟨h.m.of_block hb hs, by rw [hb]; exact h.ty⟩
theorem FarB.call (h : FarB w g F) (hb : Below w.heap.size w w') : FarB w' g F := h.of_block (hb.block g h.m.lt) hb.size
theorem FarB.callB {B : Nat} (h : FarB w g F) (hb : Below B w w') (hg : g < B) : FarB w' g F := h.of_block (hb.block g hg) hb.size
theorem FarB.kept {r : Option Nat} (h : FarB w g F) (hg : w.grownBy w' r) (hn : some g ≠ r) : FarB w' g F := h.of_block (hg.block g h.m.lt hn) hg.size
theorem FarB.set (h : FarB w g F) {c : Nat} (hc : c < 1048576) (v : Nat) : FarB (w.setCell ⟨g, c, none⟩ (.int .i64 (v : Int))) g (fun k => if k = c then v else F k) := by
  refine ⟨h.m.set hc v, ?_⟩
  obtain ⟨cur, hcur⟩ := h.ty
  refine ⟨cur.setIfInBounds c (.int .i64 (v : Int)), ?_⟩
  simp [World.setCell, Array.getElem?_modify, hcur]
theorem FarB.new {base : Nat} {xs : List Value} (h : w.ownsRow base 3 1 (.slice (some ⟨g, 0, none⟩) 1048576 1048576) 1048576 xs) (hz : ∀ c, c < 1048576 → xs[c]? = some (.int .i64 0)) : FarB w g (fun _ => 0) := by
  refine ⟨FarM.new h hz, ?_⟩
  rcases h.2 with ⟨h0, _⟩ | ⟨g2, cap, cur, e, _, hg, _⟩
  · cases h0
  · injection e with e _ _
    injection e with e
    injection e with e _
    subst e
    exact ⟨cur, hg⟩
end
/-- The memory in the search. -/
structure FS (n : Nat) (W wr : World) (v0 v1 : Value) (gF : Nat) (F : Nat → Nat) (vL : Value) (M : List VP) (Q : List (TT × List Nat)) : Prop where
  bel : Below W.heap.size W wr
  t1 : Bw wr W.heap.size [.int .i64 (n : Int), v0, v1]
  far : FarB wr gF F
  off : W.heap.size < gF
  lst : wr.ownsRow (W.heap.size + 1) 30 3 vL Q.length (M.flatMap (vcs n))
  trs : Trs wr n Q M
  ne : vL.ownBlock ≠ some gF
section
variable {n gF : Nat} {F : Nat → Nat} {W wr w' : World} {v0 v1 vL : Value} {M : List VP} {Q : List (TT × List Nat)}
theorem FS.call (h : FS n W wr v0 v1 gF F vL M Q) (hb : Below wr.heap.size wr w') : FS n W w' v0 v1 gF F vL M Q :=
  ⟨Below.trans h.bel (hb.mono h.bel.size), h.t1.call hb, h.far.call hb, h.off, own_below h.lst hb rfl, h.trs.call hb, h.ne⟩
theorem FS.setF (h : FS n W wr v0 v1 gF F vL M Q) {c : Nat} (hc : c < 1048576) (v : Nat) : FS n W (wr.setCell ⟨gF, c, none⟩ (.int .i64 (v : Int))) v0 v1 gF (fun k => if k = c then v else F k) vL M Q := by
  have hg := set_grown wr gF c (.int .i64 (v : Int))
  obtain ⟨cur, hcur⟩ := h.far.ty
  refine ⟨Below.setCell h.bel (Nat.le_of_lt h.off) _, h.t1.kept hg (fun e => ?_), h.far.set hc v, h.off, ?_, h.trs.kept hg (int_no hcur), h.ne⟩
  · have e2 : W.heap.size = gF := by injection e
    have := h.off; omega
  · refine own_kept h.lst hg (fun b hb cur2 hc2 => ?_)
    have e2 : gF = b := by injection hb
    subst e2
    rw [hcur] at hc2
    injection hc2 with hc2
    injection hc2 with _ hc2
    exact absurd hc2 (by decide)
theorem FS.app (h : FS n W wr v0 v1 gF F vL M Q) {p : TT × List Nat} {m : VP} (hn : Tr wr n p.1 m.1 m.2) {g cap : Nat} (ho : w'.ownsRow (W.heap.size + 1) 30 3 (.slice (some ⟨g, 0, none⟩) (Q.length + 1) cap) (Q.length + 1) (M.flatMap (vcs n) ++ vcs n m)) (hg : wr.grownBy w' vL.ownBlock) (hb : vL.ownBlock = some g ∨ g = wr.heap.size) :
    FS n W w' v0 v1 gF F (.slice (some ⟨g, 0, none⟩) (Q.length + 1) cap) (M ++ [m]) (Q ++ [p]) := by
  have hm := ty_no h.lst
  have hlt := h.lst.lt
  refine ⟨h.bel.grown hg h.bel.size (fun b hb => ?_), h.t1.kept hg (fun e => ?_), h.far.kept hg (fun e => h.ne e.symm), h.off, ?_, (h.trs.kept hg hm).add (hn.kept hg hm), fun e => ?_⟩
  · have := hlt b hb; omega
  · have := hlt _ e.symm; omega
  · rw [List.length_append, List.flatMap_append]; simpa using ho
  · have e2 : g = gF := by injection e
    subst e2
    rcases hb with hb | hb
    · exact h.ne hb
    · have := h.far.m.lt; omega
theorem tab_at {w : World} {base L : Nat} {v : Value} {M : List VP} (h : w.ownsRow base 30 3 v L (M.flatMap (vcs n))) (hl : M.length = L) {i : Nat} {m : VP} (hm : M[i]? = some m) :
    ∃ g cap, v = .slice (some ⟨g, 0, none⟩) L cap ∧ base ≤ g ∧ g < w.heap.size ∧ w.cell? ⟨g, i * 3, none⟩ = some (.int .i64 (n : Int)) ∧ w.cell? ⟨g, i * 3 + 1, none⟩ = some m.1 ∧ w.cell? ⟨g, i * 3 + 2, none⟩ = some m.2 := by
  have hi := (List.getElem?_eq_some_iff.1 hm).1
  have e : M[i] = m := (List.getElem?_eq_some_iff.1 hm).2
  obtain ⟨g, cap, rfl⟩ := Go.Joins.ownsRow_form h (by omega)
  have hlt := h.lt g rfl
  have hd : RdE w (.slice (some ⟨g, 0, none⟩) L cap) (vcs n) 3 M := by
    rw [← hl] at h ⊢
    exact OwnE.rd (f := vcs n) (base := base) h
  rcases hd.cases0 (show ∀ m, (vcs n m).length = 3 from fun _ => rfl) with ⟨h0, _⟩ | ⟨_, b, off, cp, he, hb, h2, h3, hc⟩
  · subst h0; simp at hm
  · injection he with he
    injection he with he
    injection he with e1 e2
    subst e1; subst e2
    refine ⟨g, cap, rfl, hlt.1, hlt.2, ?_, ?_, ?_⟩
    · simpa [e, vcs] using hc i hi 0 (.int .i64 (n : Int)) (by omega) rfl
    · simpa [e, vcs] using hc i hi 1 M[i].1 (by omega) rfl
    · simpa [e, vcs] using hc i hi 2 M[i].2 (by omega) rfl
end
theorem info_Tableau : (Try.prog.info? 30).map (fun i => (i.zero, i.size, i.bytes)) = some (some (.agg #[.int .i64 0, .slice none 0 0, .slice none 0 0]), 3, 56) := by kernel_rfl
end Go.Proofs.Ytjdffjnennodaaa
