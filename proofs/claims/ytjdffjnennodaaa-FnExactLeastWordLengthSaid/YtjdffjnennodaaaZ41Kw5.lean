/- What the walk of the search asks of the program's other functions. -/
import Derived.Test.YtjdffjnennodaaaZ39M
import Derived.Test.YtjdffjnennodaaaZ17Comp1
import Derived.Test.YtjdffjnennodaaaZ40Gu1
namespace Go.Proofs.Ytjdffjnennodaaa
set_option linter.unusedSimpArgs false
set_option linter.unusedVariables false
set_option linter.unnecessarySimpa false
set_option maxRecDepth 200000
open Go.ChangeShapes Go.WideShapes Go.ChangeAt Go.RowKit Go.Maps

/-- The two rows of a tableau. -/
structure Tr (w : World) (n : Nat) (x : TT) (r0 r1 : Value) : Prop where
  rx : w.ownsRow 0 62 3 r0 n ((pes x.1).flatMap E3.cs)
  rz : w.ownsRow 0 62 3 r1 n ((pes x.2).flatMap E3.cs)
section
variable {w w' : World} {n : Nat} {x : TT} {r0 r1 : Value}
theorem Tr.kept (h : Tr w n x r0 r1) {r : Option Nat} (hg : w.grownBy w' r) (hr : ∀ b, r = some b → ∀ cur, w.heap[b]? ≠ some (.cells cur 62) ∧ w.heap[b]? ≠ some (.cells cur 57)) : Tr w' n x r0 r1 :=
  ⟨own_kept h.rx hg (fun b hb cur => (hr b hb cur).1), own_kept h.rz hg (fun b hb cur => (hr b hb cur).1)⟩
theorem Tr.call (h : Tr w n x r0 r1) (hb : Below w.heap.size w w') : Tr w' n x r0 r1 := ⟨own_below h.rx hb rfl, own_below h.rz hb rfl⟩
theorem Tr.of {B : Nat} (hx : SymT n x) (h0 : OwnE w B 62 r0 E3.cs 3 (pes x.1)) (h1 : OwnE w B 62 r1 E3.cs 3 (pes x.2)) : Tr w n x r0 r1 := by
  have a0 := OwnE.le h0 (Nat.zero_le _)
  have a1 := OwnE.le h1 (Nat.zero_le _)
  unfold OwnE at a0 a1
  rw [pes_len] at a0 a1
  rw [show x.1.length = n from hx.lx] at a0
  rw [show x.2.length = n from hx.lz] at a1
  exact ⟨a0, a1⟩
theorem Tr.rd (hx : SymT n x) (h : Tr w n x r0 r1) : RdE w r0 E3.cs 3 (pes x.1) ∧ RdE w r1 E3.cs 3 (pes x.2) := by
  have a0 := h.rx
  have a1 := h.rz
  rw [← show x.1.length = n from hx.lx, ← pes_len] at a0
  rw [← show x.2.length = n from hx.lz, ← pes_len] at a1
  exact ⟨OwnE.rd (base := 0) a0, OwnE.rd (base := 0) a1⟩
theorem Nd.tr {p : TT × List Nat} {m : NodeV} (h : Nd w n p m) : Tr w n p.1 m.x m.z := ⟨h.x, h.z⟩
theorem Nd.rdG {p : TT × List Nat} {m : NodeV} (h : Nd w n p m) : RdE w m.g E3.cs 3 (gts n p.2) := by
  have a := h.g
  rw [← show (gts n p.2).length = p.2.length from by simp [gts]] at a
  exact OwnE.rd (base := 0) a
theorem root_tr (h1 : 1 ≤ n) (h2 : n ≤ 2) (w : World) : Calls Try.prog 42 #[.int .i64 (n : Int)] w fun e w' => ∃ r0 r1, e = .returned (.agg #[.int .i64 (n : Int), r0, r1]) ∧ Tr w' n (idT2 n) r0 r1 ∧ Below w.heap.size w w' := by
  refine (impl_identity_any (n : Int) w (by omega) (by omega)).mono ?_
  rintro e w' ⟨u0, u1, rfl, h0, h3, _, hb⟩
  rw [Int.toNat_natCast] at h0 h3
  rw [idX_pes] at h0
  rw [idZ_pes] at h3
  exact ⟨u0, u1, rfl, Tr.of (x := idT2 n) (id_sym h1 h2) h0 h3, hb⟩
theorem ltr_ok (h1 : 1 ≤ n) (h2 : n ≤ 2) {g : Nat} (hg : g < KK n) : GtOk n (ltr3 n g).1 (ltr3 n g).2.1 (ltr3 n g).2.2 := by
  have h : ∀ n : Fin 3, 1 ≤ n.val → ∀ g : Fin 6, g.val < KK n.val → (((ltr3 n.val g.val).1 = 9 ∧ (ltr3 n.val g.val).2.1 ≠ (ltr3 n.val g.val).2.2) ∨ (((ltr3 n.val g.val).1 = 1 ∨ (ltr3 n.val g.val).1 = 5) ∧ (ltr3 n.val g.val).2.2 = 0)) ∧ (ltr3 n.val g.val).2.1 < n.val ∧ (ltr3 n.val g.val).2.2 < n.val := by decide +kernel
  have hK := KK_le n
  obtain ⟨h3, h4, h5⟩ := h ⟨n, by omega⟩ h1 ⟨g, by omega⟩ hg
  dsimp only at h3 h4 h5
  exact ⟨by omega, h4, h5⟩
theorem gate_tr (h1 : 1 ≤ n) (h2 : n ≤ 2) {g : Nat} (hg : g < KK n) {k a b : Nat} (hl : ltr3 n g = (k, a, b)) (w : World) : Calls Try.prog 46 #[.int .i64 (n : Int), .agg #[.int .i64 (k : Int), .int .i64 (a : Int), .int .i64 (b : Int)]] w fun e w' => ∃ r0 r1, e = .returned (.agg #[.int .i64 (n : Int), r0, r1]) ∧ Tr w' n (gT n g) r0 r1 ∧ Below w.heap.size w w' := by
  have hk := ltr_ok h1 h2 hg
  have hs := (gate_sym h1 h2 hg).1
  unfold gT gX gZ at hs ⊢
  rw [hl] at hk hs ⊢
  refine (impl_gateTableau_any n k a b w hk h1 (by omega)).mono ?_
  rintro e w' ⟨r0, r1, rfl, h0, h3, _, hb⟩
  exact ⟨r0, r1, rfl, Tr.of (x := (gtX n k a b, gtZ n k a b)) hs h0 h3, hb⟩
theorem comp_tr (h2 : n ≤ 2) {y : TT} {u0 u1 : Value} (hx : SymT n x) (hy : SymT n y) (r : Tr w n x r0 r1) (s : Tr w n y u0 u1) : Calls Try.prog 45 #[.agg #[.int .i64 (n : Int), r0, r1], .agg #[.int .i64 (n : Int), u0, u1]] w fun e w' => ∃ q0 q1, e = .returned (.agg #[.int .i64 (n : Int), q0, q1]) ∧ Tr w' n (Go.Proofs.Ytjdffjnennodaaa.cmp n x y) q0 q1 ∧ Below w.heap.size w w' := by
  obtain ⟨a0, a1⟩ := r.rd hx
  obtain ⟨b0, b1⟩ := s.rd hy
  refine (impl_compose_any n x.1 x.2 y.1 y.2 r0 r1 u0 u1 w (by omega) hx.lx hx.lz hy.lx hy.lz hx.ltx.ok hx.ltz.ok hy.ltx.ok hy.ltz.ok a0 a1 b0 b1).mono ?_
  rintro e w' ⟨q0, q1, rfl, h0, h3, _, hb⟩
  exact ⟨q0, q1, rfl, Tr.of (x := Go.Proofs.Ytjdffjnennodaaa.cmp n x y) (SymT.cmp hx hy) h0 h3, hb⟩
theorem step_tr (h1 : 1 ≤ n) (h2 : n ≤ 2) {g : Nat} (hg : g < KK n) {u0 u1 : Value} (hx : SymT n x) (r : Tr w n x r0 r1) (s : Tr w n (gT n g) u0 u1) : Calls Try.prog 45 #[.agg #[.int .i64 (n : Int), r0, r1], .agg #[.int .i64 (n : Int), u0, u1]] w fun e w' => ∃ q0 q1, e = .returned (.agg #[.int .i64 (n : Int), q0, q1]) ∧ Tr w' n (stT n x g) q0 q1 ∧ Below w.heap.size w w' :=
  comp_tr h2 hx (gate_sym h1 h2 hg).1 r s
theorem step_sym (h1 : 1 ≤ n) (h2 : n ≤ 2) {g : Nat} (hg : g < KK n) (hx : SymT n x) : SymT n (stT n x g) := SymT.cmp hx (gate_sym h1 h2 hg).1
theorem key_tr (h1 : 1 ≤ n) (h2 : n ≤ 2) (hx : SymT n x) (r : Tr w n x r0 r1) : Calls Try.prog 43 #[.agg #[.int .i64 (n : Int), r0, r1]] w fun e w' => e = .returned (keyV n x) ∧ Below w.heap.size w w' := by
  obtain ⟨a0, a1⟩ := r.rd hx
  exact impl_keyOf_any h1 h2 hx r0 r1 w a0 a1
theorem eq_tr (hx : SymT n x) {y : TT} {v0 v1 : Value} (r : Tr w n x r0 r1) (s0 : RdE w v0 E3.cs 3 (pes y.1)) (s1 : RdE w v1 E3.cs 3 (pes y.2)) {b : Bool} (hb : b = true ↔ x = y) : Calls Try.prog 44 #[.agg #[.int .i64 (n : Int), r0, r1], .agg #[.int .i64 (n : Int), v0, v1]] w fun e w' => e = .returned (.bool b) ∧ Below w.heap.size w w' := by
  obtain ⟨a0, a1⟩ := r.rd hx
  refine (impl_equalTableaux_any (n : Int) _ _ _ _ r0 r1 v0 v1 w a0 a1 s0 s1).mono ?_
  rintro e w' ⟨rfl, h⟩
  refine ⟨?_, h⟩
  congr 2
  rw [Bool.eq_iff_iff, decide_eq_true_eq, hb]
  constructor
  · rintro ⟨e1, e2⟩
    have f1 := pes_inj.1 e1
    have f2 := pes_inj.1 e2
    obtain ⟨p, q⟩ := x
    obtain ⟨p2, q2⟩ := y
    dsimp only at f1 f2
    rw [f1, f2]
  · rintro rfl; exact ⟨rfl, rfl⟩
theorem clone_g {L : List Nat} {v : Value} (h : w.ownsRow 0 57 3 v L.length ((gts n L).flatMap E3.cs)) (hn : L.length ≤ 1048576) : Calls Try.prog 47 #[v] w fun e w' => ∃ v', e = .returned v' ∧ w'.ownsRow w.heap.size 57 3 v' L.length ((gts n L).flatMap E3.cs) ∧ Below w.heap.size w w' := by
  have hl : (gts n L).length = L.length := by simp [gts]
  rw [← hl] at h
  refine (slices_Clone_Gate v (gts n L) w (OwnE.rd (base := 0) h) (by rw [hl]; exact hn)).mono ?_
  rintro e w' ⟨v', rfl, ho, hb⟩
  refine ⟨v', rfl, ?_, hb⟩
  unfold OwnE at ho
  rw [hl] at ho
  exact ho
theorem node_at {w : World} {base L : Nat} {v : Value} {M : List NodeV} (h : w.ownsRow base 73 4 v L (M.flatMap (NodeV.cs n))) (hl : M.length = L) {i : Nat} {m : NodeV} (hm : M[i]? = some m) :
    ∃ g cap, v = .slice (some ⟨g, 0, none⟩) L cap ∧ base ≤ g ∧ g < w.heap.size ∧ w.cell? ⟨g, i * 4, none⟩ = some (.int .i64 (n : Int)) ∧ w.cell? ⟨g, i * 4 + 1, none⟩ = some m.x ∧ w.cell? ⟨g, i * 4 + 2, none⟩ = some m.z ∧ w.cell? ⟨g, i * 4 + 3, none⟩ = some m.g := by
  have hi := (List.getElem?_eq_some_iff.1 hm).1
  have e : M[i] = m := (List.getElem?_eq_some_iff.1 hm).2
  obtain ⟨g, cap, rfl⟩ := Go.Joins.ownsRow_form h (by omega)
  have hlt := h.lt g rfl
  have hd : RdE w (.slice (some ⟨g, 0, none⟩) L cap) (NodeV.cs n) 4 M := by
    rw [← hl] at h ⊢
    exact OwnE.rd (f := NodeV.cs n) (base := base) h
  rcases hd.cases0 (NodeV.len n) with ⟨h0, _⟩ | ⟨_, b, off, cp, he, hb, h2, h3, hc⟩
  · subst h0; simp at hm
  · injection he with he
    injection he with he
    injection he with e1 e2
    subst e1; subst e2
    refine ⟨g, cap, rfl, hlt.1, hlt.2, ?_, ?_, ?_, ?_⟩
    · simpa [e, NodeV.cs] using hc i hi 0 (.int .i64 (n : Int)) (by omega) rfl
    · simpa [e, NodeV.cs] using hc i hi 1 M[i].x (by omega) rfl
    · simpa [e, NodeV.cs] using hc i hi 2 M[i].z (by omega) rfl
    · simpa [e, NodeV.cs] using hc i hi 3 M[i].g (by omega) rfl
theorem gts_add (L : List Nat) (g : Nat) : (gts n (L ++ [g])).flatMap E3.cs = (gts n L).flatMap E3.cs ++ (gte (ltr3 n g)).cs := by simp [gts]
end
/-- The letters of n qubits, but the controlled NOTs, up to a qubit. -/
def ltsTo (k : Nat) : List E3 := (List.range k).flatMap fun (q : Nat) => [⟨1, (q : Int), 0⟩, ⟨5, (q : Int), 0⟩]
theorem ltsTo_len (k : Nat) : (ltsTo k).length = k * 2 := by
  induction k with
  | zero => rfl
  | succ k ih => unfold ltsTo at ih ⊢; rw [List.range_succ, List.flatMap_append, List.length_append, ih]; simp; omega
theorem ltsTo_add (k : Nat) : (ltsTo (k + 1)).flatMap E3.cs = (ltsTo k).flatMap E3.cs ++ [.int .i64 1, .int .i64 (k : Int), .int .i64 0, .int .i64 5, .int .i64 (k : Int), .int .i64 0] := by
  unfold ltsTo
  rw [List.range_succ, List.flatMap_append, List.flatMap_append]; rfl
theorem own_newW {base g sz n : Nat} {us : List Value} (w : World) (t : TypeId) (hg : w.heap.size = g) (hb : base ≤ g) (hl : us.length = n * sz) (hn : n ≤ 1000) :
    (w.alloc (.cells us.toArray t)).ownsRow base t sz (.slice (some ⟨g, 0, none⟩) n n) n us := by
  subst hg
  refine ⟨hl, .inr ⟨w.heap.size, n, us.toArray, rfl, hb, ?_, Nat.le_refl _, by unfold maxLen; omega, by simp [hl], by rw [← hl]; simp⟩⟩
  show (w.heap.push _)[w.heap.size]? = _
  simp
theorem KS.begin_ {n : Nat} {W w1 : World} {v0 v1 vL q0 q1 : Value} (T1 : Bw w1 W.heap.size [.int .i64 (n : Int), v0, v1]) (L1 : w1.ownsRow (W.heap.size + 1) 57 3 vL (KK n) ((gls n).flatMap E3.cs)) (B1 : Below W.heap.size W w1) (X1 : Tr w1 n (idT2 n) q0 q1) :
    KS n W ((w1.alloc (.cells #[.int .i64 (n : Int), q0, q1, .slice none 0 0] 73)).alloc (.map #[] 0)) v0 v1 vL (w1.heap.size + 1) [] (.slice (some ⟨w1.heap.size, 0, none⟩) 1 1) (.slice none 0 0) [⟨q0, q1, .slice none 0 0⟩] [] [(idT2 n, [])] [] := by
  have hl := T1.lt
  have hb : Below w1.heap.size w1 (w1.alloc (.cells #[.int .i64 (n : Int), q0, q1, .slice none 0 0] 73)) := (by repeat (first | exact Below.refl _ _ | assumption | refine Below.drew ?_ | refine below_drewN ?_ _ | refine Below.alloc ?_ (by first | omega | (simp <;> omega)) _ | refine Below.setCell ?_ (by first | omega | (simp <;> omega)) _ | refine Below.trans ?_ (Below.mono (by assumption) (by first | omega | (simp <;> omega)))))
  have hb2 : Below (w1.alloc (.cells #[.int .i64 (n : Int), q0, q1, .slice none 0 0] 73)).heap.size (w1.alloc (.cells #[.int .i64 (n : Int), q0, q1, .slice none 0 0] 73)) ((w1.alloc (.cells #[.int .i64 (n : Int), q0, q1, .slice none 0 0] 73)).alloc (.map #[] 0)) := (by repeat (first | exact Below.refl _ _ | assumption | refine Below.drew ?_ | refine below_drewN ?_ _ | refine Below.alloc ?_ (by first | omega | (simp <;> omega)) _ | refine Below.setCell ?_ (by first | omega | (simp <;> omega)) _ | refine Below.trans ?_ (Below.mono (by assumption) (by first | omega | (simp <;> omega)))))
  refine ⟨?_, (T1.call hb).call hb2, own_below (own_below L1 hb rfl) hb2 rfl, ?_, by omega, ?_, ?_, World.ownsRow_nil _ _ _ _, Nds.nil, fun b _ e => by cases e⟩
  · exact Below.alloc (Below.alloc B1 (by omega) _) (by simp; omega) _
  · have h := Seen.made (w1.alloc (.cells #[.int .i64 (n : Int), q0, q1, .slice none 0 0] 73))
    simpa [kys] using h
  · exact own_below (own_newW (us := [.int .i64 (n : Int), q0, q1, .slice none 0 0]) w1 73 rfl (by omega) rfl (by omega)) hb2 rfl
  · have h := Nds.nil (w := ((w1.alloc (.cells #[.int .i64 (n : Int), q0, q1, .slice none 0 0] 73)).alloc (.map #[] 0))) (n := n)
    exact h.add (m := ⟨q0, q1, .slice none 0 0⟩) ⟨((X1.call hb).call hb2).rx, ((X1.call hb).call hb2).rz, World.ownsRow_nil _ _ _ _⟩
/-- A box whose cells' type is known. -/
structure Bt (w : World) (g : Nat) (t : TypeId) (us : List Value) : Prop where
  bw : Bw w g us
  ty : ∃ cur, w.heap[g]? = some (.cells cur t)
section
variable {w w' : World} {g : Nat} {t : TypeId} {us : List Value}
theorem Bt.new (w : World) (us : List Value) (t : TypeId) (hg : w.heap.size = g) : Bt (w.alloc (.cells us.toArray t)) g t us := by
  refine ⟨Bw.new w us t hg, us.toArray, ?_⟩
  subst hg
  show (w.heap.push _)[w.heap.size]? = _
  simp
theorem Bt.kept {r : Option Nat} (h : Bt w g t us) (hg : w.grownBy w' r) (hn : some g ≠ r) : Bt w' g t us := by
  refine ⟨h.bw.kept hg hn, ?_⟩
  obtain ⟨cur, hc⟩ := h.ty
  exact ⟨cur, by rw [hg.block g h.bw.lt hn]; exact hc⟩
theorem Bt.call (h : Bt w g t us) (hb : Below w.heap.size w w') : Bt w' g t us := by
  refine ⟨h.bw.call hb, ?_⟩
  obtain ⟨cur, hc⟩ := h.ty
  exact ⟨cur, by rw [hb.block g h.bw.lt]; exact hc⟩
theorem Bt.drew (h : Bt w g t us) : Bt w.drew g t us := ⟨h.bw.drew, h.ty⟩
theorem Bt.set (h : Bt w g t us) (k : Nat) (u : Value) : Bt (w.setCell ⟨g, k, none⟩ u) g t (us.set k u) := by
  refine ⟨h.bw.set k u, ?_⟩
  obtain ⟨cur, hc⟩ := h.ty
  refine ⟨cur.setIfInBounds k u, ?_⟩
  simp [World.setCell, Array.getElem?_modify, hc]
theorem Bt.no (h : Bt w g 30 us) : ∀ b, some g = some b → ∀ cur, w.heap[b]? ≠ some (.cells cur 62) ∧ w.heap[b]? ≠ some (.cells cur 57) := by
  obtain ⟨c2, hc⟩ := h.ty
  intro b e cur
  have e2 : g = b := by injection e
  subst e2
  rw [hc]
  refine ⟨fun h => ?_, fun h => ?_⟩ <;> (injection h with h; injection h with _ h; exact absurd h (by decide))
theorem set_grown (w : World) (b o : Nat) (u : Value) : w.grownBy (w.setCell ⟨b, o, none⟩ u) (some b) := by
  have q : Below 0 w (w.setCell ⟨b, o, none⟩ u) := Below.setCell (p := ⟨b, o, none⟩) (Below.refl 0 w) (Nat.zero_le _) u
  exact ⟨q.os, q.tape, q.output, q.size, fun k hk hne => Below.heap_setCell _ _ _ k (fun e => hne (by rw [e]))⟩
theorem Tr.set {n : Nat} {x : TT} {r0 r1 : Value} (h : Tr w n x r0 r1) (hb : Bt w g 30 us) (k : Nat) (u : Value) : Tr (w.setCell ⟨g, k, none⟩ u) n x r0 r1 := h.kept (set_grown w g k u) hb.no
/-- A tableau is stored into its box. -/
theorem store_tr {n : Nat} {x : TT} {r0 r1 u0 u1 u2 : Value} {W0 : World} {B : Nat} (h : Tr w n x r0 r1) (hb : Bt w g 30 [u0, u1, u2]) (hbel : Below B W0 w) (hg : B ≤ g) :
    let w' := ((w.setCell ⟨g, 0, none⟩ (.int .i64 (n : Int))).setCell ⟨g, 1, none⟩ r0).setCell ⟨g, 2, none⟩ r1
    Tr w' n x r0 r1 ∧ Bt w' g 30 [.int .i64 (n : Int), r0, r1] ∧ Below B W0 w' := by
  have b1 := hb.set 0 (.int .i64 (n : Int))
  have b2 := b1.set 1 r0
  have b3 := b2.set 2 r1
  exact ⟨((h.set hb 0 _).set b1 1 _).set b2 2 _, b3, Below.setCell (Below.setCell (Below.setCell hbel hg _) hg _) hg _⟩
end
/-- A new level begins. -/
theorem KS.fresh {n B : Nat} {W wr : World} {v0 v1 vL vV vX : Value} {Q P : List (TT × List Nat)} {M : List NodeV} (h : KS n W wr v0 v1 vL B Q vV vX M [] P []) : KS n W (wr.alloc (.cells #[] 73)) v0 v1 vL B Q vV (.slice (some ⟨wr.heap.size, 0, none⟩) 0 0) M [] P [] := by
  have h2 := h.call (show Below wr.heap.size wr (wr.alloc (.cells #[] 73)) from (by repeat (first | exact Below.refl _ _ | assumption | refine Below.drew ?_ | refine below_drewN ?_ _ | refine Below.alloc ?_ (by first | omega | (simp <;> omega)) _ | refine Below.setCell ?_ (by first | omega | (simp <;> omega)) _ | refine Below.trans ?_ (Below.mono (by assumption) (by first | omega | (simp <;> omega))))))
  have hl := h.t1.lt
  have hL := h.lev.lt
  refine ⟨h2.bel, h2.t1, h2.lts, h2.seen, h2.off, h2.lev, h2.nds, ?_, h2.nds2, fun b hb e => ?_⟩
  · exact own_lit0 (f := NodeV.cs n) (sz := 4) wr (W.heap.size + 1) 73 wr.heap.size rfl (by omega)
  · have e2 : wr.heap.size = b := by injection e
    have := hL b hb; omega
theorem letter_at {w : World} {base n j cL : Nat} {aL : Option Addr} (h : w.ownsRow base 57 3 (.slice aL (KK n) cL) (KK n) ((gls n).flatMap E3.cs)) (hj : j < KK n) :
    ∃ g k a c, ltr3 n j = (k, a, c) ∧ aL = some ⟨g, 0, none⟩ ∧ g < w.heap.size ∧ w.cell? ⟨g, j * 3, none⟩ = some (.int .i64 (k : Nat)) ∧ w.cell? ⟨g, j * 3 + 1, none⟩ = some (.int .i64 (a : Nat)) ∧ w.cell? ⟨g, j * 3 + 2, none⟩ = some (.int .i64 (c : Nat)) := by
  obtain ⟨g, cap, e⟩ := Go.Joins.ownsRow_form h (by omega)
  injection e with e1 _ e3
  subst e1; subst e3
  have hlt := h.lt g rfl
  have hd : RdE w (.slice (some ⟨g, 0, none⟩) (gls n).length cL) E3.cs 3 (gls n) := by
    rw [← gls_len n] at h
    exact OwnE.rd (f := E3.cs) (base := base) h
  obtain ⟨A, c, e, hc⟩ := gate_at hd
  injection e with e1 _ e3
  subst e1; subst e3
  obtain ⟨b, off, e, hb, c0, c1, c2⟩ := hc.out j (by rw [gls_len]; exact hj)
  injection e with e
  injection e with e1 e2
  subst e1; subst e2
  have eg : (gls n).getD j ⟨0, 0, 0⟩ = gte (ltr3 n j) := by
    unfold gls ltr3
    rw [show KK n = (LL n).length from rfl] at hj
    simp [List.getD, hj]
  rw [eg] at c0 c1 c2
  obtain ⟨k, a, d, hl⟩ : ∃ k a d, ltr3 n j = (k, a, d) := ⟨_, _, _, rfl⟩
  rw [hl] at c0 c1 c2
  exact ⟨g, k, a, d, hl, rfl, hlt.2, by simpa [gte] using c0, by simpa [gte] using c1, by simpa [gte] using c2⟩
theorem kys_mem {n N j : Nat} {Q : List (TT × List Nat)} {y : TT} (h1 : 1 ≤ n) (h2 : n ≤ 2) (h : InvT n N j Q) (hy : SymT n y) : keyV n y ∈ kys n Q ↔ ∃ q ∈ Q, q.1 = y := by
  unfold kys
  rw [List.mem_reverse]
  exact h.key_mem h1 h2 hy
theorem bw_cells {w : World} {g : Nat} {us : List Value} (h : Bw w g us) : ∀ (j : Nat) (u : Value), us[j]? = some u → w.cell? ((⟨g, 0, none⟩ : Addr).add j) = some u := by
  intro j u hu
  have hadd : (⟨g, 0, none⟩ : Addr).add j = ⟨g, j, none⟩ := by unfold Addr.add; split <;> simp_all
  rw [hadd]
  exact h.cs j u hu
theorem reads_bw {w : World} {g sz m : Nat} {us : List Value} (h : Bw w g us) (hl : us.length = m * sz) : Reads w w.heap.size sz (some ⟨g, 0, none⟩) m us :=
  ⟨hl, fun _ => ⟨_, rfl, h.lt, bw_cells h⟩⟩
theorem word_add {w : World} {base n g k a b : Nat} {v : Value} {L : List Nat} (hl : ltr3 n g = (k, a, b)) (h : w.ownsRow base 57 3 v (L.length + 1) ((gts n L).flatMap E3.cs ++ [.int .i64 (k : Int), .int .i64 (a : Int), .int .i64 (b : Int)])) : w.ownsRow base 57 3 v (L ++ [g]).length ((gts n (L ++ [g])).flatMap E3.cs) := by
  rw [gts_add, hl, List.length_append, List.length_singleton]
  exact h
theorem info_wordNode : (Try.prog.info? 73).map (fun i => (i.zero, i.size, i.bytes)) = some (some (.agg #[.int .i64 0, .slice none 0 0, .slice none 0 0, .slice none 0 0]), 4, 80) := by kernel_rfl
end Go.Proofs.Ytjdffjnennodaaa
