/- The state of the reference's rounds (l14Gray), plain: rows, shared lists, boxes. -/
import Derived.Test.YtbcjligkjoimmaaZ38M
namespace Go.Proofs.Ytbcjligkjoimmaa
set_option linter.unusedSimpArgs false
set_option linter.unusedVariables false
set_option linter.unnecessarySimpa false
set_option maxRecDepth 200000
open Go.ChangeShapes Go.WideShapes Go.ChangeAt Go.RowKit

/-- Rows apart from one another, and lists that some of them share, apart from the rows. -/
structure Fam2 (w : World) (B : Nat) (R F : List Row) : Prop where
  fam : Fam w B R
  own : ∀ r ∈ F, Row.own w B r
  off : ∀ a ∈ F, ∀ b ∈ R, Row.off a b
section
variable {w w' : World} {B : Nat} {R R' F F' : List Row} {r r' : Row}
theorem Fam2.call (h : Fam2 w B R F) (hb : Below w.heap.size w w') : Fam2 w' B R F := ⟨h.fam.call hb, fun r hr => own_below (h.own r hr) hb rfl, h.off⟩
theorem Fam2.perm (h : Fam2 w B R F) (hp : R.Perm R') : Fam2 w B R' F := ⟨h.fam.perm hp, h.own, fun a ha b hb => h.off a ha b (hp.mem_iff.2 hb)⟩
theorem Fam2.lists (h : Fam2 w B R F) (hs : ∀ a ∈ F', a ∈ F) : Fam2 w B R F' := ⟨h.fam, fun r hr => h.own r (hs r hr), fun a ha => h.off a (hs a ha)⟩
theorem Fam2.tail (h : Fam2 w B (r :: R) F) : Fam2 w B R F := ⟨h.fam.tail, h.own, fun a ha b hb => h.off a ha b (by simp [hb])⟩
theorem Fam2.sub (h : Fam2 w B R F) (hs : List.Sublist R' R) : Fam2 w B R' F := ⟨h.fam.take_sub hs, h.own, fun a ha b hb => h.off a ha b (hs.subset hb)⟩
theorem Fam2.upd (h : Fam2 w B (r :: R) F) (hg : w.grownBy w' r.v.ownBlock) (ho : Row.own w' B r') (hat : r'.v.ownBlock = r.v.ownBlock ∨ r'.v.ownBlock = some w.heap.size) : Fam2 w' B (r' :: R) F := by
  refine ⟨h.fam.upd hg ho hat, fun a ha => own_other hg (h.own a ha) (fun g e1 e2 => h.off a ha r (by simp) g e1 e2), fun a ha b hb => ?_⟩
  rcases List.mem_cons.1 hb with rfl | hb
  · intro g e e2
    rcases hat with e3 | e3
    · rw [e3] at e2; exact h.off a ha r (by simp) g e e2
    · rw [e3] at e2; injection e2 with e2
      have := (World.ownsRow.lt (h.own a ha) g e).2
      omega
  · exact h.off a ha b (by simp [hb])
theorem Fam2.join {R2 : List Row} (h : Fam2 w B R F) (hb : Below w.heap.size w w') (h2 : Fam w' w.heap.size R2) (hB : B ≤ w.heap.size) : Fam2 w' B (R2 ++ R) F := by
  refine ⟨h.fam.join hb h2 hB, (h.call hb).own, fun a ha b hb2 g e e2 => ?_⟩
  rcases List.mem_append.1 hb2 with hb2 | hb2
  · have h3 := (World.ownsRow.lt (h2.own b hb2) g e2).1
    have h4 := (World.ownsRow.lt (h.own a ha) g e).2
    omega
  · exact h.off a ha b hb2 g e e2
/-- A list that a call has just made. -/
theorem Fam2.list (h : Fam2 w B R F) (hb : Below w.heap.size w w') (ho : Row.own w' w.heap.size r) (hB : B ≤ w.heap.size) : Fam2 w' B R (r :: F) := by
  have hc := h.call hb
  refine ⟨hc.fam, fun a ha => ?_, fun a ha b hb2 g e e2 => ?_⟩
  · rcases List.mem_cons.1 ha with rfl | ha
    · exact own_le ho hB
    · exact hc.own a ha
  · rcases List.mem_cons.1 ha with rfl | ha
    · have h3 := (World.ownsRow.lt ho g e).1
      have h4 := (World.ownsRow.lt (h.fam.own b hb2) g e2).2
      omega
    · exact h.off a ha b hb2 g e e2
end
/-- A box of the call's own in which no row lies. -/
structure Bx (w : World) (B : Nat) (R : List Row) (b : Nat) (us : List Value) : Prop where
  cs : ∀ i u, us[i]? = some u → w.cell? ⟨b, i, none⟩ = some u
  fz : ∀ i, i < us.length → w.frozen? ⟨b, i, none⟩ = false
  off : ∀ r ∈ R, r.v.ownBlock ≠ some b
  ge : B ≤ b
  lt : b < w.heap.size
section
variable {w w' : World} {B b : Nat} {R R' : List Row} {r r' : Row} {us : List Value}
theorem Bx.call (h : Bx w B R b us) (hb : Below w.heap.size w w') : Bx w' B R b us :=
  ⟨fun i u hu => bel_cell hb (h.cs i u hu), fun i hi => below_frz hb rfl h.lt (h.fz i hi), h.off, h.ge, Nat.lt_of_lt_of_le h.lt hb.size⟩
theorem Bx.rows (h : Bx w B R b us) (hs : ∀ r ∈ R', r ∈ R) : Bx w B R' b us := ⟨h.cs, h.fz, fun r hr => h.off r (hs r hr), h.ge, h.lt⟩
theorem Bx.upd (h : Bx w B (r :: R) b us) (hg : w.grownBy w' r.v.ownBlock) (hat : r'.v.ownBlock = r.v.ownBlock ∨ r'.v.ownBlock = some w.heap.size) : Bx w' B (r' :: R) b us := by
  have hn := h.off r (by simp)
  refine ⟨fun i u hu => cell_grown hg (h.cs i u hu) hn, fun i hi => frz_grown hg h.lt (h.fz i hi) hn, fun x hx => ?_, h.ge, Nat.lt_of_lt_of_le h.lt hg.size⟩
  rcases List.mem_cons.1 hx with rfl | hx
  · rcases hat with e | e
    · rw [e]; exact hn
    · rw [e]; intro e2; injection e2 with e2; have := h.lt; omega
  · exact h.off x (by simp [hx])
theorem Bx.join {R2 : List Row} (h : Bx w B R b us) (hb : Below w.heap.size w w') (h2 : ∀ r ∈ R2, Row.own w' w.heap.size r) : Bx w' B (R2 ++ R) b us := by
  have hc := h.call hb
  refine ⟨hc.cs, hc.fz, fun x hx e => ?_, h.ge, hc.lt⟩
  rcases List.mem_append.1 hx with hx | hx
  · have := (World.ownsRow.lt (h2 x hx) b e).1
    have := h.lt
    omega
  · exact h.off x hx e
theorem Bx.make (us : List Value) (t : TypeId) (hR : ∀ r ∈ R, Row.own w B r) (hB : B ≤ w.heap.size) : Bx (w.alloc (.cells us.toArray t)) B R w.heap.size us := by
  refine ⟨fun i u hu => ?_, fun i _ => new_frz _ _ _ _, fun r hr e => ?_, hB, by simp⟩
  · have := news_cells w us t i u hu
    rwa [Addr.add_lit, Nat.zero_add] at this
  · have := (World.ownsRow.lt (hR r hr) _ e).2
    omega
end
def frow (y : TM) : Row := nrow y.md (setB y.x.fm 5)
theorem frow_add (j t : Nat) (y : TM) : frow (y.add j t) = frow y := rfl
end Go.Proofs.Ytbcjligkjoimmaa
namespace Go.Proofs.Ytbcjligkjoimmaa
set_option linter.unusedSimpArgs false
set_option linter.unusedVariables false
set_option linter.unnecessarySimpa false
set_option maxRecDepth 200000
open Go.ChangeShapes Go.WideShapes Go.ChangeAt Go.RowKit

theorem info_l14Task : (Try.prog.info? 83).map (fun i => (i.zero, i.size, i.bytes)) = some (some (.agg #[.slice none 0 0, .slice none 0 0, .int .i64 0]), 3, 56) := by kernel_rfl
theorem setB_full : ∀ n : Nat, n ≤ 5 → setB (2 ^ n - 1) 5 = List.range n := by decide +kernel
def srows (vO vS : Value) (T : List TM) (O : List E3) : List Row := T.map vrow ++ [orow vO O, trow 83 vS T]
/-- The reference's state between rounds. -/
structure SMem (n : Nat) (masks : List Nat) (B f bR bC : Nat) (w0 w : World) (vO vS : Value) (T : List TM) (O : List E3) : Prop where
  fam : Fam2 w B (srows vO vS T O) (T.map frow)
  bxR : Bx w B (srows vO vS T O) bR [.int .i64 0, .slice none 0 0]
  bxC : Bx w B (srows vO vS T O) bC [.int .i64 (n : Int), vO]
  offF : ∀ a ∈ T.map frow, a.v.ownBlock ≠ some bC
  inv : GInv n f (T.map TM.x).reverse O
  run : gLoop n f (T.map TM.x).reverse O = gAll n masks
  bel : Below B w0 w
  BW : B ≤ w.heap.size
theorem one_fam {w : World} {B : Nat} {r : Row} (h : Row.own w B r) : Fam w B [r] := ⟨fun x hx => by simp only [List.mem_singleton] at hx; subst hx; exact h, List.pairwise_singleton _ _⟩
theorem stack_one {w : World} (y : TM) : Row.own (w.alloc (.cells #[y.vv, y.md, .int .i64 y.x.tg] 83)) w.heap.size (trow 83 (.slice (some ⟨w.heap.size, 0, none⟩) 1 1) [y]) := by
  refine ⟨rfl, .inr ⟨w.heap.size, 1, #[y.vv, y.md, .int .i64 y.x.tg], rfl, Nat.le_refl _, ?_, Nat.le_refl _, by unfold maxLen; omega, rfl, rfl⟩⟩
  show (w.heap.push _)[w.heap.size]? = _
  simp
  rfl
theorem SMem.start {n B bR bC : Nat} {masks : List Nat} {w0 wr w2 : World} {v2 v6 : Value} (n5 : n ≤ 5) (hs : Sm masks) (hB : B ≤ wr.heap.size) (h6 : Row.own wr B (nrow v6 (List.range n)))
    (bR1 : Bx wr B [] bR [.int .i64 0, .slice none 0 0]) (bC1 : Bx wr B [] bC [.int .i64 (n : Int), .slice none 0 0]) (h2 : Row.own w2 wr.heap.size (nrow v2 masks)) (hb2 : Below wr.heap.size wr w2) (hb : Below B w0 wr) (h6b : v6.ownBlock ≠ some bC) :
    SMem n masks B 63 bR bC w0 (w2.alloc (.cells #[v2, v6, .int .i64 (-1)] 83)) (.slice none 0 0) (.slice (some ⟨w2.heap.size, 0, none⟩) 1 1) [⟨⟨masks, 2 ^ n - 1, -1⟩, v2, v6⟩] [] := by
  have hal : Below w2.heap.size w2 (w2.alloc (.cells #[v2, v6, .int .i64 (-1)] 83)) := Below.alloc (Below.refl _ _) (Nat.le_refl _) _
  have hsz := hb2.size
  have hST := stack_one (w := w2) ⟨⟨masks, 2 ^ n - 1, -1⟩, v2, v6⟩
  have f0 : Fam2 wr B [] [nrow v6 (List.range n)] := ⟨⟨fun r hr => (by cases hr), List.Pairwise.nil⟩, fun r hr => (by simp only [List.mem_singleton] at hr; subst hr; exact h6), fun a _ b hb => (by cases hb)⟩
  have f1 := f0.join hb2 (one_fam h2) hB
  have hO : Row.own (w2.alloc (.cells #[v2, v6, .int .i64 (-1)] 83)) w2.heap.size (orow (.slice none 0 0) []) := World.ownsRow_nil _ _ _ _
  have own2 : ∀ r ∈ [orow (.slice none 0 0) [], trow 83 (.slice (some ⟨w2.heap.size, 0, none⟩) 1 1) [(⟨⟨masks, 2 ^ n - 1, -1⟩, v2, v6⟩ : TM)]], Row.own (w2.alloc (.cells #[v2, v6, .int .i64 (-1)] 83)) w2.heap.size r := fun r hr => by
    simp only [List.mem_cons, List.not_mem_nil, or_false] at hr
    rcases hr with rfl | rfl
    · exact hO
    · exact hST
  have f2 := f1.join hal (⟨own2, List.pairwise_cons.2 ⟨fun a _ g e => by simp [orow, Value.ownBlock] at e, List.pairwise_singleton _ _⟩⟩ : Fam _ _ _) (Nat.le_trans hB hsz)
  have own1 : ∀ r ∈ [nrow v2 masks], Row.own w2 wr.heap.size r := fun r hr => by simp only [List.mem_singleton] at hr; subst hr; exact h2
  have bR2 := (bR1.join hb2 own1).join hal own2
  have bC2 := (bC1.join hb2 own1).join hal own2
  have hp : ([orow (.slice none 0 0) [], trow 83 (.slice (some ⟨w2.heap.size, 0, none⟩) 1 1) [(⟨⟨masks, 2 ^ n - 1, -1⟩, v2, v6⟩ : TM)]] ++ ([nrow v2 masks] ++ [])).Perm (srows (.slice none 0 0) (.slice (some ⟨w2.heap.size, 0, none⟩) 1 1) [⟨⟨masks, 2 ^ n - 1, -1⟩, v2, v6⟩] []) := List.perm_append_comm
  refine ⟨(f2.perm hp).lists (fun a ha => ?_), bR2.rows (fun r hr => hp.mem_iff.2 hr), bC2.rows (fun r hr => hp.mem_iff.2 hr), fun a ha => (by simp only [List.map_cons, List.map_nil, List.mem_singleton] at ha; rw [ha]; exact h6b), gInv_start n5 hs, rfl, Below.trans hb (Below.trans (hb2.mono hB) (hal.mono (Nat.le_trans hB hsz))), Nat.le_trans hB (Nat.le_trans hsz hal.size)⟩
  simp only [List.map_cons, List.map_nil, List.mem_singleton] at ha ⊢
  rw [ha]
  unfold frow
  dsimp only
  rw [setB_full n n5]
/-- The reference's state within a round: the task y lies in the box bx, the stack is already cut. -/
structure SIw (n B bR bC bx : Nat) (w0 w : World) (vO vS : Value) (T : List TM) (y : TM) (O : List E3) : Prop where
  fam : Fam2 w B (vrow y :: srows vO vS T O) (frow y :: T.map frow)
  bxR : Bx w B (vrow y :: srows vO vS T O) bR [.int .i64 0, .slice none 0 0]
  bxC : Bx w B (vrow y :: srows vO vS T O) bC [.int .i64 (n : Int), vO]
  bxT : Bx w B (vrow y :: srows vO vS T O) bx [y.vv, y.md, .int .i64 y.x.tg]
  offF : ∀ a ∈ frow y :: T.map frow, a.v.ownBlock ≠ some bC
  neT : bC ≠ bx
  neR : bC ≠ bR
  bel : Below B w0 w
  BW : B ≤ w.heap.size
section
variable {n B bR bC bx : Nat} {w0 w w' : World} {vO vS : Value} {T : List TM} {y : TM} {O : List E3}
theorem SIw.call (h : SIw n B bR bC bx w0 w vO vS T y O) (hb : Below w.heap.size w w') : SIw n B bR bC bx w0 w' vO vS T y O :=
  ⟨h.fam.call hb, h.bxR.call hb, h.bxC.call hb, h.bxT.call hb, h.offF, h.neT, h.neR, Below.trans h.bel (hb.mono h.BW), Nat.le_trans h.BW hb.size⟩
theorem srows_cut {g c : Nat} {F : List Row} (h : Fam2 w B (srows vO (.slice (some ⟨g, 0, none⟩) (T.length + 1) c) (T ++ [y]) O) F) :
    Fam2 w B (vrow y :: srows vO (.slice (some ⟨g, 0, none⟩) T.length c) T O) F := by
  have h1 : Fam2 w B (trow 83 (.slice (some ⟨g, 0, none⟩) (T.length + 1) c) (T ++ [y]) :: ((T ++ [y]).map vrow ++ [orow vO O])) F := by
    refine h.perm ?_
    unfold srows
    rw [show ((T ++ [y]).map vrow ++ [orow vO O, trow 83 (.slice (some ⟨g, 0, none⟩) (T.length + 1) c) (T ++ [y])]) = ((T ++ [y]).map vrow ++ [orow vO O]) ++ [trow 83 (.slice (some ⟨g, 0, none⟩) (T.length + 1) c) (T ++ [y])] from by rw [List.append_assoc]; rfl]
    exact List.perm_append_comm
  have ho : w.ownsRow B 83 3 (.slice (some ⟨g, 0, none⟩) (T.length + 1) c) (T.length + 1) ((T ++ [y]).flatMap TM.cs) := by
    have h9 := h1.fam.head
    unfold Row.own trow at h9
    dsimp only at h9
    rw [show (T ++ [y]).length = T.length + 1 from by simp] at h9
    exact h9
  have hc := own_cut ho (m := T.length) (by omega)
  rw [stack_take] at hc
  have h2 := h1.upd (r' := trow 83 (.slice (some ⟨g, 0, none⟩) T.length c) T) (grown_refl w _) hc (.inl rfl)
  refine h2.perm ?_
  unfold srows
  rw [List.map_append, List.append_assoc]
  have e : (vrow y :: (T.map vrow ++ [orow vO O, trow 83 (.slice (some ⟨g, 0, none⟩) T.length c) T])) = (vrow y :: (T.map vrow ++ [orow vO O])) ++ [trow 83 (.slice (some ⟨g, 0, none⟩) T.length c) T] := by simp
  rw [e]
  refine (List.Perm.trans ?_ List.perm_append_comm)
  exact List.Perm.cons _ List.perm_middle
theorem Bx.cut {g c b : Nat} {us : List Value} (h : Bx w B (srows vO (.slice (some ⟨g, 0, none⟩) (T.length + 1) c) (T ++ [y]) O) b us) :
    Bx w B (vrow y :: srows vO (.slice (some ⟨g, 0, none⟩) T.length c) T O) b us := by
  refine ⟨h.cs, h.fz, fun r hr => ?_, h.ge, h.lt⟩
  have hy : ∀ z ∈ T ++ [y], (vrow z).v.ownBlock ≠ some b := fun z hz => h.off (vrow z) (List.mem_append_left _ (List.mem_map_of_mem hz))
  rcases List.mem_cons.1 hr with rfl | hr
  · exact hy y (by simp)
  · rcases List.mem_append.1 hr with hr | hr
    · obtain ⟨z, hz, rfl⟩ := List.mem_map.1 hr
      exact hy z (List.mem_append_left _ hz)
    · simp only [List.mem_cons, List.not_mem_nil, or_false] at hr
      rcases hr with rfl | rfl
      · exact h.off (orow vO O) (List.mem_append_right _ (by simp))
      · exact h.off (trow 83 (.slice (some ⟨g, 0, none⟩) (T.length + 1) c) (T ++ [y])) (List.mem_append_right _ (by simp))
theorem SIw.start {f g c : Nat} {masks : List Nat} (hR : bC ≠ bR) (h : SMem n masks B f bR bC w0 w vO (.slice (some ⟨g, 0, none⟩) (T.length + 1) c) (T ++ [y]) O) :
    SIw n B bR bC w.heap.size w0 (w.alloc (.cells #[y.vv, y.md, .int .i64 y.x.tg] 83)) vO (.slice (some ⟨g, 0, none⟩) T.length c) T y O := by
  have hal : Below w.heap.size w (w.alloc (.cells #[y.vv, y.md, .int .i64 y.x.tg] 83)) := Below.alloc (Below.refl _ _) (Nat.le_refl _) _
  have hf := srows_cut h.fam
  refine ⟨(hf.lists (fun a ha => ?_)).call hal, h.bxR.cut.call hal, h.bxC.cut.call hal, Bx.make [y.vv, y.md, .int .i64 y.x.tg] 83 (fun r hr => hf.fam.own r hr) h.BW, fun a ha => h.offF a ?_, fun e => (by have := h.bxC.lt; omega), hR, Below.trans h.bel (hal.mono h.BW), Nat.le_trans h.BW hal.size⟩
  all_goals
    rcases List.mem_cons.1 ha with rfl | ha
    · exact List.mem_map_of_mem (by simp)
    · rw [List.map_append]; exact List.mem_append_left _ ha
theorem grown_box (w : World) (b o : Nat) (u : Value) : w.grownBy (w.setCell ⟨b, o, none⟩ u) (some b) := by
  have q : Below 0 w (w.setCell ⟨b, o, none⟩ u) := Below.setCell (p := ⟨b, o, none⟩) (Below.refl 0 w) (Nat.zero_le _) u
  exact ⟨q.os, q.tape, q.output, q.size, fun k hk hne => Below.heap_setCell _ _ _ k (fun e => hne (by rw [e]))⟩
theorem row_box {r : Row} {b o : Nat} {u : Value} (h : Row.own w B r) (hn : r.v.ownBlock ≠ some b) : Row.own (w.setCell ⟨b, o, none⟩ u) B r := by
  have hg' : w.grownBy (w.setCell ⟨b, o, none⟩ u) (Value.slice (some ⟨b, 0, none⟩) 0 0).ownBlock := grown_box w b o u
  refine own_other hg' h (fun g e1 e2 => hn (e1.trans ?_))
  rw [← e2]; rfl
theorem Fam2.box {R F : List Row} {b : Nat} (h : Fam2 w B R F) (hg : w.grownBy w' (some b)) (h1 : ∀ r ∈ R, r.v.ownBlock ≠ some b) (h2 : ∀ r ∈ F, r.v.ownBlock ≠ some b) : Fam2 w' B R F := by
  have hg' : w.grownBy w' (Value.slice (some ⟨b, 0, none⟩) 0 0).ownBlock := hg
  refine ⟨⟨fun r hr => own_other hg' (h.fam.own r hr) (fun g e1 e2 => h1 r hr (e1.trans ?_)), h.fam.ap⟩, fun r hr => own_other hg' (h.own r hr) (fun g e1 e2 => h2 r hr (e1.trans ?_)), h.off⟩
  all_goals
    rw [← e2]; rfl
theorem Bx.other {R : List Row} {b b2 : Nat} {us : List Value} (h : Bx w B R b us) (hg : w.grownBy w' (some b2)) (hne : b2 ≠ b) : Bx w' B R b us := by
  have hg' : w.grownBy w' (Value.slice (some ⟨b2, 0, none⟩) 0 0).ownBlock := hg
  have hn : (Value.slice (some ⟨b2, 0, none⟩) 0 0).ownBlock ≠ some b := fun e => hne (by injection e)
  exact ⟨fun i u hu => cell_grown hg' (h.cs i u hu) hn, fun i hi => frz_grown hg' h.lt (h.fz i hi) hn, h.off, h.ge, Nat.lt_of_lt_of_le h.lt hg.size⟩
end
section
variable {n B bR bC bx : Nat} {w0 w w' : World} {vO vS : Value} {T : List TM} {y : TM} {O : List E3}
theorem srows_out (vO vS : Value) (T : List TM) (y : TM) (O : List E3) : (vrow y :: srows vO vS T O).Perm (orow vO O :: (vrow y :: (T.map vrow ++ [trow 83 vS T]))) := by
  unfold srows
  exact (List.Perm.cons _ List.perm_middle).trans (List.Perm.swap _ _ _)
/-- A gate is appended and the box of the circuit holds the new slice. -/
theorem SIw.app {g : E3} {v3 : Value} (h : SIw n B bR bC bx w0 w vO vS T y O) (hg : w.grownBy w' vO.ownBlock) (ho : w'.ownsRow B 58 3 v3 (O.length + 1) (O.flatMap E3.cs ++ g.cs)) (hat : v3.ownBlock = vO.ownBlock ∨ v3.ownBlock = some w.heap.size) :
    SIw n B bR bC bx w0 (w'.setCell ⟨bC, 1, none⟩ v3) v3 vS T y (O ++ [g]) := by
  have hp := srows_out vO vS T y O
  have hq := srows_out v3 vS T y (O ++ [g])
  have ho' : Row.own w' B (orow v3 (O ++ [g])) := by
    show w'.ownsRow B 58 3 v3 (O ++ [g]).length ((O ++ [g]).flatMap E3.cs)
    rw [show (O ++ [g]).length = O.length + 1 from by simp, List.flatMap_append]
    simpa using ho
  have hbO := grown_below h.bel (show w.ownsRow B 58 3 vO O.length _ from (h.fam.perm hp).fam.head) hg (Nat.le_refl _) h.BW
  have f1 := ((h.fam.perm hp).upd hg ho' hat).perm hq.symm
  have up : ∀ {b : Nat} {us : List Value}, Bx w B (vrow y :: srows vO vS T O) b us → Bx w' B (vrow y :: srows v3 vS T (O ++ [g])) b us := fun hb => ((hb.rows (fun r hr => hp.mem_iff.2 hr)).upd hg hat).rows (fun r hr => hq.mem_iff.1 hr)
  have b1 := up h.bxC
  have gb := grown_box w' bC 1 v3
  refine ⟨f1.box gb b1.off h.offF, (up h.bxR).other gb h.neR, ⟨fun i u hu => ?_, fun i hi => ?_, b1.off, b1.ge, Nat.lt_of_lt_of_le b1.lt gb.size⟩, (up h.bxT).other gb h.neT, h.offF, h.neT, h.neR, ?_, Nat.le_trans h.BW (Nat.le_trans hg.size gb.size)⟩
  · have c0 := b1.cs 0 _ rfl
    have c1 := b1.cs 1 _ rfl
    match i with
    | 0 => injection hu with hu; subst hu; exact cell_set_other c0
    | 1 => injection hu with hu; subst hu; exact World.cell?_setCell_same _ _ _ c1
    | i + 2 => simp at hu
  · rw [World.frozen?_setCell]; exact b1.fz i hi
  · exact Below.grown hbO gb (Nat.le_trans h.BW hg.size) (fun k hk => (by injection hk with hk; rw [← hk]; exact h.bxC.ge))
/-- The task's own vectors are added to. -/
theorem SIw.addY {j t : Nat} (h : SIw n B bR bC bx w0 w vO vS T y O) (ho : Row.own w' B (nrow y.vv (addL j t y.x.vs))) (hg : w.grownBy w' y.vv.ownBlock) : SIw n B bR bC bx w0 w' vO vS T (y.add j t) O := by
  have up : ∀ {b : Nat} {us : List Value}, Bx w B (vrow y :: srows vO vS T O) b us → Bx w' B (vrow (y.add j t) :: srows vO vS T O) b us := fun hb => hb.upd hg (.inl rfl)
  exact ⟨h.fam.upd (r' := vrow (y.add j t)) hg ho (.inl rfl), up h.bxR, up h.bxC, up h.bxT, h.offF, h.neT, h.neR, grown_below h.bel (show w.ownsRow B 3 1 y.vv _ _ from h.fam.fam.head) hg (Nat.le_refl _) h.BW, Nat.le_trans h.BW hg.size⟩
theorem SIw.mem {masks : List Nat} {f : Nat} (h : SIw n B bR bC bx w0 w vO vS T y O) (hi : GInv n f (T.map TM.x).reverse O) (hr : gLoop n f (T.map TM.x).reverse O = gAll n masks) : SMem n masks B f bR bC w0 w vO vS T O :=
  ⟨h.fam.tail.lists (fun a ha => List.mem_cons_of_mem _ ha), h.bxR.rows (fun r hr => List.mem_cons_of_mem _ hr), h.bxC.rows (fun r hr => List.mem_cons_of_mem _ hr), fun a ha => h.offF a (List.mem_cons_of_mem _ ha), hi, hr, h.bel, h.BW⟩
theorem inAll_set (vs : List Nat) (j : Nat) : inAllB vs j = decide ((gSet vs j false).length = 0) := by
  unfold inAllB gSet
  induction vs with
  | nil => rfl
  | cons v r ih =>
    rw [List.all_cons, List.filter_cons]
    cases h : v.testBit j
    · simp
    · simp [ih]
theorem inv_cut {j t i : Nat} {T : List TM} (hi : i < T.length) : invTo j t T i = (T.take i).map (TM.add j t) ++ T[i] :: T.drop (i + 1) := by
  unfold invTo; rw [List.drop_eq_getElem_cons hi]
theorem inv_next {j t i : Nat} {T : List TM} (hi : i < T.length) : invTo j t T (i + 1) = (T.take i).map (TM.add j t) ++ (T[i].add j t) :: T.drop (i + 1) := by
  unfold invTo
  rw [List.take_succ_eq_append_getElem hi, List.map_append, List.append_assoc]; rfl
theorem trow_mid (k : TypeId) (v : Value) (A C : List TM) (z : TM) (j t : Nat) : trow k v (A ++ z.add j t :: C) = trow k v (A ++ z :: C) := by
  unfold trow
  simp only [List.length_append, List.length_cons, List.flatMap_append, List.flatMap_cons]
  rfl
theorem srows_mid (vO vS : Value) (A C : List TM) (z y : TM) (O : List E3) : (vrow y :: srows vO vS (A ++ z :: C) O).Perm (vrow z :: (vrow y :: (A.map vrow ++ (C.map vrow ++ [orow vO O, trow 83 vS (A ++ z :: C)])))) := by
  unfold srows
  rw [List.map_append, List.map_cons, List.append_assoc, List.cons_append]
  exact (List.Perm.cons _ List.perm_middle).trans (List.Perm.swap _ _ _)
/-- The vectors of a task on the stack are added to. -/
theorem SIw.mid {j t : Nat} {A C : List TM} {z : TM} (h : SIw n B bR bC bx w0 w vO vS (A ++ z :: C) y O) (ho : Row.own w' B (nrow z.vv (addL j t z.x.vs))) (hg : w.grownBy w' z.vv.ownBlock) : SIw n B bR bC bx w0 w' vO vS (A ++ z.add j t :: C) y O := by
  have hp := srows_mid vO vS A C z y O
  have hq := srows_mid vO vS A C (z.add j t) y O
  rw [trow_mid] at hq
  have up : ∀ {b : Nat} {us : List Value}, Bx w B (vrow y :: srows vO vS (A ++ z :: C) O) b us → Bx w' B (vrow y :: srows vO vS (A ++ z.add j t :: C) O) b us := fun hb => ((hb.rows (fun r hr => hp.mem_iff.2 hr)).upd (r' := vrow (z.add j t)) hg (.inl rfl)).rows (fun r hr => hq.mem_iff.1 hr)
  have eF : (A ++ z.add j t :: C).map frow = (A ++ z :: C).map frow := by simp [frow_add]
  have f1 := ((h.fam.perm hp).upd (r' := vrow (z.add j t)) hg ho (.inl rfl)).perm hq.symm
  refine ⟨by rw [eF]; exact f1, up h.bxR, up h.bxC, up h.bxT, by rw [eF]; exact h.offF, h.neT, h.neR, grown_below h.bel (show w.ownsRow B 3 1 z.vv _ _ from (h.fam.perm hp).fam.head) hg (Nat.le_refl _) h.BW, Nat.le_trans h.BW hg.size⟩
theorem SIw.addAt {j t i : Nat} (hi : i < T.length) (h : SIw n B bR bC bx w0 w vO vS (invTo j t T i) y O) (ho : Row.own w' B (nrow T[i].vv (addL j t T[i].x.vs))) (hg : w.grownBy w' T[i].vv.ownBlock) : SIw n B bR bC bx w0 w' vO vS (invTo j t T (i + 1)) y O := by
  rw [inv_cut hi] at h
  rw [inv_next hi]
  exact h.mid ho hg
end
end Go.Proofs.Ytbcjligkjoimmaa
namespace Go.Proofs.Ytbcjligkjoimmaa
set_option linter.unusedSimpArgs false
set_option linter.unusedVariables false
set_option linter.unnecessarySimpa false
set_option maxRecDepth 200000
open Go.ChangeShapes Go.WideShapes Go.ChangeAt Go.RowKit

/-- The greater of two numbers. -/
theorem spec_l1Most_any (a b : Nat) (w : World) :
    Calls Try.prog 48 #[.int .i64 (a : Int), .int .i64 (b : Int)] w fun e w' => e = .returned (.int .i64 ((max a b : Nat) : Int)) ∧ w' = w := by
  go_enter Try.func48, Try.ntmps48
  by_cases h : b < a
  · have i1 : (b : Int) < (a : Int) := by omega
    have i2 : max a b = a := by omega
    go_wp2_with fail
    go_ret
    exact ⟨by (try rw [i2]); rfl, rfl⟩
  · have i1 : ¬ (b : Int) < (a : Int) := by omega
    have i2 : max a b = b := by omega
    go_wp2_with fail
    go_ret
    exact ⟨by (try rw [i2]); rfl, rfl⟩
theorem invTo_get {j t i : Nat} {T : List TM} (hi : i < T.length) : ∃ h : i < (invTo j t T i).length, (invTo j t T i)[i] = T[i] := by
  have hl : ((T.take i).map (TM.add j t)).length = i := by simp; omega
  have h1 : i < (invTo j t T i).length := by rw [inv_cut hi, List.length_append, hl, List.length_cons]; omega
  refine ⟨h1, ?_⟩
  have e := inv_cut (j := j) (t := t) hi
  have h2 : (invTo j t T i)[i]? = some T[i] := by
    rw [e, List.getElem?_append_right (by omega), hl, Nat.sub_self]; rfl
  rw [List.getElem?_eq_getElem h1] at h2
  injection h2
section
variable {n B bR bC bx : Nat} {w0 w w' : World} {vO vS : Value} {T : List TM} {y : TM} {O : List E3}
theorem SIw.at4 {j t i nS g c : Nat} (hi : i < T.length) (h : SIw n B bR bC bx w0 w vO (.slice (some ⟨g, 0, none⟩) nS c) (invTo j t T i) y O) :
    w.cell? ⟨g, i * 3, none⟩ = some (T[i]).vv ∧ w.cell? ⟨g, i * 3 + 1, none⟩ = some (T[i]).md ∧ w.cell? ⟨g, i * 3 + 2, none⟩ = some (.int .i64 (T[i]).x.tg) ∧
    Row.own w B (nrow (T[i]).vv (T[i]).x.vs) ∧ Row.own w B (frow T[i]) := by
  obtain ⟨h1, e⟩ := invTo_get (j := j) (t := t) hi
  obtain ⟨g', e1, _, c0, c1, c2⟩ := trow_cells (show Row.own w B (trow 83 (.slice (some ⟨g, 0, none⟩) nS c) (invTo j t T i)) from h.fam.fam.own _ (by simp [srows])) h1
  injection e1 with e1; injection e1 with e1
  subst e1
  rw [e] at c0 c1 c2
  have hm : T[i] ∈ invTo j t T i := by rw [← e]; exact List.getElem_mem h1
  exact ⟨c0, c1, c2, h.fam.fam.own (vrow T[i]) (List.mem_cons_of_mem _ (List.mem_append_left _ (List.mem_map_of_mem hm))), h.fam.own (frow T[i]) (List.mem_cons_of_mem _ (List.mem_map_of_mem hm))⟩
theorem SIw.stop {f : Nat} {masks v2 : List Nat} {x : GT} {r : List GT} {out : List E3} (hn : n ≤ 5) (hi : GInv n (f + 1) (x :: r) out) (hr : gLoop n (f + 1) (x :: r) out = gAll n masks) (hx : ¬ x.vs = [])
    (hI : gIns n x r out = ⟨v2, (T.map TM.x).reverse, O⟩) (hb : gBest v2 x.fm < 0) (h : SIw n B bR bC bx w0 w vO vS T y O) : SMem n masks B f bR bC w0 w vO vS T O := by
  have h1 := gInv_stop hn hi
  have h2 := gLoop_stop (n := n) (f := f) (r := r) (out := out) hx (by rw [hI]; exact hb)
  rw [hI] at h1 h2
  exact h.mem h1 (h2.symm.trans hr)
def tkS (vs : List Nat) (fm : Nat) (tg : Int) (u d : Value) : TM := ⟨⟨vs, fm, tg⟩, u, d⟩
/-- The split: the rest of the free qubits in a list of its own, two tasks laid on the stack. -/
theorem SIw.push {W W1 W2 W3 : World} {v3 d u1 u2 : Value} {L1 L2 : List Nat} {fm : Nat} {t1 t2 : Int} (h : SIw n B bR bC bx w0 W vO vS T y O)
    (hb1 : Below W.heap.size W W1) (hd : Row.own W1 W.heap.size (nrow d (setB fm 5)))
    (hb2 : Below W1.heap.size W1 W2) (hF : Fam W2 W1.heap.size [nrow u2 L2, nrow u1 L1]) (hb3 : Below W2.heap.size W2 W3)
    (hg : W3.grownBy w' vS.ownBlock) (ho : w'.ownsRow B 83 3 v3 (T.length + 2) (T.flatMap TM.cs ++ ((tkS L1 fm t1 u1 d).cs ++ (tkS L2 fm t2 u2 d).cs))) (hat : v3.ownBlock = vS.ownBlock ∨ v3.ownBlock = some W3.heap.size) :
    Fam2 w' B (srows vO v3 (T ++ [tkS L1 fm t1 u1 d, tkS L2 fm t2 u2 d]) O) ((T ++ [tkS L1 fm t1 u1 d, tkS L2 fm t2 u2 d]).map frow) ∧
    Bx w' B (srows vO v3 (T ++ [tkS L1 fm t1 u1 d, tkS L2 fm t2 u2 d]) O) bR [.int .i64 0, .slice none 0 0] ∧
    Bx w' B (srows vO v3 (T ++ [tkS L1 fm t1 u1 d, tkS L2 fm t2 u2 d]) O) bC [.int .i64 (n : Int), vO] ∧
    (∀ a ∈ (T ++ [tkS L1 fm t1 u1 d, tkS L2 fm t2 u2 d]).map frow, a.v.ownBlock ≠ some bC) ∧ Below B w0 w' ∧ B ≤ w'.heap.size := by
  have hB1 : B ≤ W1.heap.size := Nat.le_trans h.BW hb1.size
  have hB2 : B ≤ W2.heap.size := Nat.le_trans hB1 hb2.size
  have hB3 : B ≤ W3.heap.size := Nat.le_trans hB2 hb3.size
  have f1 := h.fam.list hb1 hd h.BW
  have f2 := (f1.join hb2 hF hB1).call hb3
  have hsub : List.Sublist ([nrow u2 L2, nrow u1 L1] ++ srows vO vS T O) ([nrow u2 L2, nrow u1 L1] ++ (vrow y :: srows vO vS T O)) := List.Sublist.append (List.Sublist.refl _) (List.sublist_cons_self _ _)
  have f3 := f2.sub hsub
  have hp : ([nrow u2 L2, nrow u1 L1] ++ srows vO vS T O).Perm (trow 83 vS T :: ([nrow u2 L2, nrow u1 L1] ++ (T.map vrow ++ [orow vO O]))) := by
    unfold srows
    rw [show ([nrow u2 L2, nrow u1 L1] ++ (T.map vrow ++ [orow vO O, trow 83 vS T])) = ([nrow u2 L2, nrow u1 L1] ++ (T.map vrow ++ [orow vO O])) ++ [trow 83 vS T] from by simp]
    exact List.perm_append_comm
  have hq : (trow 83 v3 (T ++ [tkS L1 fm t1 u1 d, tkS L2 fm t2 u2 d]) :: ([nrow u2 L2, nrow u1 L1] ++ (T.map vrow ++ [orow vO O]))).Perm (srows vO v3 (T ++ [tkS L1 fm t1 u1 d, tkS L2 fm t2 u2 d]) O) := by
    unfold srows
    rw [show ((T ++ [tkS L1 fm t1 u1 d, tkS L2 fm t2 u2 d]).map vrow ++ [orow vO O, trow 83 v3 (T ++ [tkS L1 fm t1 u1 d, tkS L2 fm t2 u2 d])]) = (T.map vrow ++ ([nrow u1 L1, nrow u2 L2] ++ [orow vO O])) ++ [trow 83 v3 (T ++ [tkS L1 fm t1 u1 d, tkS L2 fm t2 u2 d])] from by simp [vrow, tkS]]
    refine List.Perm.trans ?_ List.perm_append_comm
    refine List.Perm.cons _ ?_
    refine ((List.Perm.swap (nrow u1 L1) (nrow u2 L2) []).append_right (T.map vrow ++ [orow vO O])).trans ?_
    have := (List.perm_append_comm (l₁ := [nrow u1 L1, nrow u2 L2]) (l₂ := T.map vrow)).append_right [orow vO O]
    simpa using this
  have ho' : Row.own w' B (trow 83 v3 (T ++ [tkS L1 fm t1 u1 d, tkS L2 fm t2 u2 d])) := by
    show w'.ownsRow B 83 3 v3 (T ++ [tkS L1 fm t1 u1 d, tkS L2 fm t2 u2 d]).length ((T ++ [tkS L1 fm t1 u1 d, tkS L2 fm t2 u2 d]).flatMap TM.cs)
    rw [show (T ++ [tkS L1 fm t1 u1 d, tkS L2 fm t2 u2 d]).length = T.length + 2 from by simp, List.flatMap_append]
    simpa using ho
  have f4 := ((f3.perm hp).upd (r' := trow 83 v3 (T ++ [tkS L1 fm t1 u1 d, tkS L2 fm t2 u2 d])) hg ho' hat).perm hq
  have up : ∀ {b : Nat} {us : List Value}, Bx W B (vrow y :: srows vO vS T O) b us → Bx w' B (srows vO v3 (T ++ [tkS L1 fm t1 u1 d, tkS L2 fm t2 u2 d]) O) b us := fun hb => by
    have g1 := ((hb.call hb1).join hb2 hF.own).call hb3
    have g2 := (g1.rows (fun r hr => hsub.subset hr)).rows (fun r hr => hp.mem_iff.2 hr)
    exact (g2.upd (r' := trow 83 v3 (T ++ [tkS L1 fm t1 u1 d, tkS L2 fm t2 u2 d])) hg hat).rows (fun r hr => hq.mem_iff.2 hr)
  have hS : Row.own W3 B (trow 83 vS T) := (f3.perm hp).fam.head
  refine ⟨f4.lists (fun a ha => ?_), up h.bxR, up h.bxC, fun a ha => ?_, grown_below (Below.trans h.bel (Below.trans (hb1.mono h.BW) (Below.trans (hb2.mono hB1) (hb3.mono hB2)))) (show W3.ownsRow B 83 3 vS T.length _ from hS) hg (Nat.le_refl _) hB3, Nat.le_trans hB3 hg.size⟩
  · rw [List.map_append] at ha
    rcases List.mem_append.1 ha with ha | ha
    · exact List.mem_cons_of_mem _ (List.mem_cons_of_mem _ ha)
    · simp only [List.map_cons, List.map_nil, List.mem_cons, List.not_mem_nil, or_false] at ha
      rcases ha with rfl | rfl <;> exact List.mem_cons_self
  · rw [List.map_append] at ha
    rcases List.mem_append.1 ha with ha | ha
    · exact h.offF a (List.mem_cons_of_mem _ ha)
    · have e : a.v = d := by
        simp only [List.map_cons, List.map_nil, List.mem_cons, List.not_mem_nil, or_false] at ha
        rcases ha with rfl | rfl <;> rfl
      rw [e]
      intro e2
      have h3 := (World.ownsRow.lt hd _ e2).1
      have := h.bxC.lt
      omega
theorem SIw.split {f j : Nat} {W W1 W2 W3 : World} {masks v2 : List Nat} {x : GT} {r : List GT} {out : List E3} {v3 d u1 u2 : Value} {tg : Int} (hn : n ≤ 5)
    (hi : GInv n (f + 1) (x :: r) out) (hr : gLoop n (f + 1) (x :: r) out = gAll n masks) (hx : ¬ x.vs = []) (hI : gIns n x r out = ⟨v2, (T.map TM.x).reverse, O⟩) (hj : j ∈ setB x.fm 5) (hjn : j < n) (hb : gBest v2 x.fm = (j : Int)) (htg : tg = if x.tg < 0 then (j : Int) else x.tg)
    (h : SIw n B bR bC bx w0 W vO vS T y O)
    (hb1 : Below W.heap.size W W1) (hd : Row.own W1 W.heap.size (nrow d (setB (clearB x.fm j) 5)))
    (hb2 : Below W1.heap.size W1 W2) (hF : Fam W2 W1.heap.size [nrow u2 (gSet v2 j false), nrow u1 (gSet v2 j true)]) (hb3 : Below W2.heap.size W2 W3)
    (hg : W3.grownBy w' vS.ownBlock) (ho : w'.ownsRow B 83 3 v3 (T.length + 2) (T.flatMap TM.cs ++ ((tkS (gSet v2 j true) (clearB x.fm j) tg u1 d).cs ++ (tkS (gSet v2 j false) (clearB x.fm j) x.tg u2 d).cs))) (hat : v3.ownBlock = vS.ownBlock ∨ v3.ownBlock = some W3.heap.size) :
    SMem n masks B f bR bC w0 w' vO v3 (T ++ [tkS (gSet v2 j true) (clearB x.fm j) tg u1 d, tkS (gSet v2 j false) (clearB x.fm j) x.tg u2 d]) O := by
  have htg1 : -1 ≤ tg ∧ tg < (n : Int) := by
    have := (hi.ok x (by simp)).tg
    rw [htg]; split <;> omega
  have h1 := gInv_split (tg := tg) hn hi hj htg1
  have h2 := gLoop_split (n := n) (f := f) (j := j) (r := r) (out := out) hx (by rw [hI]; exact hb)
  rw [← htg] at h2
  rw [hI] at h1 h2
  have e : ((T ++ [(tkS (gSet v2 j true) (clearB x.fm j) tg u1 d : TM), tkS (gSet v2 j false) (clearB x.fm j) x.tg u2 d]).map TM.x).reverse = ⟨gSet v2 j false, clearB x.fm j, x.tg⟩ :: ⟨gSet v2 j true, clearB x.fm j, tg⟩ :: (T.map TM.x).reverse := by simp [tkS]
  obtain ⟨q1, q2, q3, q4, q5, q6⟩ := h.push hb1 hd hb2 hF hb3 hg ho hat
  exact ⟨q1, q2, q3, q4, by rw [e]; exact h1, by rw [e]; exact h2.symm.trans hr, q5, q6⟩
end
theorem frow_at {w : World} {B n c i : Nat} {a : Option Addr} {L : List Nat} (h : Row.own w B (nrow (.slice a n c) L)) (hi : i < L.length) :
    ∃ g, a = some ⟨g, 0, none⟩ ∧ g < w.heap.size ∧ w.cell? ⟨g, i, none⟩ = some (.int .i64 ((L.getD i 0 : Nat) : Int)) := by
  obtain ⟨g, c', e⟩ := Go.Joins.ownsRow_form h (by show 0 < L.length; omega)
  injection e with e1 e2 e3
  have hl := (World.ownsRow.lt h g (by show Value.ownBlock (.slice a n c) = _; rw [e1]; rfl)).2
  have h9 := World.ownsRow.cells h (g := g) (by show Value.ownBlock (.slice a n c) = _; rw [e1]; rfl) i (.int .i64 ((L.getD i 0 : Nat) : Int)) (by simp [nrow, ints, List.getD, hi])
  rw [Addr.add_lit, Nat.zero_add] at h9
  exact ⟨g, e1, hl, h9⟩
/-- The free qubits without one, counted from the front. -/
def restTo (fm j k : Nat) : List Nat := ((setB fm 5).take k).filter fun i => !decide (i = j)
theorem restTo_zero (fm j : Nat) : restTo fm j 0 = [] := rfl
theorem restTo_yes {fm j k : Nat} (hk : k < (setB fm 5).length) (h : (setB fm 5).getD k 0 ≠ j) : restTo fm j (k + 1) = restTo fm j k ++ [(setB fm 5).getD k 0] := by
  unfold restTo
  have e : (setB fm 5).getD k 0 = (setB fm 5)[k] := by simp [List.getD, hk]
  rw [e] at h ⊢
  rw [List.take_succ_eq_append_getElem hk, List.filter_append]
  simp [h]
theorem restTo_no {fm j k : Nat} (hk : k < (setB fm 5).length) (h : (setB fm 5).getD k 0 = j) : restTo fm j (k + 1) = restTo fm j k := by
  unfold restTo
  have e : (setB fm 5).getD k 0 = (setB fm 5)[k] := by simp [List.getD, hk]
  rw [e] at h
  rw [List.take_succ_eq_append_getElem hk, List.filter_append]
  simp [h]
theorem restTo_len (fm j k : Nat) : (restTo fm j k).length ≤ 5 := by
  unfold restTo
  refine Nat.le_trans (List.length_filter_le _ _) (Nat.le_trans (List.length_take_le' _ _) (setB_len fm 5))
theorem restTo_all {fm j : Nat} (h : fm < 32) (hj : j ∈ setB fm 5) : restTo fm j (setB fm 5).length = setB (clearB fm j) 5 := by
  unfold restTo
  rw [List.take_length]
  exact ((clear_bits fm h j hj).2.1).symm
end Go.Proofs.Ytbcjligkjoimmaa
