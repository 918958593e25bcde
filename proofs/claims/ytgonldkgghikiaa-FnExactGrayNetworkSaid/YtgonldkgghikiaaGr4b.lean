/- More of the state of the program's rounds (gray), plain. -/
import Derived.Test.YtgonldkgghikiaaGr4
import Derived.Test.YtgonldkgghikiaaDelT
namespace Go.Proofs.Ytgonldkgghikiaa
set_option linter.unusedSimpArgs false
set_option linter.unusedVariables false
set_option linter.unnecessarySimpa false
set_option maxRecDepth 200000
open Go.ChangeShapes Go.WideShapes Go.ChangeAt Go.RowKit

theorem wts_len : ∀ st : List GT, st.length ≤ wts st
  | [] => Nat.zero_le _
  | x :: r => by
    have := wt_pos x.fm
    have := wts_len r
    rw [wts_cons, List.length_cons]; omega
theorem stack_rev (T : List TM) (y : TM) : ((T ++ [y]).map TM.x).reverse = y.x :: (T.map TM.x).reverse := by simp
section
variable {w w' : World} {B : Nat} {vO : Value} {T : List TM} {y : TM} {O : List E3}
theorem stack_take (T : List TM) (y : TM) : ((T ++ [y]).flatMap TM.cs).take (T.length * 3) = T.flatMap TM.cs := by
  have hl : (T.flatMap TM.cs).length = T.length * 3 := by
    induction T with
    | nil => rfl
    | cons a r ih => rw [List.flatMap_cons, List.length_append, ih, TM.len3, List.length_cons]; omega
  rw [List.flatMap_append, ← hl, List.take_left]
/-- The stack without its top. -/
theorem fam_cut {g c : Nat} (h : Fam w B ((T ++ [y]).map vrow ++ [orow vO O, trow 67 (.slice (some ⟨g, 0, none⟩) (T.length + 1) c) (T ++ [y])])) :
    Fam w B (vrow y :: (T.map vrow ++ [orow vO O, trow 67 (.slice (some ⟨g, 0, none⟩) T.length c) T])) := by
  have h1 : Fam w B (trow 67 (.slice (some ⟨g, 0, none⟩) (T.length + 1) c) (T ++ [y]) :: ((T ++ [y]).map vrow ++ [orow vO O])) := by
    refine h.perm ?_
    rw [show ((T ++ [y]).map vrow ++ [orow vO O, trow 67 (.slice (some ⟨g, 0, none⟩) (T.length + 1) c) (T ++ [y])]) = ((T ++ [y]).map vrow ++ [orow vO O]) ++ [trow 67 (.slice (some ⟨g, 0, none⟩) (T.length + 1) c) (T ++ [y])] from by rw [List.append_assoc]; rfl]
    exact List.perm_append_comm
  have ho : w.ownsRow B 67 3 (.slice (some ⟨g, 0, none⟩) (T.length + 1) c) (T.length + 1) ((T ++ [y]).flatMap TM.cs) := by
    have h9 := h1.head
    unfold Row.own trow at h9
    dsimp only at h9
    rw [show (T ++ [y]).length = T.length + 1 from by simp] at h9
    exact h9
  have hc := own_cut ho (m := T.length) (by omega)
  rw [stack_take] at hc
  have h2 := h1.upd (r' := trow 67 (.slice (some ⟨g, 0, none⟩) T.length c) T) (grown_refl w _) hc (.inl rfl)
  refine h2.perm ?_
  rw [List.map_append, List.append_assoc]
  have e : (vrow y :: (T.map vrow ++ [orow vO O, trow 67 (.slice (some ⟨g, 0, none⟩) T.length c) T])) = (vrow y :: (T.map vrow ++ [orow vO O])) ++ [trow 67 (.slice (some ⟨g, 0, none⟩) T.length c) T] := by simp
  rw [e]
  refine (List.Perm.trans ?_ List.perm_append_comm)
  exact List.Perm.cons _ List.perm_middle
theorem Fam.join {R R2 : List Row} (h : Fam w B R) (hb : Below w.heap.size w w') (h2 : Fam w' w.heap.size R2) (hB : B ≤ w.heap.size) : Fam w' B (R2 ++ R) := by
  refine ⟨fun r hr => ?_, List.pairwise_append.2 ⟨h2.ap, h.ap, fun a ha b hb2 g e e2 => ?_⟩⟩
  · rcases List.mem_append.1 hr with hr | hr
    · exact own_le (h2.own r hr) hB
    · exact (h.call hb).own r hr
  · have h3 := (World.ownsRow.lt (h2.own a ha) g e).1
    have h4 := (World.ownsRow.lt (h.own b hb2) g e2).2
    omega
/-- Two tasks laid on the stack. -/
theorem fam_push {vS v3 : Value} {y1 y2 : TM} (h : Fam w B (vrow y1 :: vrow y2 :: (T.map vrow ++ [orow vO O, trow 67 vS T]))) (hg : w.grownBy w' vS.ownBlock)
    (ho : w'.ownsRow B 67 3 v3 (T.length + 2) (T.flatMap TM.cs ++ (y1.cs ++ y2.cs))) (hat : v3.ownBlock = vS.ownBlock ∨ v3.ownBlock = some w.heap.size) :
    Fam w' B ((T ++ [y1, y2]).map vrow ++ [orow vO O, trow 67 v3 (T ++ [y1, y2])]) := by
  have e : (vrow y1 :: vrow y2 :: (T.map vrow ++ [orow vO O, trow 67 vS T])) = (vrow y1 :: vrow y2 :: (T.map vrow ++ [orow vO O])) ++ [trow 67 vS T] := by simp
  have h1 : Fam w B (trow 67 vS T :: (vrow y1 :: vrow y2 :: (T.map vrow ++ [orow vO O]))) := h.perm (by rw [e]; exact List.perm_append_comm)
  have ho' : Row.own w' B (trow 67 v3 (T ++ [y1, y2])) := by
    show w'.ownsRow B 67 3 v3 (T ++ [y1, y2]).length ((T ++ [y1, y2]).flatMap TM.cs)
    rw [show (T ++ [y1, y2]).length = T.length + 2 from by simp, List.flatMap_append]
    simpa using ho
  refine (h1.upd hg ho' hat).perm ?_
  have e2 : (T ++ [y1, y2]).map vrow ++ [orow vO O, trow 67 v3 (T ++ [y1, y2])] = (T.map vrow ++ ([vrow y1, vrow y2] ++ [orow vO O])) ++ [trow 67 v3 (T ++ [y1, y2])] := by simp
  rw [e2]
  refine List.Perm.trans ?_ List.perm_append_comm
  refine List.Perm.cons _ ?_
  rw [← List.append_assoc (T.map vrow)]
  have := (List.perm_append_comm (l₁ := [vrow y1, vrow y2]) (l₂ := T.map vrow)).append_right [orow vO O]
  simpa using this
end
theorem GIw.start {n f B : Nat} {masks : List Nat} {w0 w w' : World} {vO vS : Value} {T : List TM} {y : TM} {O : List E3} (h : GMem n masks B f w0 w vO vS (T ++ [y]) O) (hb : Below w.heap.size w w')
    (c0 : w'.cell? ⟨w.heap.size, 0, none⟩ = some y.vv) (c1 : w'.cell? ⟨w.heap.size, 1, none⟩ = some (.int .i64 (y.x.fm : Int))) (c2 : w'.cell? ⟨w.heap.size, 2, none⟩ = some (.int .i64 y.x.tg)) (hw : w.heap.size < w'.heap.size) :
    GIw B w.heap.size w0 w' vO vS T y O := by
  have no : ∀ r ∈ (T ++ [y]).map vrow ++ [orow vO O, trow 67 vS (T ++ [y])], r.v.ownBlock ≠ some w.heap.size := fun r hr e => by
    have := (World.ownsRow.lt (h.fam.own r hr) _ e).2; omega
  exact ⟨h.fam.call hb, h.md, Below.trans h.bel (hb.mono h.BW), Nat.le_trans h.BW hb.size, c0, c1, c2, no (orow vO O) (by simp), no (trow 67 vS (T ++ [y])) (by simp), fun z hz => no (vrow z) (List.mem_append_left _ (List.mem_map_of_mem hz)), h.BW, hw⟩
theorem GIp.start {n f : Nat} {r : List GT} {T : List TM} {y : TM} {O : List E3} (hr : (T.map TM.x).reverse = r) (h : GInv n (f + 1) (y.x :: r) O) : GIp n y.x r O 0 y.vv T y O := by
  subst hr
  have hx := h.ok y.x (by simp)
  exact ⟨rfl, rfl, rfl, rfl, ⟨hx.sm, rfl, fun z hz => h.ok z (by simp [List.mem_cons, hz]), rfl, by simp, h.gates⟩⟩
theorem GIp.done {n k : Nat} {x : GT} {r : List GT} {out : List E3} {vv : Value} {T : List TM} {y : TM} {O : List E3} (h : GIp n x r out k vv T y O) (hk : (x.tg < 0 ∧ k = 0) ∨ (0 ≤ x.tg ∧ k = n)) : gIns n x r out = ⟨y.x.vs, (T.map TM.x).reverse, O⟩ := by
  unfold gIns
  rcases hk with ⟨h1, rfl⟩ | ⟨h1, rfl⟩
  · rw [if_pos h1, h.st]; rfl
  · rw [if_neg (by omega), h.st]
theorem GIp.Tlen {n k : Nat} {x : GT} {r : List GT} {out : List E3} {vv : Value} {T : List TM} {y : TM} {O : List E3} (h : GIp n x r out k vv T y O) : T.length = r.length := by
  have := congrArg List.length h.ok.fms
  simpa using this
theorem GIp.sms {n k : Nat} {x : GT} {r : List GT} {out : List E3} {vv : Value} {T : List TM} {y : TM} {O : List E3} (h : GIp n x r out k vv T y O) : ∀ z ∈ T ++ [y], Sm z.x.vs := by
  intro z hz
  rcases List.mem_append.1 hz with hz | hz
  · exact (h.ok.ok z.x (by simp only [List.mem_reverse, List.mem_map]; exact ⟨z, hz, rfl⟩)).sm
  · simp only [List.mem_singleton] at hz
    subst hz; exact h.ok.sm
theorem GMem.stop {n f B : Nat} {masks : List Nat} {w0 w : World} {vO vS : Value} {x : GT} {r : List GT} {out : List E3} {v2 : List Nat} {T2 : List TM} {O2 : List E3} (hn : n ≤ 5)
    (hi : GInv n (f + 1) (x :: r) out) (hr : gLoop n (f + 1) (x :: r) out = gAll n masks) (hx : ¬ x.vs = []) (hI : gIns n x r out = ⟨v2, (T2.map TM.x).reverse, O2⟩) (hb : gBest v2 x.fm < 0)
    (fam : Fam w B (T2.map vrow ++ [orow vO O2, trow 67 vS T2])) (md : ∀ y ∈ T2, y.md = .int .i64 (y.x.fm : Int)) (bel : Below B w0 w) (BW : B ≤ w.heap.size) : GMem n masks B f w0 w vO vS T2 O2 := by
  have h1 := gInv_stop hn hi
  have h2 := gLoop_stop (n := n) (f := f) (r := r) (out := out) hx (by rw [hI]; exact hb)
  rw [hI] at h1 h2
  exact ⟨fam, md, h1, h2.symm.trans hr, bel, BW⟩
def tkM (vs : List Nat) (fm : Nat) (tg : Int) (u : Value) : TM := ⟨⟨vs, fm, tg⟩, u, .int .i64 (fm : Int)⟩
theorem GMem.split {n f B j : Nat} {masks : List Nat} {w0 w : World} {vO vS u1 u2 : Value} {x : GT} {r : List GT} {out : List E3} {v2 : List Nat} {T2 : List TM} {O2 : List E3} {tg : Int} (hn : n ≤ 5)
    (hi : GInv n (f + 1) (x :: r) out) (hr : gLoop n (f + 1) (x :: r) out = gAll n masks) (hx : ¬ x.vs = []) (hI : gIns n x r out = ⟨v2, (T2.map TM.x).reverse, O2⟩) (hj : j ∈ setB x.fm 5) (hjn : j < n) (hb : gBest v2 x.fm = (j : Int)) (htg : tg = if x.tg < 0 then (j : Int) else x.tg)
    (fam : Fam w B ((T2 ++ [tkM (gSet v2 j true) (clearB x.fm j) tg u1, tkM (gSet v2 j false) (clearB x.fm j) x.tg u2]).map vrow ++ [orow vO O2, trow 67 vS (T2 ++ [tkM (gSet v2 j true) (clearB x.fm j) tg u1, tkM (gSet v2 j false) (clearB x.fm j) x.tg u2])]))
    (md : ∀ y ∈ T2, y.md = .int .i64 (y.x.fm : Int)) (bel : Below B w0 w) (BW : B ≤ w.heap.size) :
    GMem n masks B f w0 w vO vS (T2 ++ [tkM (gSet v2 j true) (clearB x.fm j) tg u1, tkM (gSet v2 j false) (clearB x.fm j) x.tg u2]) O2 := by
  have htg1 : -1 ≤ tg ∧ tg < (n : Int) := by
    have := (hi.ok x (by simp)).tg
    rw [htg]; split <;> omega
  have h1 := gInv_split (tg := tg) hn hi hj htg1
  have h2 := gLoop_split (n := n) (f := f) (j := j) (r := r) (out := out) hx (by rw [hI]; exact hb)
  rw [← htg] at h2
  rw [hI] at h1 h2
  have e : ((T2 ++ [(tkM (gSet v2 j true) (clearB x.fm j) tg u1 : TM), tkM (gSet v2 j false) (clearB x.fm j) x.tg u2]).map TM.x).reverse = ⟨gSet v2 j false, clearB x.fm j, x.tg⟩ :: ⟨gSet v2 j true, clearB x.fm j, tg⟩ :: (T2.map TM.x).reverse := by simp [tkM]
  refine ⟨fam, fun y hy => ?_, by rw [e]; exact h1, by rw [e]; exact h2.symm.trans hr, bel, BW⟩
  rcases List.mem_append.1 hy with hy | hy
  · exact md y hy
  · simp only [List.mem_cons, List.not_mem_nil, or_false] at hy
    rcases hy with rfl | rfl <;> rfl
theorem free_lt {n fm j : Nat} (h : fm < 2 ^ n) (hj : j ∈ setB fm 5) : j < n := by
  have h1 := (setB_mem hj).2
  rcases Nat.lt_or_ge j n with h2 | h2
  · exact h2
  · rw [testBit_big h h2] at h1; cases h1
theorem clear_lt {fm j : Nat} (h : fm < 32) (hj : j ∈ setB fm 5) : clearB fm j < 32 := (clear_bits fm h j hj).1
theorem task_one {a : Option Addr} {n c : Nat} {x y : Int} {a2 : Option Addr} {n2 c2 : Nat} {x2 y2 : Int} : ∀ u ∈ [Value.slice a n c, .int .i64 x, .int .i64 y, .slice a2 n2 c2, .int .i64 x2, .int .i64 y2], u.oneCell' = true := by
  intro u hu
  simp at hu
  rcases hu with rfl | rfl | rfl | rfl | rfl | rfl <;> rfl
end Go.Proofs.Ytgonldkgghikiaa
