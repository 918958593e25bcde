/- The program's branchOn and inverted. -/
import Derived.Test.YtgonldkgghikiaaGr2
import Derived.Test.YtgonldkgghikiaaOwnG
import Derived.BigRegion
import Derived.BigQuiet
namespace Go.Proofs.Ytgonldkgghikiaa
set_option linter.unusedSimpArgs false
set_option linter.unusedVariables false
set_option linter.unnecessarySimpa false
set_option maxRecDepth 200000
open Go.ChangeShapes Go.WideShapes Go.ChangeAt Go.RowKit

theorem gIm_ends (vs : List Nat) (fm k : Nat) : -1 ≤ (gIm vs fm k).2 ∧ ((gIm vs fm k).2 ≤ (vs.length : Int) ∨ (gIm vs fm k).2 = -1) := by
  induction k with
  | zero => exact ⟨Int.le_refl _, .inr rfl⟩
  | succ k ih =>
    rw [gIm_succ]
    split
    · unfold gB
      split
      · have h1 := gSet_len vs k true
        have h2 := gSet_len vs k false
        unfold gMost
        dsimp only
        exact ⟨by omega, .inl (by omega)⟩
      · exact ih
    · exact ih
set_option maxHeartbeats 8000000 in
theorem impl_branchOn_any (v : Value) (vs : List Nat) (fm : Nat) (tg : Int) (w : World) (h : RdI w v (ints vs)) (hs : Sm vs) (hf : fm < 32) :
    Calls Try.prog 48 #[.agg #[v, .int .i64 (fm : Int), .int .i64 tg]] w fun e w' => e = .returned (.int .i64 (gBest vs fm)) ∧ Below w.heap.size w w' := by
  have H := Lib.hid h
  have HS := Lib.hid hs
  have hl := hs.1
  obtain ⟨A, c, rfl, _⟩ := h.form
  rw [ints_len] at *
  clear h hs
  go_enter Try.func48, Try.ntmps48
  go_wp2_with fail
  have C0 := Lib.hid (fun W (hb : Below w.heap.size w W) => hb)
  have K0 : (w.alloc (.cells #[.slice A vs.length c, .int .i64 (fm : Int), .int .i64 tg] 67)).cell? ⟨w.heap.size, 0, none⟩ = some (.slice A vs.length c) := (by repeat (first | (refine Eq.trans (World.cell?_alloc_at _ _ _ _ ?hh) ?_; (case hh => (simp; done)); rfl) | refine cell_alloc_keep _ ?_))
  have K1 : (w.alloc (.cells #[.slice A vs.length c, .int .i64 (fm : Int), .int .i64 tg] 67)).cell? ⟨w.heap.size, 1, none⟩ = some (.int .i64 (fm : Int)) := (by repeat (first | (refine Eq.trans (World.cell?_alloc_at _ _ _ _ ?hh) ?_; (case hh => (simp; done)); rfl) | refine cell_alloc_keep _ ?_))
  have B0 : Hid (Below (w.heap.size + 1) (w.alloc (.cells #[.slice A vs.length c, .int .i64 (fm : Int), .int .i64 tg] 67)) (w.alloc (.cells #[.slice A vs.length c, .int .i64 (fm : Int), .int .i64 tg] 67))) := (show Below _ _ _ from Below.refl _ _)
  have HK0 := Lib.hid K0; have HK1 := Lib.hid K1
  clear K0 K1 C0
  go_loopw [3, 4, 9] (fun sb sm i wr => ∃ k : Nat, k ≤ 5 ∧ sb = .int .i64 (gIm vs fm k).1 ∧ sm = .int .i64 (gIm vs fm k).2 ∧ i = .int .i64 k ∧ Hid (Below (w.heap.size + 1) (w.alloc (.cells #[.slice A vs.length c, .int .i64 (fm : Int), .int .i64 tg] 67)) wr)) (fun _ _ i _ => 5 - (intOf i).toNat)
  case atStart => exact ⟨0, by omega, rfl, rfl, rfl, B0⟩
  case round =>
    clear B0
    obtain ⟨k, hk, rfl, rfl, rfl, hB⟩ := hrel
    by_cases hlt : k < 5
    · have i1 : (k : Int) < 5 := by omega
      have j2 : (0 : Int) ≤ (k : Int) := by omega
      have hmn : min k 64 = k := by omega
      have hz := hB.out.size; (simp at hz)
      have k0 := (hB.out.cell (p := ⟨w.heap.size, 0, none⟩) (by simp)).trans HK0.out
      have k1 := (hB.out.cell (p := ⟨w.heap.size, 1, none⟩) (by simp)).trans HK1.out
      have hbw := Lib.hid (show Below w.heap.size w wr from Below.trans (show Below w.heap.size w (w.alloc (.cells #[.slice A vs.length c, .int .i64 (fm : Int), .int .i64 tg] 67)) from (by repeat (first | exact Below.refl _ _ | assumption | refine Below.drew ?_ | refine below_drewN ?_ _ | refine Below.alloc ?_ (by first | omega | (simp <;> omega)) _ | refine Below.setCell ?_ (by first | omega | (simp <;> omega)) _ | refine Below.trans ?_ (Below.mono (by assumption) (by first | omega | (simp <;> omega)))))) (hB.out.mono (by omega)))
      have HX := Lib.hid (gIm_succ vs fm k)
      have he := gIm_ends vs fm k
      obtain ⟨s, hs⟩ : ∃ s, s = gIm vs fm k := ⟨_, rfl⟩
      rw [← hs] at HX he ⊢
      clear hs
      obtain ⟨sb, sm⟩ := s
      dsimp only at he
      have tb := bit_test0g fm k (by omega)
      cases hb : fm.testBit k with
      | false =>
        rw [hb] at tb
        have HN := Lib.hid (show gIm vs fm (k + 1) = (sb, sm) from by rw [HX.out, hb]; rfl)
        clear hb
        go_wp2_with fail
        go_roundw
        case rel => exact ⟨k + 1, by omega, by rw [HN.out], by rw [HN.out], by go_num, hB⟩
        case measure => simp [intOf]; omega
      | true =>
        rw [hb] at tb
        have HN0 := Lib.hid (show gIm vs fm (k + 1) = gB vs (sb, sm) k from by rw [HX.out, hb]; rfl)
        clear hb
        go_wp2_with fail
        refine (impl_split_any k _ vs _ (Rd.below H.out hbw.out rfl) HS.out hlt).mono ?_; rintro e w2 ⟨u1, u2, rfl, hF, hb2⟩
        obtain ⟨a1, c1, rfl⟩ : ∃ a c, u1 = .slice a (gSet vs k true).length c := own_form hF.head
        obtain ⟨a2, c2, rfl⟩ : ∃ a c, u2 = .slice a (gSet vs k false).length c := own_form hF.swap.head
        have hm : gMost vs k = max (gSet vs k true).length (gSet vs k false).length := rfl
        have l1 := gSet_len vs k true
        have l2 := gSet_len vs k false
        have B2 := Lib.hid (Below.trans hB.out (hb2.mono (by omega)))
        obtain ⟨n1, hn1⟩ : ∃ n, n = (gSet vs k true).length := ⟨_, rfl⟩
        obtain ⟨n2, hn2⟩ : ∃ n, n = (gSet vs k false).length := ⟨_, rfl⟩
        rw [← hn1, ← hn2] at hm ⊢
        rw [← hn1] at l1; rw [← hn2] at l2
        clear hF hb2 hB k0 k1 hn1 hn2
        have hmc : ((max n1 n2 : Nat) : Int) = max (n1 : Int) (n2 : Int) := by omega
        by_cases hgt : sm < max (n1 : Int) (n2 : Int)
        · have HN := Lib.hid (show gIm vs fm (k + 1) = ((k : Int), max (n1 : Int) (n2 : Int)) from by rw [HN0.out]; unfold gB; rw [hm, hmc, if_pos hgt])
          clear hm hmc
          go_wp2_with fail
          go_roundw
          case rel => exact ⟨k + 1, by omega, by rw [HN.out], by rw [HN.out], by go_num, B2⟩
          case measure => simp [intOf]; omega
        · have HN := Lib.hid (show gIm vs fm (k + 1) = (sb, sm) from by rw [HN0.out]; unfold gB; rw [hm, hmc, if_neg hgt])
          clear hm hmc
          go_wp2_with fail
          go_roundw
          case rel => exact ⟨k + 1, by omega, by rw [HN.out], by rw [HN.out], by go_num, B2⟩
          case measure => simp [intOf]; omega
    · have ek : k = 5 := by omega
      subst ek
      have i1 : ¬ ((5 : Nat) : Int) < 5 := by omega
      have hbw := Lib.hid (show Below w.heap.size w wr from Below.trans (show Below w.heap.size w (w.alloc (.cells #[.slice A vs.length c, .int .i64 (fm : Int), .int .i64 tg] 67)) from (by repeat (first | exact Below.refl _ _ | assumption | refine Below.drew ?_ | refine below_drewN ?_ _ | refine Below.alloc ?_ (by first | omega | (simp <;> omega)) _ | refine Below.setCell ?_ (by first | omega | (simp <;> omega)) _ | refine Below.trans ?_ (Below.mono (by assumption) (by first | omega | (simp <;> omega)))))) (hB.out.mono (by omega)))
      go_wp2_with fail
      go_ret
      exact ⟨rfl, hbw.out⟩
/-- A task in memory: its vectors' slice and what stands for its free qubits. -/
structure TM where (x : GT) (vv md : Value)
def TM.cs (y : TM) : List Value := [y.vv, y.md, .int .i64 y.x.tg]
theorem TM.len3 (y : TM) : y.cs.length = 3 := rfl
def TM.add (j t : Nat) (y : TM) : TM := ⟨y.x.add j t, y.vv, y.md⟩
def vrow (y : TM) : Row := nrow y.vv y.x.vs
def trow (t : TypeId) (v : Value) (T : List TM) : Row := ⟨v, t, 3, T.length, T.flatMap TM.cs⟩
theorem trow_add (t : TypeId) (v : Value) (T : List TM) (j u : Nat) : trow t v (T.map (TM.add j u)) = trow t v T := by
  unfold trow
  rw [List.length_map, List.flatMap_map]
  rfl
/-- Nothing but the blocks of these slices may have changed. -/
structure Cha (vs : List Value) (w w' : World) : Prop where
  os : w'.os = w.os
  tape : w'.tape = w.tape
  output : w'.output = w.output
  size : w.heap.size ≤ w'.heap.size
  block : ∀ k, k < w.heap.size → (∀ v ∈ vs, v.ownBlock ≠ some k) → w'.heap[k]? = w.heap[k]?
theorem Cha.refl (vs : List Value) (w : World) : Cha vs w w := ⟨rfl, rfl, rfl, Nat.le_refl _, fun _ _ _ => rfl⟩
theorem Cha.trans {vs : List Value} {a b c : World} (h : Cha vs a b) (k : Cha vs b c) : Cha vs a c :=
  ⟨k.os.trans h.os, k.tape.trans h.tape, k.output.trans h.output, Nat.le_trans h.size k.size, fun i hi hn => (k.block i (Nat.lt_of_lt_of_le hi h.size) hn).trans (h.block i hi hn)⟩
theorem Cha.call {vs : List Value} {w w' : World} (h : Below w.heap.size w w') : Cha vs w w' := ⟨h.os, h.tape, h.output, h.size, fun k hk _ => h.block k hk⟩
theorem Cha.grown {vs : List Value} {w w' : World} {v : Value} (h : w.grownBy w' v.ownBlock) (hv : v ∈ vs) : Cha vs w w' := ⟨h.os, h.tape, h.output, h.size, fun k hk hn => h.block k hk (fun e => hn v hv e.symm)⟩
theorem Cha.cell {vs : List Value} {w w' : World} {b o : Nat} {u : Value} (h : Cha vs w w') (hn : ∀ v ∈ vs, v.ownBlock ≠ some b) (hc : w.cell? ⟨b, o, none⟩ = some u) : w'.cell? ⟨b, o, none⟩ = some u := by
  have hl := World.block_lt_of_cell? _ _ hc
  rw [← hc]; exact World.cell?_of_block (h.block b hl hn)
theorem trow_cells {w : World} {B : Nat} {t : TypeId} {a : Option Addr} {n cap : Nat} {T : List TM} (h : Row.own w B (trow t (.slice a n cap) T)) {i : Nat} (hi : i < T.length) :
    ∃ g, a = some ⟨g, 0, none⟩ ∧ g < w.heap.size ∧ w.cell? ⟨g, i * 3, none⟩ = some (T[i]).vv ∧ w.cell? ⟨g, i * 3 + 1, none⟩ = some (T[i]).md ∧ w.cell? ⟨g, i * 3 + 2, none⟩ = some (.int .i64 (T[i]).x.tg) := by
  obtain ⟨g, c', e⟩ := Go.Joins.ownsRow_form h (by show 0 < T.length; omega)
  injection e with e1 e2 e3
  have hl := (World.ownsRow.lt h g (by show Value.ownBlock (.slice a n cap) = _; rw [e1]; rfl)).2
  have key : ∀ k u, k < 3 → (TM.cs T[i])[k]? = some u → w.cell? ⟨g, i * 3 + k, none⟩ = some u := by
    intro k u hk hu
    have h9 := World.ownsRow.cells h (g := g) (by show Value.ownBlock (.slice a n cap) = _; rw [e1]; rfl) (i * 3 + k) u (by show (T.flatMap TM.cs)[i * 3 + k]? = some u; rw [flat_get TM.len3 T i k hi hk]; exact hu)
    rw [Addr.add_lit, Nat.zero_add] at h9
    exact h9
  exact ⟨g, e1, hl, key 0 _ (by omega) rfl, key 1 _ (by omega) rfl, key 2 _ (by omega) rfl⟩
def invTo (j t : Nat) (T : List TM) (i : Nat) : List TM := (T.take i).map (TM.add j t) ++ T.drop i
theorem invTo_zero (j t : Nat) (T : List TM) : invTo j t T 0 = T := by simp [invTo]
theorem invTo_all {j t i : Nat} {T : List TM} (h : T.length ≤ i) : invTo j t T i = T.map (TM.add j t) := by unfold invTo; rw [List.take_of_length_le h, List.drop_of_length_le h, List.append_nil]
theorem fam_at {w : World} {B j t i : Nat} {T : List TM} {R : List Row} (hi : i < T.length) (h : Fam w B ((invTo j t T i).map vrow ++ R)) :
    Fam w B (vrow T[i] :: (((T.take i).map (TM.add j t)).map vrow ++ (((T.drop (i + 1)).map vrow) ++ R))) := by
  refine h.perm ?_
  unfold invTo
  rw [List.drop_eq_getElem_cons hi, List.map_append, List.map_cons, List.append_assoc, List.cons_append]
  exact List.perm_middle
theorem fam_back {w : World} {B j t i : Nat} {T : List TM} {R : List Row} (hi : i < T.length) (h : Fam w B (vrow (T[i].add j t) :: (((T.take i).map (TM.add j t)).map vrow ++ (((T.drop (i + 1)).map vrow) ++ R)))) :
    Fam w B ((invTo j t T (i + 1)).map vrow ++ R) := by
  refine h.perm ?_
  unfold invTo
  rw [List.take_succ_eq_append_getElem hi, List.map_append, List.map_append, List.map_append, List.append_assoc, List.append_assoc]
  exact List.perm_middle.symm
theorem nrow_of_N {W : World} {B g n cap : Nat} {L : List Nat} (hL : L.length = n) (h : OwnN W B g n cap L) : Row.own W B (nrow (.slice (some ⟨g, 0, none⟩) n cap) L) := by
  show W.ownsRow B 3 1 _ L.length _
  rw [hL]; exact h
set_option maxHeartbeats 16000000 in
theorem impl_grayInverted_any (B : Nat) (T : List TM) (R : List Row) (vS : Value) (j t : Nat) (w : World) (hF : Fam w B (T.map vrow ++ R)) (hR : trow 67 vS T ∈ R) (hs : ∀ y ∈ T, Sm y.x.vs) (hmd : ∀ y ∈ T, y.md = .int .i64 (y.x.fm : Int)) (hj : j < 5) (ht : t < 5) (hTl : T.length ≤ 1000) :
    Calls Try.prog 47 #[vS, .int .i64 (j : Int), .int .i64 (t : Int)] w fun e w' => e = .returned (.tuple #[]) ∧ Fam w' B ((T.map (TM.add j t)).map vrow ++ R) ∧ Cha (T.map TM.vv) w w' := by
  obtain ⟨aS, cS, rfl⟩ : ∃ a c, vS = .slice a T.length c := own_form (hF.own _ (List.mem_append_right _ hR))
  have HR := Lib.hid hR; have HS := Lib.hid hs; have HMD := Lib.hid hmd
  have F0 : Hid (Fam w B ((invTo j t T 0).map vrow ++ R)) := (show Fam _ _ _ from by rw [invTo_zero]; exact hF)
  obtain ⟨p1, p2⟩ := pow_small j (by omega)
  have p3 := pow_31 hj
  have hwp : IntKind.i64.wrap ((2 : Int) ^ j) = (2 : Int) ^ j := IntWalk.i64_in _ (by omega)
  have hmj : min j 64 = j := by omega
  have hmt : min t 64 = t := by omega
  have j2 : (0 : Int) ≤ (j : Int) := by omega
  have t2 : (0 : Int) ≤ (t : Int) := by omega
  clear hF hR hs hmd
  go_enter Try.func47, Try.ntmps47
  go_wp2_with fail
  go_loopw [12] (fun i wr => ∃ k : Nat, k ≤ T.length ∧ i = .int .i64 k ∧ Hid (Fam wr B ((invTo j t T k).map vrow ++ R)) ∧ Hid (Cha (T.map TM.vv) w wr)) (fun i _ => T.length - (intOf i).toNat)
  case atStart => exact ⟨0, Nat.zero_le _, rfl, F0, (show Cha _ _ _ from Cha.refl _ _)⟩
  case round =>
    clear F0
    obtain ⟨k, hk, rfl, hF, hC⟩ := hrel
    by_cases hlt : k < T.length
    · have i1 : (k : Int) < (T.length : Int) := by omega
      obtain ⟨gS, rfl, hgS, q0, q1, q2⟩ := trow_cells (hF.out.own _ (List.mem_append_right _ HR.out)) hlt
      have FA := Lib.hid (fam_at hlt hF.out)
      obtain ⟨y, hy⟩ : ∃ y, y = T[k] := ⟨_, rfl⟩
      have hyT : y ∈ T := by rw [hy]; exact List.getElem_mem hlt
      have HY := Lib.hid hy
      rw [← hy] at q0 q1 q2 FA
      have hsy := HS.out y hyT
      have hmy := HMD.out y hyT
      obtain ⟨⟨vs, fm, tg⟩, vv, md⟩ := y
      dsimp only at q0 q1 q2 hsy hmy
      subst hmy
      obtain ⟨aV, cV, rfl⟩ : ∃ a c, vv = .slice a vs.length c := own_form (show Row.own wr B (nrow vv vs) from FA.out.head)
      have HVM := Lib.hid (List.mem_map_of_mem (f := TM.vv) hyT)
      have HSY := Lib.hid hsy.2
      have hvl := hsy.1
      clear hy hyT hsy hF
      have FX := Lib.hid (FA.out.call (show Below wr.heap.size wr (wr.alloc (.cells #[.slice aV vs.length cV, .int .i64 (fm : Int), .int .i64 tg] 67)) from (by repeat (first | exact Below.refl _ _ | assumption | refine Below.drew ?_ | refine below_drewN ?_ _ | refine Below.alloc ?_ (by first | omega | (simp <;> omega)) _ | refine Below.setCell ?_ (by first | omega | (simp <;> omega)) _ | refine Below.trans ?_ (Below.mono (by assumption) (by first | omega | (simp <;> omega)))))))
      have hVb : ∀ g, (Value.slice aV vs.length cV).ownBlock = some g → g ≠ wr.heap.size := fun g e => by have := (World.ownsRow.lt (show wr.ownsRow B 3 1 (.slice aV vs.length cV) vs.length _ from FA.out.head) g e).2; omega
      have HVB := Lib.hid hVb
      have x0 : (wr.alloc (.cells #[.slice aV vs.length cV, .int .i64 (fm : Int), .int .i64 tg] 67)).cell? ⟨wr.heap.size, 0, none⟩ = some (.slice aV vs.length cV) := (by repeat (first | (refine Eq.trans (World.cell?_alloc_at _ _ _ _ ?hh) ?_; (case hh => (simp; done)); rfl) | refine cell_alloc_keep _ ?_))
      have R0 : Hid (Row.own (wr.alloc (.cells #[.slice aV vs.length cV, .int .i64 (fm : Int), .int .i64 tg] 67)) B (nrow (.slice aV vs.length cV) (addTo j t vs 0))) := (show Row.own _ _ _ from by rw [addTo_zero]; exact FX.out.head)
      have CX := Lib.hid (hC.out.trans (Cha.call (show Below wr.heap.size wr (wr.alloc (.cells #[.slice aV vs.length cV, .int .i64 (fm : Int), .int .i64 tg] 67)) from (by repeat (first | exact Below.refl _ _ | assumption | refine Below.drew ?_ | refine below_drewN ?_ _ | refine Below.alloc ?_ (by first | omega | (simp <;> omega)) _ | refine Below.setCell ?_ (by first | omega | (simp <;> omega)) _ | refine Below.trans ?_ (Below.mono (by assumption) (by first | omega | (simp <;> omega))))))))
      clear FA hVb hC
      obtain ⟨bx, hbx⟩ : ∃ b, b = wr.heap.size := ⟨_, rfl⟩
      go_wp2_with fail
      rw [← hbx] at HVB x0 ⊢
      generalize (wr.alloc (.cells #[.slice aV vs.length cV, .int .i64 (fm : Int), .int .i64 tg] 67)) = W at *
      clear q0 q1 q2 hgS hbx
      have HX0 := Lib.hid x0
      clear x0
      go_loopw [19] (fun i wr => ∃ q : Nat, q ≤ vs.length ∧ i = .int .i64 q ∧ Hid (Row.own wr B (nrow (.slice aV vs.length cV) (addTo j t vs q))) ∧ Hid (W.grownBy wr (Value.slice aV vs.length cV).ownBlock)) (fun i _ => vs.length - (intOf i).toNat)
      case atStart => exact ⟨0, Nat.zero_le _, rfl, R0, (show World.grownBy _ _ _ from grown_refl _ _)⟩
      case round =>
        clear R0
        obtain ⟨q, hq, rfl, hO, hg⟩ := hrel
        by_cases hqt : q < vs.length
        · have i2 : (q : Int) < (vs.length : Int) := by omega
          have i3 : (0 : Int) ≤ (q : Int) := by omega
          obtain ⟨g, c', e⟩ := Go.Joins.ownsRow_form hO.out (by show 0 < (addTo j t vs q).length; rw [addTo_len]; omega)
          have ON0 : OwnN wr B g vs.length cV (addTo j t vs q) := by
            injection e with e1 e2 e3
            have h9 := hO.out
            rw [e1] at h9
            unfold Row.own nrow at h9
            dsimp only at h9
            rw [addTo_len] at h9
            exact h9
          injection e with e1 e2 e3
          subst e1
          have ON := Lib.hid ON0; clear ON0 e2 e3 hO
          have ck := own_int_cell ON.out q (by rw [addTo_len]; exact hqt)
          rw [addTo_get hqt] at ck
          have fk := ON.out.frz q
          have HX := Lib.hid (addTo_succ (j := j) (t := t) hqt)
          have hx31 : vs.getD q 0 ≤ 31 := by rw [getD_lt hqt]; exact HSY.out _ (List.getElem_mem hqt)
          have hsame := Lib.hid (show (addTo j t vs q).set q (vs.getD q 0) = addTo j t vs q from by rw [← addTo_get (j := j) (t := t) hqt]; exact set_same (by rw [addTo_len]; exact hqt))
          have x0 := cell_grown hg.out HX0.out (fun e => HVB.out _ e rfl)
          obtain ⟨x, hx⟩ : ∃ x, x = vs.getD q 0 := ⟨_, rfl⟩
          rw [← hx] at ck HX hx31 hsame
          clear hx
          have tb := bit_test x t (by omega)
          cases hb : x.testBit t with
          | false =>
            rw [hb] at tb
            have HN := Lib.hid (show addTo j t vs (q + 1) = addTo j t vs q from by rw [HX.out, addV_no hb, hsame.out])
            clear hb
            go_wp2_with fail
            go_roundw
            case rel => exact ⟨q + 1, by omega, by go_num, (show Row.own _ _ _ from nrow_of_N (addTo_len _ _ _ _) (by rw [HN.out]; exact ON.out)), hg⟩
            case measure => simp [intOf]; omega
          | true =>
            rw [hb] at tb
            have HN := Lib.hid (show addTo j t vs (q + 1) = (addTo j t vs q).set q (x ^^^ 2 ^ j) from by rw [HX.out, addV_yes hb])
            have hxo := bits_xor x (2 ^ j) (by omega) (by omega)
            rw [show ((2 ^ j : Nat) : Int) = (2 : Int) ^ j from by simp] at hxo
            have S1 := Lib.hid ((ON.out.set q (x ^^^ 2 ^ j)).below (show Below (wr.setCell ⟨g, q, none⟩ (.int .i64 ((x ^^^ 2 ^ j : Nat) : Int))).heap.size (wr.setCell ⟨g, q, none⟩ (.int .i64 ((x ^^^ 2 ^ j : Nat) : Int))) (wr.setCell ⟨g, q, none⟩ (.int .i64 ((x ^^^ 2 ^ j : Nat) : Int))).drew from (by repeat (first | exact Below.refl _ _ | assumption | refine Below.drew ?_ | refine below_drewN ?_ _ | refine Below.alloc ?_ (by first | omega | (simp <;> omega)) _ | refine Below.setCell ?_ (by first | omega | (simp <;> omega)) _ | refine Below.trans ?_ (Below.mono (by assumption) (by first | omega | (simp <;> omega)))))) rfl)
            have G1 := Lib.hid (grown_drew (grown_trans0 hg.out (World.ownsRow.stored (show wr.ownsRow B 3 1 (.slice (some ⟨g, 0, none⟩) vs.length cV) vs.length _ from ON.out) q (.int .i64 ((x ^^^ 2 ^ j : Nat) : Int))).2))
            clear hb hg
            go_wp2_with fail
            go_region
            go_wp2_with fail
            go_roundw
            case rel => exact ⟨q + 1, by omega, by go_num, (show Row.own _ _ _ from nrow_of_N (addTo_len _ _ _ _) (by rw [HN.out]; exact S1.out)), G1⟩
            case measure => simp [intOf]; omega
        · have i2 : ¬ (q : Int) < (vs.length : Int) := by omega
          have HE := Lib.hid (addTo_all (j := j) (t := t) (show vs.length ≤ q by omega))
          rw [HE.out] at hO
          have FU := Lib.hid (FX.out.upd hg.out (r' := vrow (TM.add j t ⟨⟨vs, fm, tg⟩, .slice aV vs.length cV, .int .i64 (fm : Int)⟩)) hO.out (.inl rfl))
          have FB := Lib.hid (fam_back hlt (by rw [← HY.out]; exact FU.out))
          have CB := Lib.hid (CX.out.trans (Cha.grown hg.out HVM.out))
          clear FU hO hg
          go_wp2_with fail
          go_roundw
          case rel => exact ⟨k + 1, by omega, by go_num, FB, CB⟩
          case measure => simp [intOf]; omega
    · have i1 : ¬ (k : Int) < (T.length : Int) := by omega
      rw [invTo_all (by omega)] at hF
      go_wp2_with fail
      go_end0
      exact ⟨rfl, (by have h9 := hF.out; (first | exact h9 | (rw [List.map_map] at h9; exact h9))), hC.out⟩
end Go.Proofs.Ytgonldkgghikiaa
