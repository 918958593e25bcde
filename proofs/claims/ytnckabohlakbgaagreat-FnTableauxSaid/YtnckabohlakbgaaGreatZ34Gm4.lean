/- The operator of a circuit in the program. -/
import Derived.Test.YtnckabohlakbgaaGreatZ32Gm3
import Derived.Test.YtnckabohlakbgaaGreatZ33M
import Derived.Test.YtnckabohlakbgaaGreatZ28Dy17
import Derived.Test.YtnckabohlakbgaaGreatZ14M
import Derived.Test.YtnckabohlakbgaaGreatZ06Brk
import Derived.BigRegion
import Derived.BigQuiet
import Derived.Deep.RegionLaw
import Derived.Deep.DeepCutAuto
namespace Go.Proofs.YtnckabohlakbgaaGreat
set_option linter.unusedSimpArgs false
set_option linter.unusedVariables false
set_option linter.unnecessarySimpa false
set_option maxRecDepth 200000
open Go.ChangeShapes Go.WideShapes Go.ChangeAt Go.RowKit

/-- The matrix at hand: the argument's, or of the call's own. -/
abbrev OwM (w : World) (B N : Nat) (a : Option Addr) (cap : Nat) (F : Nat → Nat → Dy) : Prop := OwnE w B 86 (.slice a (N * N) cap) Dy.cs 5 (cellsTo N F (N * N))
def Mx (w wr : World) (B N : Nat) (a : Option Addr) (cap : Nat) (F : Nat → Nat → Dy) : Prop := OwM w B N a cap F ∨ OwM wr (w.heap.size + 3) N a cap F
section
variable {w wr w' : World} {B N : Nat} {a : Option Addr} {cap : Nat} {F : Nat → Nat → Dy}
theorem Mx.own (h : Mx w wr B N a cap F) (hb : Below w.heap.size w wr) (hB : B ≤ w.heap.size) : OwM wr B N a cap F := by
  rcases h with h | h
  · exact OwnE.below h hb rfl
  · exact OwnE.le h (by omega)
theorem Mx.rd (h : Mx w wr B N a cap F) (hb : Below w.heap.size w wr) (hB : B ≤ w.heap.size) : RdM wr N N a cap F := OwnE.rd (h.own hb hB)
theorem Mx.call (h : Mx w wr B N a cap F) (hb : Below wr.heap.size wr w') : Mx w w' B N a cap F := h.imp id (fun h => OwnE.below h hb rfl)
end
theorem opF_le {d : Circ} {n : Nat} (h : clifB d = true) (hn : d.n = (n : Int)) (h3 : n ≤ 3) (hl : d.gs.length ≤ 9) {k : Nat} (hk : k ≤ d.gs.length) : ∀ i j, i < 2 ^ n → j < 2 ^ n → (opN n d.gs k i j).le 512 := fun i j hi hj => by
  have h1 := opN_le h hn h3 k hk i j hi hj
  refine h1.mono ?_
  have h2 := opH_le d.gs k
  have h4 : 2 ^ opH d.gs k ≤ 2 ^ 9 := Nat.pow_le_pow_right (by omega) (by omega)
  exact Int.ofNat_le.2 h4
theorem gm_le {n k a b : Nat} (h3 : n ≤ 3) (h : GtOk n k a b) : ∀ i j, i < 2 ^ n → j < 2 ^ n → (gmN n k a b i j).le 1 := fun i j hi hj => by
  have hu := (row_ok h3 h i hi).2 j hj
  have h1 := (unit_mul hu one_le).1
  rw [Rg4.mul_one] at h1
  exact h1
/-- The matrix behind the first k gates. -/
def opF (n : Nat) (gs : List E3) (k i j : Nat) : Dy := nrm (opN n gs k i j) (opH gs k)
theorem opF_zero (n : Nat) (gs : List E3) : opF n gs 0 = idD := by
  funext i j
  unfold opF idD
  show nrm (idM i j) 0 = _
  unfold idM; split <;> rfl
/-- One gate more. -/
theorem mul_gate {d : Circ} {n : Nat} (h : clifB d = true) (hn : d.n = (n : Int)) (h3 : n ≤ 3) (hl : d.gs.length ≤ 9) {k kk ga gb : Nat} (hk : k < d.gs.length) (hg : d.gs.getD k ⟨0, 0, 0⟩ = ⟨(kk : Int), (ga : Int), (gb : Int)⟩) (hgt : GtOk n kk ga gb)
    (w : World) (a b : Option Addr) (ca cb : Nat) (h1 : RdM w (2 ^ n) (2 ^ n) a ca (gmD n kk ga gb)) (h2 : RdM w (2 ^ n) (2 ^ n) b cb (opF n d.gs k)) :
    Calls Tryz.prog 18 #[.agg #[.int .i64 ((2 ^ n : Nat) : Int), .int .i64 ((2 ^ n : Nat) : Int), .slice a (2 ^ n * 2 ^ n) ca], .agg #[.int .i64 ((2 ^ n : Nat) : Int), .int .i64 ((2 ^ n : Nat) : Int), .slice b (2 ^ n * 2 ^ n) cb]] w fun e w' => MatOwn w (2 ^ n) (2 ^ n) (opF n d.gs (k + 1)) e w' := by
  have g1 := gm_le h3 hgt
  have g2 := opF_le h hn h3 hl (k := k) (by omega)
  have h2h := opH_le d.gs k
  have hgh : gh kk ≤ 1 := by unfold gh; split <;> omega
  have e1 : gmD n kk ga gb = fun i j => nrm (gmN n kk ga gb i j) (gh kk) := by funext i j; exact gmD_nrm hgt i j
  have hS := num_sums (2 ^ n) (gmN n kk ga gb) (opN n d.gs k) (gh kk) (opH d.gs k) 1 512 (pow3 h3) g1 g2 (by decide) (by decide) (by decide) (by decide) (by decide) (by omega)
  have e3 : opF n d.gs (k + 1) = fun i j => nrm (sumR (fun l => (gmN n kk ga gb i l).mul (opN n d.gs k l j)) (2 ^ n)) (gh kk + opH d.gs k) := by
    funext i j
    unfold opF
    rw [opN_succ n hg, opH_succ hg]; rfl
  rw [e1] at h1
  rw [e3]
  exact impl_MulMatrix_own (2 ^ n) (2 ^ n) (2 ^ n) _ _ _ _ w a b ca cb (dim_pow (by omega)) (dim_pow (by omega)) (dim_pow (by omega)) hS h1 h2 (num_cells g1 (by decide) (by omega)) (num_cells g2 (by decide) (by omega))
set_option maxHeartbeats 4000000 in
theorem impl_applied_ok (d : Circ) (n : Nat) (h : clifB d = true) (hn : d.n = (n : Int)) (h3 : n ≤ 3) (hl : d.gs.length ≤ 9) (v : Value) (w : World) (hv : RdE w v E3.cs 3 d.gs) (a : Option Addr) (cap B : Nat) (hB : B ≤ w.heap.size) (hm : OwM w B (2 ^ n) a cap (opF n d.gs 0)) :
    Calls Tryz.prog 47 #[.agg #[.int .i64 (n : Int), v], .agg #[.int .i64 ((2 ^ n : Nat) : Int), .int .i64 ((2 ^ n : Nat) : Int), .slice a (2 ^ n * 2 ^ n) cap], .bool true] w fun e w' => ∃ a' cap', e = .returned (.tuple #[.agg #[.int .i64 ((2 ^ n : Nat) : Int), .int .i64 ((2 ^ n : Nat) : Int), .slice a' (2 ^ n * 2 ^ n) cap'], .bool true]) ∧ OwM w' B (2 ^ n) a' cap' (opF n d.gs d.gs.length) ∧ Below w.heap.size w w' := by
  have hn1 := (clif_n h hn).1
  have MG := Lib.hid (fun k kk ga gb hk hg hgt => mul_gate h hn h3 hl (k := k) (kk := kk) (ga := ga) (gb := gb) hk hg hgt)
  have CLG := Lib.hid (fun k hk => clif_gate h hn (k := k) hk)
  have GM := Lib.hid (fun kk ga gb W hgt => impl_GateMatrix_ok n kk ga gb W hn1 (by omega) hgt)
  obtain ⟨A, c, rfl, HG⟩ := gate_at hv
  obtain ⟨N, hN⟩ : ∃ N, N = 2 ^ n := ⟨_, rfl⟩
  rw [← hN] at hm MG GM ⊢
  obtain ⟨F, hF⟩ : ∃ F, F = opF n d.gs := ⟨_, rfl⟩
  rw [← hF] at hm MG ⊢
  have hb0 : Below w.heap.size w (((w.alloc (.cells #[.int .i64 (n : Int), .slice A d.gs.length c] 25)).alloc (.cells #[.int .i64 (N : Int), .int .i64 (N : Int), .slice a (N * N) cap] 47)).alloc (.cells #[.int .i64 0, .int .i64 0, .slice none 0 0] 47)) := belo
  have X0 := Lib.hid ((((Sb.nil w).push [.int .i64 (n : Int), .slice A d.gs.length c] 25 rfl).push [.int .i64 (N : Int), .int .i64 (N : Int), .slice a (N * N) cap] 47 (g := w.heap.size + 1) (by simp)).push [.int .i64 0, .int .i64 0, .slice none 0 0] 47 (g := w.heap.size + 1 + 1) (by simp))
  have HM := Lib.hid (show Mx w (((w.alloc (.cells #[.int .i64 (n : Int), .slice A d.gs.length c] 25)).alloc (.cells #[.int .i64 (N : Int), .int .i64 (N : Int), .slice a (N * N) cap] 47)).alloc (.cells #[.int .i64 0, .int .i64 0, .slice none 0 0] 47)) B N a cap (F 0) from .inl hm)
  clear hv hm hb0 h hn hF hN h3
  go_enter Tryz.func47, Tryz.ntmps47
  go_wp2_with fail
  generalize (((w.alloc (.cells #[.int .i64 (n : Int), .slice A d.gs.length c] 25)).alloc (.cells #[.int .i64 (N : Int), .int .i64 (N : Int), .slice a (N * N) cap] 47)).alloc (.cells #[.int .i64 0, .int .i64 0, .slice none 0 0] 47)) = w1 at *
  go_loopw [2, 8] (fun s2 s8 wr => ∃ (k : Nat) (a : Option Addr) (cap : Nat), s2 = .bool true ∧ s8 = .int .i64 (k : Int) ∧ k ≤ d.gs.length ∧ Hid (Sb w.heap.size w wr [(w.heap.size + 1 + 1, [.int .i64 0, .int .i64 0, .slice none 0 0]), (w.heap.size + 1, [.int .i64 (N : Int), .int .i64 (N : Int), .slice a (N * N) cap]), (w.heap.size, [.int .i64 (n : Int), .slice A d.gs.length c])]) ∧ Hid (Mx w wr B N a cap (F k))) (fun _ s8 _ => d.gs.length - (intOf s8).toNat)
  case atStart => exact ⟨0, a, cap, rfl, rfl, Nat.zero_le _, X0, HM⟩
  case round =>
    clear X0 HM
    obtain ⟨k, a4, cap4, rfl, rfl, hk, X, HM⟩ := hrel
    obtain ⟨⟨t0, t1⟩, -⟩ := (X.out.at 2 rfl).c2
    by_cases hlt : k < d.gs.length
    · have i1 : (k : Int) < (d.gs.length : Int) := by omega
      obtain ⟨kk, ga, gb, hg, hgt⟩ := CLG.out k hlt
      obtain ⟨b0, off, rfl, hgb, c0, c1, c2⟩ := HG.out k hlt
      rw [hg] at c0 c1 c2
      dsimp only at c0 c1 c2
      have G0 := Lib.hid c0; have G1 := Lib.hid c1; have G2 := Lib.hid c2
      have HGT := Lib.hid hgt; have HGG := Lib.hid hg
      clear c0 c1 c2 hgt hg
      go_wp2_with fail
      go_cut [9, 10] (fun s9 s10 wx => ∃ (g9 : Nat) (a1 : Option Addr) (p1 : Nat), s9 = .pointer (some ⟨g9, 0, none⟩) ∧ s10 = .bool true ∧ Hid (Sb w.heap.size w wx [(g9, [.int .i64 (N : Int), .int .i64 (N : Int), .slice a1 (N * N) p1]), (w.heap.size + 1 + 1, [.int .i64 0, .int .i64 0, .slice none 0 0]), (w.heap.size + 1, [.int .i64 (N : Int), .int .i64 (N : Int), .slice a4 (N * N) cap4]), (w.heap.size, [.int .i64 (n : Int), .slice (some ⟨b0, off, none⟩) d.gs.length c])]) ∧ Hid (RdM wx N N a1 p1 (gmD n kk ga gb)) ∧ Hid (Mx w wx B N a4 cap4 (F k)))
      case first =>
        have XB := Lib.hid (show Below wr.heap.size wr wr.drew from belo)
        replace X := Lib.hid X.out.drew
        clear t0 t1
        obtain ⟨⟨t0, t1⟩, -⟩ := (X.out.bx (w.heap.size, [.int .i64 (n : Int), .slice (some ⟨b0, off, none⟩) d.gs.length c]) (by simp)).c2
        have e0 := (X.out.bel.cell hgb).trans G0.out
        have e1 := (X.out.bel.cell hgb).trans G1.out
        have e2 := (X.out.bel.cell hgb).trans G2.out
        refine AnyB.begin (S := (fun w' => w'.cell? ⟨w.heap.size, 0, none⟩ = some (.int .i64 (n : Int)) ∧ w'.cell? ⟨w.heap.size, 1, none⟩ = some (.slice (some ⟨b0, off, none⟩) d.gs.length c) ∧ w'.cell? ⟨b0, off + k * 3, none⟩ = some (.int .i64 (kk : Int)) ∧ w'.cell? ⟨b0, off + k * 3 + 1, none⟩ = some (.int .i64 (ga : Int)) ∧ w'.cell? ⟨b0, off + k * 3 + 2, none⟩ = some (.int .i64 (gb : Int)))) [12] (by kernel_rfl) ?_ (fun hHeld0 => ?_)
        · ((try dsimp only); (exact ⟨t0, t1, e0, e1, e2⟩))
        refine AnyB.tq (i := 0) (h := ?_)
        refine AnyB.tk (i := 1) (h := ?_)
        refine AnyB.tq (i := 2) (h := ?_)
        refine AnyB.tk (i := 3) (h := ?_)
        refine AnyB.tq (i := 4) (h := ?_)
        refine AnyB.tq (i := 5) (h := ?_)
        refine AnyB.tk (i := 6) (h := ?_)
        refine AnyB.each (rs := [7, 11]) (by kernel_rfl) (by simp) ?_
        refine EachB.cons rfl (fun K hK hB => ?_) ?_
        · skip
          (go_simp; go_at_call 83; refine (GM.out kk ga gb _ HGT.out).mono ?_; rintro e xA ⟨a1, p1, rfl, hO, hxA⟩; (try (have HN := Lib.hid (show (Value.slice a1 (N * N) p1).ownBlock ≠ some g9 from fun e9 => by have := (World.ownsRow.lt (show World.ownsRow _ _ _ _ _ _ _ from hO) g9 e9).1; omega))); replace XB := Lib.hid (Below.trans XB.out (hxA.mono XB.out.size)); have O := Lib.hid hO; replace X := Lib.hid (X.out.call hxA); clear hxA hO; clear t0 t1 e0 e1 e2; obtain ⟨⟨t0, t1⟩, -⟩ := (X.out.bx (w.heap.size, [.int .i64 (n : Int), .slice (some ⟨b0, off, none⟩) d.gs.length c]) (by simp)).c2; have e0 := (X.out.bel.cell hgb).trans G0.out; have e1 := (X.out.bel.cell hgb).trans G1.out; have e2 := (X.out.bel.cell hgb).trans G2.out; dsimp only)
          refine hK.out _ _ ?_ (fun hHeld1 => ?_)
          · ((try dsimp only); (exact ⟨t0, t1, e0, e1, e2⟩))
          clear hB hK K hHeld0
          refine AnyB.tq (i := 8) (h := ?_)
          refine AnyB.tq (i := 9) (h := ?_)
          refine AnyB.tq (i := 10) (h := ?_)
          refine AnyB.each (rs := [11]) (by kernel_rfl) (by simp) ?_
          refine EachB.cons rfl (fun K hK hB => ?_) ?_
          · skip
            (go_simp; (first | (obtain ⟨g9, hg9⟩ : ∃ g, xA.heap.size = g := ⟨_, rfl⟩; have hbC := (show Below xA.heap.size xA (xA.alloc (.cells #[.int .i64 0, .int .i64 0, .slice none 0 0] 47)) from belo); have G9 : wr.heap.size ≤ g9 := (by have := XB.out.size; omega); have HN := Lib.hid (show (Value.slice a1 (N * N) p1).ownBlock ≠ some g9 from fun e9 => by have := (World.ownsRow.lt (show World.ownsRow _ _ _ _ _ _ _ from O.out) g9 e9).2; omega); replace O := Lib.hid (OwnE.below O.out hbC rfl); replace XB := Lib.hid (Below.trans XB.out (hbC.mono XB.out.size)); replace X := Lib.hid (X.out.push [.int .i64 0, .int .i64 0, .slice none 0 0] 47 hg9); have L9 : g9 < (xA.alloc (.cells #[.int .i64 0, .int .i64 0, .slice none 0 0] 47)).heap.size := (by simp; omega); rw [hg9]; generalize xA.alloc (.cells #[.int .i64 0, .int .i64 0, .slice none 0 0] 47) = xD at *; clear hg9 hbC) | (obtain ⟨g9, hg9⟩ : ∃ g, wr.heap.size = g := ⟨_, rfl⟩; have G9 : wr.heap.size ≤ g9 := (by omega); replace XB := Lib.hid (show Below wr.heap.size wr ((wr.alloc (.cells #[.int .i64 0, .int .i64 0, .slice none 0 0] 47)).drew) from belo); replace X := Lib.hid (show Sb w.heap.size w ((wr.alloc (.cells #[.int .i64 0, .int .i64 0, .slice none 0 0] 47)).drew) _ from (X.out.push [.int .i64 0, .int .i64 0, .slice none 0 0] 47 (g := g9) hg9)); have L9 : g9 < ((wr.alloc (.cells #[.int .i64 0, .int .i64 0, .slice none 0 0] 47)).drew).heap.size := (by simp; omega); rw [hg9]; generalize (wr.alloc (.cells #[.int .i64 0, .int .i64 0, .slice none 0 0] 47)).drew = xD at *; clear hg9)); clear t0 t1 e0 e1 e2; obtain ⟨⟨t0, t1⟩, -⟩ := (X.out.bx (w.heap.size, [.int .i64 (n : Int), .slice (some ⟨b0, off, none⟩) d.gs.length c]) (by simp)).c2; have e0 := (X.out.bel.cell hgb).trans G0.out; have e1 := (X.out.bel.cell hgb).trans G1.out; have e2 := (X.out.bel.cell hgb).trans G2.out)
            refine hK.out _ _ ?_ (fun hHeld2 => ?_)
            · ((try dsimp only); (exact ⟨t0, t1, e0, e1, e2⟩))
            clear hB hK K hHeld1
            refine AnyB.each (rs := [12]) (by kernel_rfl) (by simp) ?_
            refine EachB.cons rfl (fun K hK hB => ?_) ?_
            · skip
              (obtain ⟨⟨y0, y1, y2⟩, q0, q1, q2⟩ := X.out.head.c3; go_simp; clear y0 y1 y2 q0 q1 q2; have X9 := Lib.hid (((X.out.set0 0 (.int .i64 (N : Int))).set0 1 (.int .i64 (N : Int))).set0 2 (.slice a1 (N * N) p1)); have O9 := Lib.hid (own_set_ne (own_set_ne (own_set_ne (show World.ownsRow _ _ _ _ _ _ _ from O.out) (a := ⟨g9, 0, none⟩) HN.out (.int .i64 (N : Int))) (a := ⟨g9, 1, none⟩) HN.out (.int .i64 (N : Int))) (a := ⟨g9, 2, none⟩) HN.out (.slice a1 (N * N) p1)); have XB9 := Lib.hid (Below.setCell (Below.setCell (Below.setCell XB.out (show wr.heap.size ≤ g9 from G9) (.int .i64 (N : Int)) (p := ⟨g9, 0, none⟩)) (show wr.heap.size ≤ g9 from G9) (.int .i64 (N : Int)) (p := ⟨g9, 1, none⟩)) (show wr.heap.size ≤ g9 from G9) (.slice a1 (N * N) p1) (p := ⟨g9, 2, none⟩)); clear t0 t1 e0 e1 e2; clear X O XB)
              refine hB.out _ _ rfl ?_
              clear hB hK K
              refine AnyB.tq (i := 13) (h := ?_)
              refine AnyB.none (by kernel_rfl) ?_ _
              go_wp2_with fail
              go_meet
              exact ⟨g9, a1, p1, rfl, rfl, X9, OwnE.rd (show OwnE _ _ 86 (.slice a1 (N * N) p1) Dy.cs 5 (cellsTo N (gmD n kk ga gb) (N * N)) from O9.out), HM.out.call XB9.out⟩
            exact EachB.nil
          exact EachB.nil
        refine EachB.cons rfl (fun K hK hB => ?_) ?_
        · skip
          (go_simp; (first | (obtain ⟨g9, hg9⟩ : ∃ g, xA.heap.size = g := ⟨_, rfl⟩; have hbC := (show Below xA.heap.size xA (xA.alloc (.cells #[.int .i64 0, .int .i64 0, .slice none 0 0] 47)) from belo); have G9 : wr.heap.size ≤ g9 := (by have := XB.out.size; omega); have HN := Lib.hid (show (Value.slice a1 (N * N) p1).ownBlock ≠ some g9 from fun e9 => by have := (World.ownsRow.lt (show World.ownsRow _ _ _ _ _ _ _ from O.out) g9 e9).2; omega); replace O := Lib.hid (OwnE.below O.out hbC rfl); replace XB := Lib.hid (Below.trans XB.out (hbC.mono XB.out.size)); replace X := Lib.hid (X.out.push [.int .i64 0, .int .i64 0, .slice none 0 0] 47 hg9); have L9 : g9 < (xA.alloc (.cells #[.int .i64 0, .int .i64 0, .slice none 0 0] 47)).heap.size := (by simp; omega); rw [hg9]; generalize xA.alloc (.cells #[.int .i64 0, .int .i64 0, .slice none 0 0] 47) = xD at *; clear hg9 hbC) | (obtain ⟨g9, hg9⟩ : ∃ g, wr.heap.size = g := ⟨_, rfl⟩; have G9 : wr.heap.size ≤ g9 := (by omega); replace XB := Lib.hid (show Below wr.heap.size wr ((wr.alloc (.cells #[.int .i64 0, .int .i64 0, .slice none 0 0] 47)).drew) from belo); replace X := Lib.hid (show Sb w.heap.size w ((wr.alloc (.cells #[.int .i64 0, .int .i64 0, .slice none 0 0] 47)).drew) _ from (X.out.push [.int .i64 0, .int .i64 0, .slice none 0 0] 47 (g := g9) hg9)); have L9 : g9 < ((wr.alloc (.cells #[.int .i64 0, .int .i64 0, .slice none 0 0] 47)).drew).heap.size := (by simp; omega); rw [hg9]; generalize (wr.alloc (.cells #[.int .i64 0, .int .i64 0, .slice none 0 0] 47)).drew = xD at *; clear hg9)); clear t0 t1 e0 e1 e2; obtain ⟨⟨t0, t1⟩, -⟩ := (X.out.bx (w.heap.size, [.int .i64 (n : Int), .slice (some ⟨b0, off, none⟩) d.gs.length c]) (by simp)).c2; have e0 := (X.out.bel.cell hgb).trans G0.out; have e1 := (X.out.bel.cell hgb).trans G1.out; have e2 := (X.out.bel.cell hgb).trans G2.out)
          refine hK.out _ _ ?_ (fun hHeld3 => ?_)
          · ((try dsimp only); (exact ⟨t0, t1, e0, e1, e2⟩))
          clear hB hK K hHeld0
          refine AnyB.each (rs := [7]) (by kernel_rfl) (by simp) ?_
          refine EachB.cons rfl (fun K hK hB => ?_) ?_
          · skip
            (go_simp; go_at_call 83; refine (GM.out kk ga gb _ HGT.out).mono ?_; rintro e xA ⟨a1, p1, rfl, hO, hxA⟩; (try (have HN := Lib.hid (show (Value.slice a1 (N * N) p1).ownBlock ≠ some g9 from fun e9 => by have := (World.ownsRow.lt (show World.ownsRow _ _ _ _ _ _ _ from hO) g9 e9).1; omega))); replace XB := Lib.hid (Below.trans XB.out (hxA.mono XB.out.size)); have O := Lib.hid hO; replace X := Lib.hid (X.out.call hxA); clear hxA hO; clear t0 t1 e0 e1 e2; obtain ⟨⟨t0, t1⟩, -⟩ := (X.out.bx (w.heap.size, [.int .i64 (n : Int), .slice (some ⟨b0, off, none⟩) d.gs.length c]) (by simp)).c2; have e0 := (X.out.bel.cell hgb).trans G0.out; have e1 := (X.out.bel.cell hgb).trans G1.out; have e2 := (X.out.bel.cell hgb).trans G2.out; dsimp only)
            refine hK.out _ _ ?_ (fun hHeld4 => ?_)
            · ((try dsimp only); (exact ⟨t0, t1, e0, e1, e2⟩))
            clear hB hK K hHeld3
            refine AnyB.tq (i := 8) (h := ?_)
            refine AnyB.tq (i := 9) (h := ?_)
            refine AnyB.tq (i := 10) (h := ?_)
            refine AnyB.each (rs := [12]) (by kernel_rfl) (by simp) ?_
            refine EachB.cons rfl (fun K hK hB => ?_) ?_
            · skip
              (obtain ⟨⟨y0, y1, y2⟩, q0, q1, q2⟩ := X.out.head.c3; go_simp; clear y0 y1 y2 q0 q1 q2; have X9 := Lib.hid (((X.out.set0 0 (.int .i64 (N : Int))).set0 1 (.int .i64 (N : Int))).set0 2 (.slice a1 (N * N) p1)); have O9 := Lib.hid (own_set_ne (own_set_ne (own_set_ne (show World.ownsRow _ _ _ _ _ _ _ from O.out) (a := ⟨g9, 0, none⟩) HN.out (.int .i64 (N : Int))) (a := ⟨g9, 1, none⟩) HN.out (.int .i64 (N : Int))) (a := ⟨g9, 2, none⟩) HN.out (.slice a1 (N * N) p1)); have XB9 := Lib.hid (Below.setCell (Below.setCell (Below.setCell XB.out (show wr.heap.size ≤ g9 from G9) (.int .i64 (N : Int)) (p := ⟨g9, 0, none⟩)) (show wr.heap.size ≤ g9 from G9) (.int .i64 (N : Int)) (p := ⟨g9, 1, none⟩)) (show wr.heap.size ≤ g9 from G9) (.slice a1 (N * N) p1) (p := ⟨g9, 2, none⟩)); clear t0 t1 e0 e1 e2; clear X O XB)
              refine hB.out _ _ rfl ?_
              clear hB hK K
              refine AnyB.tq (i := 13) (h := ?_)
              refine AnyB.none (by kernel_rfl) ?_ _
              go_wp2_with fail
              go_meet
              exact ⟨g9, a1, p1, rfl, rfl, X9, OwnE.rd (show OwnE _ _ 86 (.slice a1 (N * N) p1) Dy.cs 5 (cellsTo N (gmD n kk ga gb) (N * N)) from O9.out), HM.out.call XB9.out⟩
            exact EachB.nil
          exact EachB.nil
        exact EachB.nil
      case rest =>
        obtain ⟨g9, a1, p1, rfl, rfl, X9, R9, HM9⟩ := hcut
        clear X HM t0 t1
        obtain ⟨⟨y0, y1, y2⟩, -⟩ := X9.out.head.c3
        obtain ⟨⟨z0, z1, z2⟩, q0, q1, q2⟩ := (X9.out.at 2 rfl).c3
        go_wp2_with fail
        clear y0 y1 y2 z0 z1 z2 q0 q1 q2
        refine (MG.out k kk ga gb hlt HGG.out HGT.out _ a1 a4 p1 cap4 R9.out (HM9.out.rd X9.out.bel hB)).mono ?_; rintro e wm ⟨a2, p2, rfl, hO, hxm⟩
        have hsz := X9.out.lt1
        have X := Lib.hid (X9.out.call hxm).tail
        have hl9 := (X9.out.at 1 rfl).lt
        have O := Lib.hid (OwnE.le hO (show w.heap.size + 3 ≤ _ by omega))
        clear X9 R9 HM9 hxm hO hsz hl9
        obtain ⟨⟨z0, z1, z2⟩, q0, q1, q2⟩ := (X.out.at 1 rfl).c3
        have X5 := Lib.hid (((X.out.set1 0 (.int .i64 (N : Int))).set1 1 (.int .i64 (N : Int))).set1 2 (.slice a2 (N * N) p2))
        have O5 := Lib.hid (OwnE.set (OwnE.set (OwnE.set O.out (a := ⟨w.heap.size + 1, 0, none⟩) (by dsimp only; omega) (.int .i64 (N : Int))) (a := ⟨w.heap.size + 1, 1, none⟩) (by dsimp only; omega) (.int .i64 (N : Int))) (a := ⟨w.heap.size + 1, 2, none⟩) (by dsimp only; omega) (.slice a2 (N * N) p2))
        go_wp2_with fail
        go_roundw
        case rel => exact ⟨k + 1, a2, p2, rfl, by go_num, by omega, X5, (show Mx _ _ _ _ _ _ _ from .inr O5.out)⟩
        case measure => simp [intOf]; omega
    · have i1 : ¬ (k : Int) < (d.gs.length : Int) := by omega
      obtain rfl : k = d.gs.length := by omega
      obtain ⟨⟨y0, y1, y2⟩, -⟩ := (X.out.at 1 rfl).c3
      obtain ⟨⟨z0, z1, z2⟩, q0, q1, q2⟩ := X.out.head.c3
      have X9 := Lib.hid (((X.out.set0 0 (.int .i64 (N : Int))).set0 1 (.int .i64 (N : Int))).set0 2 (.slice a4 (N * N) cap4))
      have HMF := Lib.hid (show OwM (((wr.setCell ⟨w.heap.size + 1 + 1, 0, none⟩ (.int .i64 (N : Int))).setCell ⟨w.heap.size + 1 + 1, 1, none⟩ (.int .i64 (N : Int))).setCell ⟨w.heap.size + 1 + 1, 2, none⟩ (.slice a4 (N * N) cap4)) B N a4 cap4 (F d.gs.length) from by
        rcases HM.out with h | h
        · exact OwnE.below h X9.out.bel rfl
        · exact OwnE.le (OwnE.set (OwnE.set (OwnE.set h (a := ⟨w.heap.size + 1 + 1, 0, none⟩) (by dsimp only; omega) _) (a := ⟨w.heap.size + 1 + 1, 1, none⟩) (by dsimp only; omega) _) (a := ⟨w.heap.size + 1 + 1, 2, none⟩) (by dsimp only; omega) _) (by omega))
      go_wp2_with fail
      clear y0 y1 y2 z0 z1 z2 q0 q1 q2
      obtain ⟨⟨z0, z1, z2⟩, -⟩ := X9.out.head.c3
      exact bodyPost_ret (v := .tuple #[.agg #[.int .i64 (N : Int), .int .i64 (N : Int), .slice a4 (N * N) cap4], .bool true]) (by simp [results, Tryz.results47, go_sem, z0, z1, z2]) rfl ⟨a4, cap4, rfl, HMF.out, X9.out.bel⟩
set_option maxHeartbeats 2000000 in
theorem impl_OperatorOf_ok (d : Circ) (n : Nat) (h : clifB d = true) (hn : d.n = (n : Int)) (h3 : n ≤ 3) (hl : d.gs.length ≤ 9) (v : Value) (w : World) (hv : RdE w v E3.cs 3 d.gs) :
    Calls Tryz.prog 16 #[.agg #[.int .i64 (n : Int), v]] w fun e w' => MatOwn w (2 ^ n) (2 ^ n) (opF n d.gs d.gs.length) e w' := by
  have hn1 := (clif_n h hn).1
  have hcb : circB d = true := by
    unfold clifB at h
    exact ((Bool.and_eq_true _ _).mp h).1
  have CV := Lib.hid (fun W (hr : RdE W v E3.cs 3 d.gs) => impl_IsValidCircuit_any v d W hr (by omega))
  have HCB := Lib.hid hcb
  have CI := Lib.hid (fun W => impl_IdentityMatrix_ok (2 ^ n) (dim_pow (by omega)) W)
  have CA := Lib.hid (fun W (hr : RdE W v E3.cs 3 d.gs) a cap B hB (hm : OwM W B (2 ^ n) a cap (opF n d.gs 0)) => impl_applied_ok d n h hn h3 hl v W hr a cap B hB hm)
  rw [opF_zero] at CA
  have HV := Lib.hid hv
  obtain ⟨A, c, rfl, _⟩ := hv.form
  have hd := (dim_pow (n := n) (by omega)).le
  have hw : IntKind.i64.wrap ((2 : Int) ^ n) = ((2 ^ n : Nat) : Int) := by
    rw [show ((2 : Int) ^ n) = ((2 ^ n : Nat) : Int) by push_cast; rfl]
    exact IntWalk.i64_in _ (by omega)
  have m0 : (0 : Int) ≤ n := by omega
  have m1 : (n : Int) ≤ 3 := by omega
  rw [hn] at CV
  obtain ⟨N, hN⟩ : ∃ N, N = 2 ^ n := ⟨_, rfl⟩
  rw [← hN] at CI CA hd hw ⊢
  obtain ⟨F, hF⟩ : ∃ F, F = opF n d.gs d.gs.length := ⟨_, rfl⟩
  rw [← hF] at CA ⊢
  have X := Lib.hid (((Sb.nil w).push [.int .i64 (n : Int), .slice A d.gs.length c] 25 rfl).push [.int .i64 0, .int .i64 0, .slice none 0 0] 47 (g := w.heap.size + 1) (by simp))
  clear hv hcb h hn h3 hl hF hN hn1
  go_enter Tryz.func16, Tryz.ntmps16
  go_wp2_with fail
  generalize ((w.alloc (.cells #[.int .i64 (n : Int), .slice A d.gs.length c] 25)).alloc (.cells #[.int .i64 0, .int .i64 0, .slice none 0 0] 47)) = w1 at *
  refine (CV.out _ (RdE.below HV.out X.out.bel rfl)).mono ?_; rintro e w2 ⟨rfl, hb2⟩; rw [HCB.out]
  replace X := Lib.hid (X.out.call hb2)
  clear hb2 CV
  obtain ⟨⟨t0, t1⟩, -⟩ := (X.out.at 1 rfl).c2
  go_wp2_with fail
  clear t0 t1
  have hlw := X.out.lt
  refine (CI.out _).mono ?_; rintro e w3 ⟨ai, pi, rfl, hOi, hb3⟩
  replace X := Lib.hid (X.out.call hb3)
  have hl3 := X.out.lt
  have hl2 : w.heap.size + 2 ≤ w3.heap.size := by omega
  have RI := Lib.hid (OwnE.below (show OwM w3 (w.heap.size + 2) N ai pi idD from OwnE.le hOi (by have := hlw; omega)) (show Below w3.heap.size w3 (w3.alloc (.cells #[.int .i64 (N : Int), .int .i64 (N : Int), .slice ai (N * N) pi] 47)) from belo) rfl)
  have X4 := Lib.hid (X.out.push [.int .i64 (N : Int), .int .i64 (N : Int), .slice ai (N * N) pi] 47 (g := w3.heap.size) rfl)
  clear hb3 hOi CI X hlw hl3
  obtain ⟨⟨t0, t1⟩, -⟩ := (X4.out.at 2 rfl).c2
  go_wp2_with fail
  clear t0 t1
  refine (CA.out _ (RdE.below HV.out X4.out.bel rfl) ai pi (w.heap.size + 2) (by simp; omega) RI.out).mono ?_; rintro e w5 ⟨ar, pr, rfl, hR, hb5⟩
  have X5 := Lib.hid (X4.out.call hb5)
  clear X4 hb5 CA RI
  obtain ⟨⟨z0, z1, z2⟩, q0, q1, q2⟩ := (X5.out.at 1 rfl).c3
  have X9 := Lib.hid (((X5.out.set1 0 (.int .i64 (N : Int))).set1 1 (.int .i64 (N : Int))).set1 2 (.slice ar (N * N) pr))
  have O9 := Lib.hid (OwnE.set (OwnE.set (OwnE.set hR (a := ⟨w.heap.size + 1, 0, none⟩) (by dsimp only; omega) (.int .i64 (N : Int))) (a := ⟨w.heap.size + 1, 1, none⟩) (by dsimp only; omega) (.int .i64 (N : Int))) (a := ⟨w.heap.size + 1, 2, none⟩) (by dsimp only; omega) (.slice ar (N * N) pr))
  clear hR
  go_wp2_with fail
  clear z0 z1 z2 q0 q1 q2
  obtain ⟨⟨z0, z1, z2⟩, -⟩ := (X9.out.at 1 rfl).c3
  exact bodyPost_ret (v := .tuple #[.agg #[.int .i64 (N : Int), .int .i64 (N : Int), .slice ar (N * N) pr], .bool true]) (by simp [results, Tryz.results16, go_sem, z0, z1, z2]) rfl ⟨ar, pr, rfl, OwnE.le O9.out (by omega), X9.out.bel⟩
end Go.Proofs.YtnckabohlakbgaaGreat
