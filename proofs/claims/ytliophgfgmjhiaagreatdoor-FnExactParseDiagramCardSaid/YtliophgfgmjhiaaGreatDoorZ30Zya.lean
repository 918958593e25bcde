/- ParseDiagram: the reference's answer. -/
import Derived.Test.YtliophgfgmjhiaaGreatDoorZ28Zy7
import Derived.Test.YtliophgfgmjhiaaGreatDoorZ29Zyd
import Derived.BigRegion
namespace Go.Proofs.YtliophgfgmjhiaaGreatDoor
set_option linter.unusedSimpArgs false
set_option linter.unusedVariables false
set_option linter.unnecessarySimpa false
set_option maxRecDepth 200000
open Go.ChangeShapes Go.WideShapes Go.ChangeAt Go.RowKit

set_option maxHeartbeats 4000000 in
theorem spec_ParseDiagram_any (s : ByteArray) (w : World) (hs : s.size ≤ 1048576) :
    Calls Tryz.prog 4 #[.string s] w fun e w' => ParseRes s w e w' := by
  go_enter Tryz.func4, Tryz.ntmps4
  go_wp2_with fail
  have R0 := Lib.hid (BoxD.new w 0 (.slice none 0 0) (.slice none 0 0) 0 0)
  have B0 := Lib.hid (show Below w.heap.size w (w.alloc (.cells #[.int .i64 0, .slice none 0 0, .slice none 0 0, .int .i64 0, .int .i64 0] 25)) from (by repeat (first | exact Below.refl _ _ | assumption | refine Below.drew ?_ | refine below_drewN ?_ _ | refine Below.alloc ?_ (by first | omega | (simp <;> omega)) _ | refine Below.setCell ?_ (by first | omega | (simp <;> omega)) _ | refine Below.trans ?_ (Below.mono (by assumption) (by first | omega | (simp <;> omega))))))
  refine (spec_l16Parse_any s _ hs).mono ?_; rintro e w2 ⟨d, v0, v1, q, rfl, hD, hP, hb2⟩
  have hR := Lib.hid (R0.out.bel hb2)
  have hB := Lib.hid (below_step B0.out hb2)
  have z2 := hb2.size
  have HD := Lib.hid (show DiaIn w2 (w.heap.size + 1) d v0 v1 from hD.le (by simp))
  obtain ⟨a0, k0, rfl⟩ := hD.1.forms
  obtain ⟨a1, k1, rfl⟩ := hD.2.1.forms
  simp at z2
  clear hb2 R0 B0 hD
  cases q with
  | false =>
    have HP := Lib.hid (show Parsed s Dia.zero false from hP)
    have r0 := hR.out.c0; have r1 := hR.out.c1; have r2 := hR.out.c2; have r3 := hR.out.c3; have r4 := hR.out.c4; have l0 := hR.out.f0; have l1 := hR.out.f1; have l2 := hR.out.f2; have l3 := hR.out.f3; have l4 := hR.out.f4
    have hRX := hR.out.alloc (.cells #[.int .i64 d.n, .slice a0 d.ns.length k0, .slice a1 d.ws.length k1, .int .i64 d.turn, .int .i64 d.root] 25)
    have r0' := hRX.c0; have r1' := hRX.c1; have r2' := hRX.c2; have r3' := hRX.c3; have r4' := hRX.c4; have l0' := hRX.f0; have l1' := hRX.f1; have l2' := hRX.f2; have l3' := hRX.f3; have l4' := hRX.f4
    have BX := Lib.hid (show Below w.heap.size w (w2.alloc (.cells #[.int .i64 d.n, .slice a0 d.ns.length k0, .slice a1 d.ws.length k1, .int .i64 d.turn, .int .i64 d.root] 25)) from Below.alloc hB.out (by omega) _)
    clear hP hRX
    go_wp2_with fail
    exact bodyPost_ret (v := .tuple #[.agg #[.int .i64 0, .slice none 0 0, .slice none 0 0, .int .i64 0, .int .i64 0], .bool false]) (by simp [results, Tryz.results4, go_sem, r0', r1', r2', r3', r4']; done) rfl (.of ⟨Dia.zero, .slice none 0 0, .slice none 0 0, false, rfl, ⟨OwnE.nil _ _ _, OwnE.nil _ _ _, fun g h => (by cases h)⟩, HP.out, Below.setCell (Below.setCell (Below.setCell (Below.setCell (Below.setCell BX.out (Nat.le_refl _) _) (Nat.le_refl _) _) (Nat.le_refl _) _) (Nat.le_refl _) _) (Nat.le_refl _) _⟩)
  | true =>
    have HP := Lib.hid (show Parsed s d true from hP)
    have hRX := hR.out.alloc (.cells #[.int .i64 d.n, .slice a0 d.ns.length k0, .slice a1 d.ws.length k1, .int .i64 d.turn, .int .i64 d.root] 25)
    have r0' := hRX.c0; have r1' := hRX.c1; have r2' := hRX.c2; have r3' := hRX.c3; have r4' := hRX.c4; have l0' := hRX.f0; have l1' := hRX.f1; have l2' := hRX.f2; have l3' := hRX.f3; have l4' := hRX.f4
    have BX := Lib.hid (show Below w.heap.size w (w2.alloc (.cells #[.int .i64 d.n, .slice a0 d.ns.length k0, .slice a1 d.ws.length k1, .int .i64 d.turn, .int .i64 d.root] 25)) from Below.alloc hB.out (by omega) _)
    have HDX := Lib.hid (show DiaIn (w2.alloc (.cells #[.int .i64 d.n, .slice a0 d.ns.length k0, .slice a1 d.ws.length k1, .int .i64 d.turn, .int .i64 d.root] 25)) (w.heap.size + 1) d (.slice a0 d.ns.length k0) (.slice a1 d.ws.length k1) from HD.out.below (show Below w2.heap.size w2 _ from (by repeat (first | exact Below.refl _ _ | assumption | refine Below.drew ?_ | refine below_drewN ?_ _ | refine Below.alloc ?_ (by first | omega | (simp <;> omega)) _ | refine Below.setCell ?_ (by first | omega | (simp <;> omega)) _ | refine Below.trans ?_ (Below.mono (by assumption) (by first | omega | (simp <;> omega)))))))
    have hlt : w.heap.size < w.heap.size + 1 := Nat.lt_succ_self _
    clear hP hRX
    go_wp2_with fail
    exact bodyPost_ret (v := .tuple #[.agg #[.int .i64 d.n, .slice a0 d.ns.length k0, .slice a1 d.ws.length k1, .int .i64 d.turn, .int .i64 d.root], .bool true]) (by simp [results, Tryz.results4, go_sem, r0', r1', r2', r3', r4']; done) rfl (.of ⟨d, _, _, true, rfl, (((((HDX.out.set hlt _).set hlt _).set hlt _).set hlt _).set hlt _).le (Nat.le_succ _), HP.out, Below.setCell (Below.setCell (Below.setCell (Below.setCell (Below.setCell BX.out (Nat.le_refl _) _) (Nat.le_refl _) _) (Nat.le_refl _) _) (Nat.le_refl _) _) (Nat.le_refl _) _⟩)
end Go.Proofs.YtliophgfgmjhiaaGreatDoor
